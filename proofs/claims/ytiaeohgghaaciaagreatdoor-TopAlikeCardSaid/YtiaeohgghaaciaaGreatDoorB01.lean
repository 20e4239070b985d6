import Derived.Below
import Derived.ChangeArms
import Derived.ChangeOld
import Derived.Deep.AppendLies
import Derived.Deep.Draws
import Derived.Laws.AppendOwn
import Derived.Laws.Entries
import Derived.Laws.OwnMore
import Derived.Laws.Rows
import Derived.Laws.Sem
import Derived.Laws.Slices
import Derived.Laws.Strings
import Derived.Lib.Hide
import Derived.Maps.Own
import Derived.OwnWalk
import Derived.Tactics
import Derived.WalkKit
import Derived.Test.YtiaeohgghaaciaaGreatDoorProg
namespace Go
open RowKit
theorem Calls.aQ{P:Program}{f:FuncId}{a:Array Value}{w:World}{v:Value}{Q:World→Prop}{K:Ending→World→Prop}(h:Calls P f a w fun e Z=>e= .returned v∧Q Z)(k:∀Z,Q Z→K (.returned v) Z):Calls P f a w K:=
 h.mono (by rintro e Z ⟨rfl,h⟩;exact k Z h)
theorem RowKit.Hid.vI{p:Prop}(h:Hid p):p:=h.out
end Go
namespace Go.Proofs.YtiaeohgghaaciaaGreatDoor
open Go Go.Maps Go.RowKit Go.Extern.Stop Go.Stop Go.Extern Go.Proofs.Tryz
set_option linter.all false
set_option maxRecDepth 100000
set_option maxHeartbeats 4000000
variable{cs:Array Value}{base c cap g i k n size:Nat}{e t:TypeId}{v:Value}{w w':World}
def bF(w:World)(g:Nat)(t:TypeId)(cs:Array Value):Prop:=w.heap[g]? =some (.cells cs t (0,0))
section
variable{w w':World}{g:Nat}{t:TypeId}{cs:Array Value}
theorem bF.lt(h:bF w g t cs):g<w.heap.size:=by
 rcases Nat.lt_or_ge g w.heap.size with Z|Y
 ·exact Z
 ·unfold bF at h;rw[Array.getElem?_eq_none Y]at h;cases h
theorem bF.cell(h:bF w g t cs)(i:Nat):w.cell? ⟨g,i,none⟩=cs[i]? :=cell_of_row w g i cs t (0,0) h
theorem bF.frozen(h:bF w g t cs)(i:Nat):w.frozen? ⟨g,i,none⟩=false:=by unfold bF at h;simp[World.frozen?,h]
theorem bF.new(w:World)(t:TypeId)(cs:Array Value):bF (w.alloc (.cells cs t)) w.heap.size t cs:=heap_alloc_new w _
theorem bF.new1(w:World)(o:Obj)(t:TypeId)(cs:Array Value):bF ((w.alloc o).alloc (.cells cs t)) (w.heap.size+1) t cs:=by
 have:=bF.new (w.alloc o) t cs;simpa using this
theorem bF.alloc(h:bF w g t cs)(o:Obj):bF (w.alloc o) g t cs:=(Below.heap_alloc w o g h.lt).trans h
theorem bF.drew(h:bF w g t cs):bF w.drew g t cs:=h
theorem bF.drewN(h:bF w g t cs)(n:Nat):bF (w.drewN n) g t cs:=h
theorem bF.store(h:bF w g t cs)(i:Nat)(u:Value):bF (w.setCell ⟨g,i,none⟩ u) g t (cs.setIfInBounds i u):=by
 unfold bF at h ⊢;simp[World.setCell,Array.getElem?_modify,h]
theorem bF.far(h:bF w g t cs){p:Addr}(Z:g≠p.block)(u:Value):bF (w.setCell p u) g t cs:=(Below.heap_setCell w p u g Z).trans h
theorem bF.below{B:Nat}(h:bF w g t cs)(Z:Below B w w')(Y:g<B):bF w' g t cs:=(Z.block g Y).trans h
theorem bF.keep(h:bF w g t cs)(Z:Below w.heap.size w w'):bF w' g t cs:=h.below Z h.lt
theorem bF.grown{Z:Option Nat}(h:bF w g t cs)(Y:w.grownBy w' Z)(X:some g≠Z):bF w' g t cs:=(Y.block g h.lt X).trans h
theorem bF.apart{t':TypeId}{Y:Array Value}(h:bF w g t cs)(Z:bF w i t' Y)(X:t≠t'):g≠i:=by
 rintro rfl;unfold bF at h Z;rw[h]at Z;injection Z with Z
 injection Z with _ W
 exact X W
end
theorem dP{Y:List Value}(h:w.ownsRow base e size v n Y)(X:bF w g t cs)(Z:e≠t):v.ownBlock≠some g:=by
 rcases h.2 with⟨rfl,_⟩|⟨W,T,S,rfl,_,V,_⟩
 ·simp[Value.ownBlock]
 ·intro U
  have:W=g:=by simpa[Value.ownBlock]using U
  subst this;exact bF.apart V X Z rfl
theorem IK{Y:List Value}(h:w.ownsRow base e size v n Y):∃A Z,v= .slice A n Z:=by
 rcases h.2 with⟨rfl,rfl⟩|⟨W,Z,X,rfl,_⟩<;>exact⟨_,_,rfl⟩
theorem lt_of_cell{a:Addr}(h:w.cell? a=some v):a.block<w.heap.size:=World.block_lt_of_cell? w a h
theorem aC{a:Addr}(h:w.cell? a=some v)(Z:Below w.heap.size w w'):w'.cell? a=some v:=
 (Z.cell (lt_of_cell h)).trans h
theorem add_add(a:Addr)(i j:Nat):(a.add i).add j=a.add (i+j):=by
 unfold Addr.add
 by_cases Z:i=0<;>by_cases Y:j=0<;>simp[Z,Y,Nat.add_assoc]
theorem add_zero'(a:Addr):a.add 0=a:=by simp[Addr.add]
theorem KG{a:World}{Z:Option Nat}(h:a.grownBy w Z)(o:Obj):a.grownBy (w.alloc o) Z:=
 ⟨h.os,h.tape,h.output,Nat.le_trans h.size (by simp),fun i X Y=>(Below.heap_alloc w o i (Nat.lt_of_lt_of_le X h.size)).trans (h.block i X Y)⟩
theorem P6{a:World}(h:a.grownBy w (some g)){p:Addr}(Y:p.block=g∨a.heap.size≤p.block)(u:Value):a.grownBy (w.setCell p u) (some g):=
 ⟨h.os,h.tape,h.output,by simpa[World.setCell]using h.size,fun i X Z=>(Below.heap_setCell w p u i (by
   rintro rfl;rcases Y with Y|Y
   ·exact Z (by rw[Y])
   ·omega)).trans (h.block i X Z)⟩
theorem U1{B:Nat}{a:World}(h:Below B a w)(Y:w.grownBy w' (some g))(X:B≤w.heap.size)(W:B≤g):Below B a w':=
 h.grown Y X (fun k Z=>by injection Z with Z;omega)
theorem below_drewN{B:Nat}{a:World}(h:Below B a w)(n:Nat):Below B a (w.drewN n):=⟨h.os,h.tape,h.output,h.size,h.block⟩
theorem add_lit(b o n:Nat):(⟨b,o,none⟩:Addr).add n=⟨b,o+n,none⟩:=by unfold Addr.add;split<;>simp_all
def Rd(w:World)(size:Nat)(A:Option Addr)(n:Nat)(Y:List Value):Prop:=
 Y.length=n*size∧(0<n→∃b Z,A=some ⟨b,Z,none⟩∧∀j u,Y[j]? =some u→w.cell? ⟨b,Z+j,none⟩=some u)
section
variable{w w':World}{size n:Nat}{A:Option Addr}{xs:List Value}
theorem Rd.nil:Rd w size A 0 []:=⟨by simp,fun h=>absurd h (by omega)⟩
theorem Rd.keep(h:Rd w size A n xs)(Y:Below w.heap.size w w'):Rd w' size A n xs:=
 ⟨h.1,fun X=>by
   obtain⟨b,Z,e,W⟩:=h.2 X;exact⟨b,Z,e,fun j u V=>aC (W j u V) Y⟩⟩
theorem Rd.alloc(h:Rd w size A n xs)(o:Obj):Rd (w.alloc o) size A n xs:=h.keep ((Below.refl _ _).alloc (Nat.le_refl _) _)
theorem Rd.drew(h:Rd w size A n xs):Rd w.drew size A n xs:=h
theorem Rd.ER(h:w.ownsRow base e size (.slice A n c) n xs):Rd w size A n xs:=by
 refine⟨h.1,fun Z=>?_⟩;obtain⟨g,V,Y,_,U⟩:=h.form Z;have X:A=some ⟨g,0,none⟩:=by injection Y
 subst X;exact⟨g,0,rfl,fun j u W=>by have:=h.cells rfl j u W;rwa[add_lit]at this⟩
theorem Rd.Rw{X:Addr}(V:xs.length=n*size)(h:∀j u,xs[j]? =some u→w.cell? (X.add j)=some u)(T:0<size):Rd w size (some X) n xs:=by
 refine⟨V,fun S=>?_⟩;have R:0<xs.length:=by rw[V];exact Nat.mul_pos S T
 have U:=h 0 _ (List.getElem?_eq_getElem R);rw[add_zero']at U;obtain⟨b,W,Y⟩:=X;have Z:Y=none:=by simpa using World.cell?_spot U
 subst Z;exact⟨b,W,rfl,fun j u Q=>by have:=h j u Q;rwa[add_lit]at this⟩
theorem Rd.at_(h:Rd w 1 A n xs)(W:k<n):∃b Z u,A=some ⟨b,Z,none⟩∧xs[k]? =some u∧w.cell? ⟨b,Z+k,none⟩=some u:=by
 obtain⟨b,Z,e,X⟩:=h.2 (by omega);have Y:k<xs.length:=by have:=h.1;omega
 exact⟨b,Z,xs[k],e,List.getElem?_eq_getElem Y,X k _ (List.getElem?_eq_getElem Y)⟩
theorem Rd.cut(h:Rd w size A n xs)(W:n≤cap):Rd w size (if cap=k then A else A.map (·.add (k*size))) (n-k) (xs.drop (k*size)):=by
 refine⟨by rw[List.length_drop,h.1,Nat.sub_mul],fun V=>?_⟩;obtain⟨b,Y,rfl,Z⟩:=h.2 (by omega);rw[if_neg (by omega)];refine⟨b,Y+k*size,by simp[add_lit],fun j u X=>?_⟩;rw[Nat.add_assoc];exact Z _ u (by rw[←X,List.getElem?_drop])
theorem Rd.take(h:Rd w size A n xs){k:Nat}(W:k≤n):Rd w size A k (xs.take (k*size)):=by
 have V:k*size≤n*size:=Nat.mul_le_mul_right _ W;refine⟨by rw[List.length_take,h.1];omega,fun U=>?_⟩;obtain⟨b,X,rfl,Z⟩:=h.2 (by omega);refine⟨b,X,rfl,fun j u Y=>Z j u ?_⟩;rw[List.getElem?_take]at Y;split at Y
 ·exact Y
 ·cases Y
end
def yK(k:IntKind)(w:World)(A:Option Addr)(l:List Int):Prop:=Rd w 1 A l.length (l.map (Value.int k))
section
variable{k:IntKind}{w w':World}{A:Option Addr}{l:List Int}
theorem yK.nil:yK k w A []:=Rd.nil
theorem yK.keep(h:yK k w A l)(Z:Below w.heap.size w w'):yK k w' A l:=Rd.keep h Z
theorem yK.alloc(h:yK k w A l)(o:Obj):yK k (w.alloc o) A l:=Rd.alloc h o
theorem yK.at_{i:Nat}(h:yK k w A l)(hi:i<l.length):∃b Z,A=some ⟨b,Z,none⟩∧w.cell? ⟨b,Z+i,none⟩=some (.int k l[i]):=by
 obtain⟨b,Z,u,X,Y,W⟩:=Rd.at_ h hi;rw[List.getElem?_map,List.getElem?_eq_getElem hi]at Y;simp only[Option.map_some,Option.some.injEq]at Y;exact⟨b,Z,X,by rw[W,Y]⟩
theorem yK.take(h:yK k w A l){i:Nat}(hi:i≤l.length):yK k w A (l.take i):=by
 have:=Rd.take h hi;unfold yK;rw[List.length_take,Nat.min_eq_left hi,List.map_take];simpa using this
theorem yK.ER{base:Nat}{e:TypeId}{c n:Nat}(h:w.ownsRow base e 1 (.slice A n c) n (l.map (Value.int k))):yK k w A l∧n=l.length:=by
 have Z:n=l.length:=by have:=h.1;simpa using this.symm
 subst Z;exact⟨Rd.ER h,rfl⟩
theorem yK.Rw{Y:Addr}(h:∀i (hi:i<l.length),w.cell? (Y.add i)=some (.int k l[i])):yK k w (some Y) l:=by
 refine Rd.Rw (by simp) (fun j u Z=>?_) (by omega);rw[List.getElem?_map]at Z
 by_cases X:j<l.length
 ·rw[List.getElem?_eq_getElem X]at Z
  rw[←Z];exact h j X
 ·rw[List.getElem?_eq_none (by omega)]at Z;cases Z
end
section
variable{w:World}{g:Nat}{t:TypeId}
theorem bF.at{cs:Array Value}{i:Nat}{v:Value}(h:bF w g t cs)(e:cs[i]? =some v):w.cell? ⟨g,i,none⟩=some v:=(h.cell i).trans e
theorem bF.c0{V:Value}{l:List Value}(h:bF w g t (V::l).toArray):w.cell? ⟨g,0,none⟩=some V:=h.at rfl
theorem bF.c1{U V:Value}{l:List Value}(h:bF w g t (U::V::l).toArray):w.cell? ⟨g,1,none⟩=some V:=h.at rfl
theorem bF.c2{U Z V:Value}{l:List Value}(h:bF w g t (U::Z::V::l).toArray):w.cell? ⟨g,2,none⟩=some V:=h.at rfl
theorem bF.c3{U Z Y V:Value}{l:List Value}(h:bF w g t (U::Z::Y::V::l).toArray):w.cell? ⟨g,3,none⟩=some V:=h.at rfl
theorem bF.c4{U Z Y X V:Value}{l:List Value}(h:bF w g t (U::Z::Y::X::V::l).toArray):w.cell? ⟨g,4,none⟩=some V:=h.at rfl
theorem bF.c5{U Z Y X W V:Value}{l:List Value}(h:bF w g t (U::Z::Y::X::W::V::l).toArray):w.cell? ⟨g,5,none⟩=some V:=h.at rfl
theorem bF.c6{U Z Y X W T V:Value}{l:List Value}(h:bF w g t (U::Z::Y::X::W::T::V::l).toArray):w.cell? ⟨g,6,none⟩=some V:=h.at rfl
theorem bF.c7{U Z Y X W T S V:Value}{l:List Value}(h:bF w g t (U::Z::Y::X::W::T::S::V::l).toArray):w.cell? ⟨g,7,none⟩=some V:=h.at rfl
theorem bF.c8{U Z Y X W T S R V:Value}{l:List Value}(h:bF w g t (U::Z::Y::X::W::T::S::R::V::l).toArray):w.cell? ⟨g,8,none⟩=some V:=h.at rfl
theorem bF.c9{U Z Y X W T S R Q V:Value}{l:List Value}(h:bF w g t (U::Z::Y::X::W::T::S::R::Q::V::l).toArray):w.cell? ⟨g,9,none⟩=some V:=h.at rfl
theorem bF.c14{U T S R Q P O N M L Z Y X W V:Value}{l:List Value}(h:bF w g t (U::T::S::R::Q::P::O::N::M::L::Z::Y::X::W::V::l).toArray):w.cell? ⟨g,14,none⟩=some V:=h.at rfl
theorem bF.c16{U R Q P O N M L K J Z Y X W T S V:Value}{l:List Value}(h:bF w g t (U::R::Q::P::O::N::M::L::K::J::Z::Y::X::W::T::S::V::l).toArray):w.cell? ⟨g,16,none⟩=some V:=h.at rfl
theorem bF.c20{U N M L K J I H G F Z Y X W T S R Q P O V:Value}{l:List Value}(h:bF w g t (U::N::M::L::K::J::I::H::G::F::Z::Y::X::W::T::S::R::Q::P::O::V::l).toArray):w.cell? ⟨g,20,none⟩=some V:=h.at rfl
theorem bF.c21{U M L K J I H G F E Z Y X W T S R Q P O N V:Value}{l:List Value}(h:bF w g t (U::M::L::K::J::I::H::G::F::E::Z::Y::X::W::T::S::R::Q::P::O::N::V::l).toArray):w.cell? ⟨g,21,none⟩=some V:=h.at rfl
end
theorem kF{α:Type}(a:α):∃b,b=a:=⟨a,rfl⟩
theorem ES(w:World)(t:TypeId)(cs:Array Value):∃x:World,x=w.alloc (.cells cs t)∧bF x w.heap.size t cs∧Below w.heap.size w x:=⟨_,rfl,bF.new w t cs,(Below.refl _ _).alloc (Nat.le_refl _) _⟩
instance:CoeOut World Nat:=⟨fun w=>w.heap.size⟩
instance{α:Type}:CoeOut (List α) Nat:=⟨List.length⟩
instance:CoeTail Int Value:=⟨fun i=>.int .i64 i⟩
instance:CoeTail Nat Value:=⟨fun i=>.int .i64 i⟩
instance:CoeTail Nat (Option Addr):=⟨fun b=>some ⟨b,0,none⟩⟩
theorem bF.s13{a0 a1 a2 a3 a4 a5 a6 a7 a8 a9 a10 a11 a12:Value}{l:List Value}(h:bF w g t (a0::a1::a2::a3::a4::a5::a6::a7::a8::a9::a10::a11::a12::l).toArray):w.cell? ⟨g,0,none⟩=some a0∧w.cell? ⟨g,1,none⟩=some a1∧w.cell? ⟨g,2,none⟩=some a2∧w.cell? ⟨g,3,none⟩=some a3∧w.cell? ⟨g,4,none⟩=some a4∧w.cell? ⟨g,5,none⟩=some a5∧w.cell? ⟨g,6,none⟩=some a6∧w.cell? ⟨g,7,none⟩=some a7∧w.cell? ⟨g,8,none⟩=some a8∧w.cell? ⟨g,9,none⟩=some a9∧w.cell? ⟨g,10,none⟩=some a10∧w.cell? ⟨g,11,none⟩=some a11∧w.cell? ⟨g,12,none⟩=some a12:=⟨h.at rfl,h.at rfl,h.at rfl,h.at rfl,h.at rfl,h.at rfl,h.at rfl,h.at rfl,h.at rfl,h.at rfl,h.at rfl,h.at rfl,h.at rfl⟩
theorem bF.s12{a0 a1 a2 a3 a4 a5 a6 a7 a8 a9 a10 a11:Value}{l:List Value}(h:bF w g t (a0::a1::a2::a3::a4::a5::a6::a7::a8::a9::a10::a11::l).toArray):w.cell? ⟨g,0,none⟩=some a0∧w.cell? ⟨g,1,none⟩=some a1∧w.cell? ⟨g,2,none⟩=some a2∧w.cell? ⟨g,3,none⟩=some a3∧w.cell? ⟨g,4,none⟩=some a4∧w.cell? ⟨g,5,none⟩=some a5∧w.cell? ⟨g,6,none⟩=some a6∧w.cell? ⟨g,7,none⟩=some a7∧w.cell? ⟨g,8,none⟩=some a8∧w.cell? ⟨g,9,none⟩=some a9∧w.cell? ⟨g,10,none⟩=some a10∧w.cell? ⟨g,11,none⟩=some a11:=⟨h.at rfl,h.at rfl,h.at rfl,h.at rfl,h.at rfl,h.at rfl,h.at rfl,h.at rfl,h.at rfl,h.at rfl,h.at rfl,h.at rfl⟩
theorem bF.s10{a0 a1 a2 a3 a4 a5 a6 a7 a8 a9:Value}{l:List Value}(h:bF w g t (a0::a1::a2::a3::a4::a5::a6::a7::a8::a9::l).toArray):w.cell? ⟨g,0,none⟩=some a0∧w.cell? ⟨g,1,none⟩=some a1∧w.cell? ⟨g,2,none⟩=some a2∧w.cell? ⟨g,3,none⟩=some a3∧w.cell? ⟨g,4,none⟩=some a4∧w.cell? ⟨g,5,none⟩=some a5∧w.cell? ⟨g,6,none⟩=some a6∧w.cell? ⟨g,7,none⟩=some a7∧w.cell? ⟨g,8,none⟩=some a8∧w.cell? ⟨g,9,none⟩=some a9:=⟨h.at rfl,h.at rfl,h.at rfl,h.at rfl,h.at rfl,h.at rfl,h.at rfl,h.at rfl,h.at rfl,h.at rfl⟩
theorem bF.s8{a0 a1 a2 a3 a4 a5 a6 a7:Value}{l:List Value}(h:bF w g t (a0::a1::a2::a3::a4::a5::a6::a7::l).toArray):w.cell? ⟨g,0,none⟩=some a0∧w.cell? ⟨g,1,none⟩=some a1∧w.cell? ⟨g,2,none⟩=some a2∧w.cell? ⟨g,3,none⟩=some a3∧w.cell? ⟨g,4,none⟩=some a4∧w.cell? ⟨g,5,none⟩=some a5∧w.cell? ⟨g,6,none⟩=some a6∧w.cell? ⟨g,7,none⟩=some a7:=⟨h.at rfl,h.at rfl,h.at rfl,h.at rfl,h.at rfl,h.at rfl,h.at rfl,h.at rfl⟩
theorem bF.s6{a0 a1 a2 a3 a4 a5:Value}{l:List Value}(h:bF w g t (a0::a1::a2::a3::a4::a5::l).toArray):w.cell? ⟨g,0,none⟩=some a0∧w.cell? ⟨g,1,none⟩=some a1∧w.cell? ⟨g,2,none⟩=some a2∧w.cell? ⟨g,3,none⟩=some a3∧w.cell? ⟨g,4,none⟩=some a4∧w.cell? ⟨g,5,none⟩=some a5:=⟨h.at rfl,h.at rfl,h.at rfl,h.at rfl,h.at rfl,h.at rfl⟩
theorem bF.s5{a0 a1 a2 a3 a4:Value}{l:List Value}(h:bF w g t (a0::a1::a2::a3::a4::l).toArray):w.cell? ⟨g,0,none⟩=some a0∧w.cell? ⟨g,1,none⟩=some a1∧w.cell? ⟨g,2,none⟩=some a2∧w.cell? ⟨g,3,none⟩=some a3∧w.cell? ⟨g,4,none⟩=some a4:=⟨h.at rfl,h.at rfl,h.at rfl,h.at rfl,h.at rfl⟩
theorem bF.s4{a0 a1 a2 a3:Value}{l:List Value}(h:bF w g t (a0::a1::a2::a3::l).toArray):w.cell? ⟨g,0,none⟩=some a0∧w.cell? ⟨g,1,none⟩=some a1∧w.cell? ⟨g,2,none⟩=some a2∧w.cell? ⟨g,3,none⟩=some a3:=⟨h.at rfl,h.at rfl,h.at rfl,h.at rfl⟩
theorem bF.s3{a0 a1 a2:Value}{l:List Value}(h:bF w g t (a0::a1::a2::l).toArray):w.cell? ⟨g,0,none⟩=some a0∧w.cell? ⟨g,1,none⟩=some a1∧w.cell? ⟨g,2,none⟩=some a2:=⟨h.at rfl,h.at rfl,h.at rfl⟩
theorem GI{p0 p1 p2 p3 p4 p5 p6 p7:Prop}(a0:p0)(a1:p1)(a2:p2)(a3:p3)(a4:p4)(a5:p5)(a6:p6)(a7:p7):Hid p0∧Hid p1∧Hid p2∧Hid p3∧Hid p4∧Hid p5∧Hid p6∧Hid p7:=⟨Lib.hid a0,Lib.hid a1,Lib.hid a2,Lib.hid a3,Lib.hid a4,Lib.hid a5,Lib.hid a6,Lib.hid a7⟩
theorem U2{p0 p1 p2 p3 p4 p5 p6:Prop}(a0:p0)(a1:p1)(a2:p2)(a3:p3)(a4:p4)(a5:p5)(a6:p6):Hid p0∧Hid p1∧Hid p2∧Hid p3∧Hid p4∧Hid p5∧Hid p6:=⟨Lib.hid a0,Lib.hid a1,Lib.hid a2,Lib.hid a3,Lib.hid a4,Lib.hid a5,Lib.hid a6⟩
theorem MP{p0 p1 p2 p3 p4 p5:Prop}(a0:p0)(a1:p1)(a2:p2)(a3:p3)(a4:p4)(a5:p5):Hid p0∧Hid p1∧Hid p2∧Hid p3∧Hid p4∧Hid p5:=⟨Lib.hid a0,Lib.hid a1,Lib.hid a2,Lib.hid a3,Lib.hid a4,Lib.hid a5⟩
theorem rG{p0 p1 p2 p3 p4:Prop}(a0:p0)(a1:p1)(a2:p2)(a3:p3)(a4:p4):Hid p0∧Hid p1∧Hid p2∧Hid p3∧Hid p4:=⟨Lib.hid a0,Lib.hid a1,Lib.hid a2,Lib.hid a3,Lib.hid a4⟩
theorem jH{p0 p1 p2 p3:Prop}(a0:p0)(a1:p1)(a2:p2)(a3:p3):Hid p0∧Hid p1∧Hid p2∧Hid p3:=⟨Lib.hid a0,Lib.hid a1,Lib.hid a2,Lib.hid a3⟩
theorem dB{p0 p1 p2:Prop}(a0:p0)(a1:p1)(a2:p2):Hid p0∧Hid p1∧Hid p2:=⟨Lib.hid a0,Lib.hid a1,Lib.hid a2⟩
theorem aV{p0 p1:Prop}(a0:p0)(a1:p1):Hid p0∧Hid p1:=⟨Lib.hid a0,Lib.hid a1⟩
theorem aj{p:Prop}(h:p:=by omega):p:=h
theorem aW{p:Prop}(h:p:=by kernel_rfl):p:=h
theorem bn{p:Prop}(h:p:=by decide):p:=h
theorem bK{p:Prop}(h:p:=by simp):p:=h
theorem fA{p:Prop}(h:p:=by go_num):p:=h
theorem jy{p:Prop}(h:p:=by simp;omega):p:=h
theorem kE{p:Prop}(h:p:=by rfl):p:=h
theorem Ht{p:Prop}(h:p:=by grind):p:=h
theorem ay{p:Prop}(h:p):Hid p:=Lib.hid h
abbrev dG:=@List.getD_eq_getElem?_getD
abbrev aU:=@Below.refl
abbrev fP:=@List.getElem?_eq_getElem
abbrev bC:=@Nat.le_refl
abbrev dD:=@Nat.le_trans
abbrev iE:=@IntWalk.i64_in
abbrev U3:=@IntWalk.wrap64_in
abbrev mG:=@List.length_append
abbrev lS:=@List.getElem_mem
abbrev BH:=@List.take_succ_eq_append_getElem
abbrev wO:=@List.take_of_length_le
abbrev pG:=@List.length_set
abbrev rH:=@List.mem_append
abbrev wP:=@Nat.lt_of_lt_of_le
abbrev xO:=@List.length_take
abbrev wQ:=@List.append_assoc
abbrev ET:=@List.getElem?_append_right
abbrev xP:=@Decidable.not_not
abbrev D6:=@Int.eq_ofNat_of_zero_le
abbrev xQ:=@List.length_cons
abbrev D7:=@List.mem_of_mem_take
abbrev IU:=@List.getElem?_eq_none
abbrev yH:=@List.mem_range
abbrev D8:=@Nat.eq_zero_or_pos
abbrev Hu:=@Option.isSome_iff_exists
abbrev oO:=@beq_eq_false_iff_ne
abbrev lV:=@heap_alloc_new
abbrev jM:=@below_drewN
abbrev su:=@decide_eq_true
abbrev vH:=@decide_eq_false
abbrev tu:=@of_decide_eq_true
abbrev JD:=@List.getElem?_append_left
abbrev Hw:=@List.length_drop
abbrev FH:=@List.mem_map
abbrev Rx:=@List.getElem?_drop
abbrev aB(x:Int):Value:=.int .i64 x
abbrev aN(w:World)(b i:Nat)(v:Value):Prop:=w.cell? ⟨b,i,none⟩=some v
abbrev aP(w w':World):Prop:=Below w.heap.size w w'
abbrev BG(b:Nat):Value:=.pointer (some ⟨b,0,none⟩)
abbrev bU:Value:=.slice none 0 0
abbrev aG(a:Option Addr)(n c:Nat):Value:=.slice a n c
abbrev aS(c:Array Value)(t:TypeId):Obj:=.cells c t
abbrev bM(v:Value):Ending:=.returned v
abbrev iI:Value:=.nilIface
abbrev aY(a:Option Addr):Value:=.pointer a
abbrev eP(a:Array Value):Value:=.tuple a
abbrev aO:=List Int
abbrev dK:=Option Addr
abbrev aK:=World
abbrev cO:=Value
abbrev aH(b i:Nat):Addr:=⟨b,i,none⟩
theorem sD{α β:Type}{a:α}{b:β}:a=a∧b=b:=⟨rfl,rfl⟩
abbrev au:=@if_neg
abbrev aF:=@if_pos
abbrev aT:=@Go.bodyPost_ret
abbrev bf:=@congrArg
abbrev dI:=@Nat.zero_add
abbrev dS:=@Nat.zero_le
abbrev dW:=@Nat.add_zero
abbrev eU:=@Go.bodyPost_end
abbrev iq:=@Go.info_parts
abbrev jP:=@Ne.symm
abbrev fC:=@Nat.mul_le_mul
abbrev gW:=@Nat.le_succ
abbrev fJ:=@List.length_map
abbrev fD:=@Option.some.injEq
abbrev iO:=@Nat.add_assoc
abbrev gG:=@List.map_append
abbrev gI:=@List.append_nil
abbrev fH:=@Go.World.news_of_block
abbrev jd:=@Prod.mk.injEq
abbrev je:=@List.mem_cons
abbrev gX:=@List.getElem?_map
abbrev iF:=@Nat.le_add_right
abbrev iw:=@List.mem_singleton
abbrev iM:=@Go.World.ownsRow_nil
abbrev iy:=@Go.wpList_append_lies
abbrev lC:=@Nat.mul_one
abbrev jk:=@List.range_succ
abbrev rJ:=@if_false
abbrev gJ:=@List.length_replicate
abbrev tN:=@if_true
abbrev jI:=@List.nil_append
abbrev gZ:=@List.mem_of_mem_drop
abbrev mJ:=@Go.Sem.run_bind
abbrev kZ:=@Go.DataW.trod_int
abbrev kJ:=@Int.ediv_nonneg
abbrev jG:=@List.length_range
abbrev jU:=@Bool.and_eq_true
abbrev jV:=@Option.getD_some
abbrev kG:=@List.any_eq_false
abbrev kS:=@List.not_mem_nil
abbrev kT:=@Nat.mod_eq_of_lt
abbrev iU:=@List.drop_of_length_le
abbrev jA:=@List.mem_iff_getElem
abbrev nM:=@Go.run_underlying
abbrev oq:=@List.map_cons
abbrev sN:=@Int.pow_pos
abbrev sO:=@Nat.add_mul
abbrev lT:=@List.any_eq_true
abbrev pO:=@Nat.le_of_lt
abbrev pI:=@Int.mul_nonneg
abbrev tV:=@Nat.pow_succ
abbrev pJ:=@List.take_left
abbrev tX:=@Nat.sub_self
abbrev jJ:=@List.getElem_append_left
abbrev ng:=@Go.run_sliceAt_slice
abbrev kP:=@List.take_append_drop
abbrev oQ:=@decide_eq_true_eq
abbrev mX:=@List.mem_of_getElem?
abbrev kW:=@List.getElem?_take_of_lt
abbrev lJ:=@Nat.le_mul_of_pos_left
abbrev kL:=@Classical.byContradiction
abbrev kM:=@List.getElem_append_right
abbrev mY:=@BitVec.ofInt_natCast
abbrev nY:=@BitVec.toNat_ofNat
abbrev jW:=@Go.DataW.trod_lt
abbrev ou:=@Option.some.inj
abbrev oC:=@List.getElem?_toArray
abbrev oW:=@Nat.pow_le_pow_right
abbrev lN:=@Array.getElem?_eq_some_iff
abbrev lX:=@List.getElem?_eq_some_iff
abbrev uJ:=@Go.wpList_make_full
abbrev vJ:=@List.sum_append
abbrev uK:=@Int.ediv_le_self
abbrev rM:=@Int.toNat_of_nonneg
abbrev lY:=@List.drop_eq_getElem_cons
abbrev uM:=@List.take_length
abbrev sQ:=@Except.error.injEq
abbrev vK:=@List.length_nil
abbrev nU:=@Option.map_eq_some_iff
abbrev nC:=@List.getElem?_replicate
abbrev sS:=@List.length_modify
abbrev rO:=@List.getD_cons_succ
abbrev tY:=@List.size_toArray
abbrev rP:=@Go.ByteArray.toList_eq
abbrev uN:=@List.getElem_map
abbrev rQ:=@List.map_congr_left
abbrev vM:=@Nat.not_lt_zero
abbrev sZ:=@List.getElem_cons_succ
abbrev rY:=@List.getElem?_cons_zero
abbrev oh:=@Array.toList_setIfInBounds
abbrev uG:=@Go.toList_madeCells_one
abbrev uH:=@Nat.mul_le_mul_right
abbrev mM:=@Int.mul_le_mul_of_nonneg_right
abbrev rZ:=@List.length_eq_zero_iff
abbrev tq:=@List.getElem_singleton
abbrev sG:=@List.eq_nil_of_length_eq_zero
abbrev nV:=@Int.mul_nonpos_of_nonpos_of_nonneg
abbrev tZ:=@Nat.two_pow_add_eq_or_of_lt
end Go.Proofs.YtiaeohgghaaciaaGreatDoor
