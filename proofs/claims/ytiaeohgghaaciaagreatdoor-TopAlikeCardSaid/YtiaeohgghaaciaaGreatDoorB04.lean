import Derived.Laws.Bits64b
import Derived.Maps.OwnOps
import Derived.Maps.OwnSet
import Derived.Maps.RangeWalk
import Derived.Test.YtiaeohgghaaciaaGreatDoorB01
namespace Go.Proofs.YtiaeohgghaaciaaGreatDoor
open Go Go.Maps Go.RowKit Go.Extern.Stop Go.Stop Go.Extern Go.Proofs.Tryz
set_option linter.all false
set_option maxRecDepth 100000
set_option maxHeartbeats 4000000
variable{cs:Array Value}{l:List Int}{base cap g h i j k last m n size x y:Nat}{S:Nat→Prop}{A:Option Addr}{e t:TypeId}{v:Value}{w:World}
structure bQ(S:Nat→Prop)(w w':World):Prop where
 os:w'.os=w.os
 tape:w'.tape=w.tape
 output:w'.output=w.output
 size:w.heap.size≤w'.heap.size
 block:∀k,k<w.heap.size→¬S k→w'.heap[k]? =w.heap[k]?
section
variable{S T:Nat→Prop}{a w w':aK}
theorem bQ.refl(S:Nat→Prop)(w:aK):bQ S w w:=⟨rfl,rfl,rfl,bC _,fun _ _ _=>rfl⟩
theorem bQ.trans{b:aK}(h:bQ S a b)(k:bQ S b w):bQ S a w:=
 ⟨k.os.trans h.os,k.tape.trans h.tape,k.output.trans h.output,dD h.size k.size,fun i Z Y=>(k.block i (wP Z h.size) Y).trans (h.block i Z Y)⟩
theorem bQ.step{b:aK}(h:bQ S a b)(k:bQ T b w)(X:∀i,i<a.heap.size→T i→S i):bQ S a w:=
 ⟨k.os.trans h.os,k.tape.trans h.tape,k.output.trans h.output,dD h.size k.size,
   fun i Z Y=>(k.block i (wP Z h.size) (fun W=>Y (X i Z W))).trans (h.block i Z Y)⟩
theorem bQ.mono(h:bQ S a w)(Y:∀i,i<a.heap.size→S i→T i):bQ T a w:=⟨h.os,h.tape,h.output,h.size,fun i Z X=>h.block i Z fun W=>X (Y i Z W)⟩
theorem bQ.of_below(h:Below w w w'):bQ S w w':=⟨h.os,h.tape,h.output,h.size,fun i Z _=>h.block i Z⟩
theorem bQ.xB{Z:Option Nat}(h:w.grownBy w' Z)(X:∀i,i<w.heap.size→some i=Z→S i):bQ S w w':=
 ⟨h.os,h.tape,h.output,h.size,fun i Y W=>h.block i Y (fun e=>W (X i Y e))⟩
theorem bQ.below{B:Nat}(h:bQ S a w)(Z:B≤a)(Y:∀i,S i→B≤i):Below B a w:=
 ⟨h.os,h.tape,h.output,h.size,fun i X=>h.block i (wP X Z) (fun W=>by have:=Y i W;omega)⟩
theorem bQ.alloc(h:bQ S a w)(o:Obj):bQ S a (w.alloc o):=h.step (bQ.of_below (S:=fun _=>False) ((aU _ _).alloc (bC _) _)) (fun _ _ h=>h.elim)
theorem bQ.drew(h:bQ S a w):bQ S a w.drew:=⟨h.os,h.tape,h.output,h.size,h.block⟩
theorem bQ.drewN(h:bQ S a w)(n:Nat):bQ S a (w.drewN n):=⟨h.os,h.tape,h.output,h.size,h.block⟩
theorem bQ.setCell(h:bQ S a w){p:Addr}(X:p.block<a→S p.block)(u:cO):bQ S a (w.setCell p u):=
 ⟨h.os,h.tape,h.output,by simpa[World.setCell]using h.size,fun i Z Y=>(Below.heap_setCell w p u i (by rintro rfl;exact Y (X Z))).trans (h.block i Z Y)⟩
theorem eH{B:Nat}(h:Below B a w)(Z:bQ S w w')(Y:B≤w)(X:∀i,S i→B≤i):Below B a w':=h.trans (Z.below Y X)
theorem bF.dH(h:bF w g t cs)(Z:bQ S w w')(Y:¬S g):bF w' g t cs:=(Z.block g h.lt Y).trans h
theorem bG{p:Addr}(h:w.cell? p=some v)(Z:bQ S w w')(Y:¬S p.block):w'.cell? p=some v:=
 (World.cell?_of_block (Z.block p.block (lt_of_cell h) Y)).trans h
theorem Rd.dH{Y:List cO}(h:Rd w size A n Y)(X:bQ S w w')(W:∀p,A=some p→¬S p.block):Rd w' size A n Y:=
 ⟨h.1,fun V=>by
   obtain⟨b,Z,e,U⟩:=h.2 V;exact⟨b,Z,e,fun j u R=>bG (U j u R) X (by have:=W _ e;exact this)⟩⟩
theorem yK.dH{k:IntKind}{A:dK}{l:aO}(h:yK k w A l)(Z:bQ S w w')(Y:∀p,A=some p→¬S p.block):yK k w' A l:=Rd.dH h Z Y
theorem mO{V:List cO}(h:w.ownsRow base e size v n V)(U:bQ S w w')(R:∀i,v.ownBlock=some i→¬S i):w'.ownsRow base e size v n V:=by
 refine⟨h.1,?_⟩;rcases h.2 with Q|⟨g,X,W,rfl,P,Z,Y⟩
 ·exact .inl Q
 ·exact .inr ⟨g,X,W,rfl,P,(U.block g (lN.1 Z).1 (R g rfl)).trans Z,Y⟩
theorem oH{Z:List cO}(h:w.ownsRow base e size v n Z)(Y:Below w w w'):w'.ownsRow base e size v n Z:=
 mO h (bQ.of_below (S:=fun _=>False) Y) (fun _ _ h=>h)
theorem EZ{U:TypeId}{v':cO}{P W:List cO}(h:w.ownsRow base e size v n P)(O:w.ownsRow j U k v' m W)(V:e≠U):∀i,v.ownBlock=some i→v'.ownBlock≠some i:=by
 intro i X Y;rcases h.2 with⟨rfl,_⟩|⟨g,L,K,rfl,_,N,_⟩
 ·simp[Value.ownBlock]at X
 ·rcases O.2 with⟨rfl,_⟩|⟨J,R,Q,rfl,_,Z,_⟩
  ·simp[Value.ownBlock]at Y
  ·simp[Value.ownBlock]at X Y
   subst X;subst Y;rw[N]at Z;injection Z with Z
   injection Z with _ M
   exact V M
theorem own_base{W:List cO}(h:w.ownsRow base e size v n W)(V:i≤base):w.ownsRow i e size v n W:=by
 refine⟨h.1,?_⟩;rcases h.2 with U|⟨g,Y,X,R,Q,Z⟩
 ·exact .inl U
 ·exact .inr ⟨g,Y,X,R,dD V Q,Z⟩
theorem Ry{U:List cO}(h:w.ownsRow base e 1 (aG g n cap) n U)(i:Nat)(u:cO):
  (w.setCell ⟨g,i,none⟩ u).ownsRow base e 1 (aG g n cap) n (U.set i u):=by
 refine⟨by rw[pG];exact h.1,?_⟩;rcases h.2 with⟨W,_⟩|⟨R,X,Y,W,Q,V,P,O,N,M⟩
 ·cases W
 ·obtain⟨rfl,rfl⟩:g=R∧cap=X:=by injection W with Z K L;injection Z with Z;injection Z with Z;exact⟨Z,L⟩
  refine .inr ⟨g,cap,Y.setIfInBounds i u,rfl,Q,?_,P,O,by simpa using N,?_⟩
  ·exact bF.store (t:=e) (cs:=Y) V i u
  ·rw[←M,oh,List.take_set]
end
theorem Qh{W:List cO}(h:w.ownsRow base e 1 v n W)(S:0<n):∃g Z,v=aG (some (aH g 0)) n Z∧base≤g∧g<w∧n≤Z∧(∀j u,W[j]? =some u→w.cell? (aH g j)=some u)∧∀j,w.frozen? (aH g j)=false:=by
 rcases h.2 with⟨_,R⟩|⟨g,Z,X,rfl,V,Y,U,Q,P,O⟩
 ·omega
 ·refine⟨g,Z,rfl,V,(lN.1 Y).1,U,fun j u T=>?_,fun j=>bF.frozen (t:=e) (cs:=X) Y j⟩
  have:=h.cells (g:=g) rfl j u T;rwa[add_lit,dI]at this
def jK(n:Nat)(f:Nat→Int):aO:=(List.range n).map f
theorem fB(n:Nat)(f:Nat→Int):(jK n f)=n:=by simp[jK]
theorem Vd(f:Nat→Int)(h:i<n):(jK n f)[i]? =some (f i):=by simp[jK,List.getElem?_range h]
theorem BI(f:Nat→Int)(h:i<n):(jK n f).getD i 0=f i:=by rw[dG,Vd f h];rfl
theorem y7(f:Nat→Int)(h:i<n):(jK n f).take (i+1)=(jK n f).take i++ [f i]:=by
 obtain⟨Z,e⟩:=lX.1 (Vd f h);rw[←e];exact BH Z
theorem lK{f:Nat→Int}{a b:Int}(h:∀i,i<n→a≤f i∧f i≤b):∀v∈jK n f,a≤v∧v≤b:=by
 intro v Z;simp only[jK,FH,yH]at Z;obtain⟨i,Y,rfl⟩:=Z;exact h i Y
def fO(f:Nat→Int):Nat→Int
 |0=>0
 |j+1=>fO f j+f j
theorem oI{f:Nat→Int}{a b:Int}:∀{j:Nat},(∀i,i<j→a≤f i∧f i≤b)→(j:Int)*a≤fO f j∧fO f j≤(j:Int)*b
 |0,_=>by simp[fO]
 |j+1,h=>by
  have Z:=oI (j:=j) fun i Y=>h i aj
  have X:=h j aj;simp only[fO,Int.natCast_add,Int.natCast_one,Int.add_mul,Int.one_mul];omega
theorem dO{a b:Int}(h:∀v∈l,a≤v∧v≤b)(Z:a≤0)(Y:0≤b)(i:Nat):a≤l.getD i 0∧l.getD i 0≤b:=by
 rw[dG];cases e:l[i]? with
 |none=>exact⟨Z,Y⟩
 |some v=>exact h v (mX e)
theorem Tj{q:Int→Bool}(h:∀v∈l,q v=false):l.any q=false:=kG.2 fun v Z=>by simp[h v Z]
def GR(n:Nat)(a b:aO):aO:=jK n fun i=>a.getD i 0-b.getD i 0
def yM(a b:aO)(i:Nat):Int:=max (a.getD i 0-b.getD i 0) (b.getD i 0-a.getD i 0)
def vN(n:Nat)(a b:aO):Int:=fO (yM a b) n
def IY(h:Nat)(l:aO)(x:Nat):Int:=if x&&& h=0 then l.getD x 0+l.getD (x+h) 0 else l.getD (x-h) 0-l.getD x 0
def pV(n h:Nat)(l:aO)(j:Nat):aO:=jK n fun x=>if x-(x&&& h)<j then IY h l x else l.getD x 0
def nR(n:Nat)(l:aO):Nat→aO
 |0=>l
 |t+1=>pV n (2^t) (nR n l t) n
theorem acu{t:Nat}(h:t<6):2^t∈[1,2,4,8,16,32]:=by
 have:∀t,t<6→2^t∈[1,2,4,8,16,32]:=bn
 exact this t h
theorem Oc:∀h∈[1,2,4,8,16,32],∀x,x<64→(x&&& h=0∧x|||h=x+h∧(x+h)&&& h=h)∨(x&&& h=h∧h≤x∧(x-h)&&& h=0):=by decide+kernel
theorem acv:∀n∈[16,64],∀h∈[1,2,4,8,16,32],h<n→∀j,j<n→j&&& h=0→j+h<n:=by decide+kernel
theorem CW{m:aO}(Y:l.length=m.length)(h:∀i,i<l.length→l.getD i 0=m.getD i 0):l=m:=by
 refine List.ext_getElem Y fun i Z X=>?_
 have:=h i Z;rwa[dG,dG,fP Z,fP X]at this
theorem KN(l:aO)(i j:Nat)(v:Int)(hi:i<l):(l.set i v).getD j 0=if i=j then v else l.getD j 0:=Ht
theorem Ep(l:aO)(hx:x<n):(pV n h l j).getD x 0=if x-(x&&& h)<j then IY h l x else l.getD x 0:=BI _ hx
theorem Xu(Y:l=n):pV n h l 0=l:=by
 refine CW (by rw[pV,fB,Y]) fun i Z=>?_
 rw[pV,fB]at Z;rw[Ep l Z,au aj]
theorem Xv{n h j:Nat}(l:aO)(hh:h∈[1,2,4,8,16,32])(hn:n≤64)(hj:j&&& h≠0):pV n h l (j+1)=pV n h l j:=by
 refine CW (by simp[pV,fB]) fun x hx=>?_
 rw[pV,fB]at hx;rw[Ep l hx,Ep l hx];rcases Oc h hh x aj with⟨h1,_,_⟩|⟨h1,h2,h3⟩
 ·grind
 ·grind
theorem Xw{n h j:Nat}(l:aO)(hh:h∈[1,2,4,8,16,32])(hn:n≤64)(hj:j&&& h=0)(hjn:j+h<n):
  pV n h l (j+1)=((pV n h l j).set j (l.getD j 0+l.getD (j+h) 0)).set (j+h) (l.getD j 0-l.getD (j+h) 0):=by
 have hp:0<h:=Ht
 refine CW (by simp[pV,fB]) fun x hx=>?_
 rw[pV,fB]at hx;rw[KN _ _ _ _ (by simp[pV,fB];omega),KN _ _ _ _ (by rw[pV,fB];omega),Ep l hx,Ep l hx];rcases Oc h hh x aj with⟨h1,_,h4⟩|⟨h1,h2,h3⟩
 ·rw[h1]
  by_cases e:x=j
  ·subst e
   rw[aF aj,au aj,aF rfl,IY,aF h1]
  ·rw[au (show¬j=x from fun e'=>e e'.symm)]
   rw[au (show¬j+h=x by
    rintro rfl
    have:(j+h)&&& h=h:=by
     rcases Oc h hh j aj with⟨_,_,h5⟩|⟨h5,_,_⟩
     ·exact h5
     ·omega
    omega)]
   by_cases e2:x<j
   ·omega
   ·omega
 ·rw[h1]
  by_cases e:x=j+h
  ·subst e
   rw[aF aj,aF rfl,IY,au aj,(aj:j+h-h=j)]
  ·grind
theorem Qi(l:aO)(hx:x<n)(Z:j≤x-(x&&& h)):(pV n h l j).getD x 0=l.getD x 0:=by rw[Ep l hx,au aj]
theorem aaI{M:Int}(h0:0≤M)(Z:∀v∈l,-M≤v∧v≤M):∀v∈pV n h l j,-(2*M)≤v∧v≤2*M:=by
 refine lK fun x _=>?_
 have b:=dO Z aj h0;unfold IY;have Y:=b x;have X:=b (x+h);have W:=b (x-h);split
 ·omega
 ·omega
theorem Gm{n:Nat}{l:aO}{M:Int}(h0:0≤M)(Z:∀v∈l,-M≤v∧v≤M):∀t:Nat,∀v∈nR n l t,-((2^t:Nat)*M)≤v∧v≤(2^t:Nat)*M
 |0=>by simpa[nR]using Z
 |t+1=>by
  have h:=aaI (n:=n) (h:=2^t) (j:=n) (l:=nR n l t) (pI (Int.natCast_nonneg (2^t)) h0) (Gm (n:=n) h0 Z t);rw[show((2^(t+1):Nat):Int)*M=2*((2^t:Nat)*M) by rw[tV,Int.natCast_mul,Int.mul_comm ((2^t:Nat):Int),Int.mul_assoc];rfl];exact h
def rV(n:Nat)(f g:Nat→Int)(j:Nat):aO:=jK n fun i=>if i<j then f i else g i
theorem DT(n:Nat)(f g:Nat→Int)(j:Nat):(rV n f g j)=n:=fB _ _
theorem Dv(n:Nat)(f g:Nat→Int):rV n f g 0=jK n g:=by simp[rV]
theorem E8(n:Nat)(f g:Nat→Int):rV n f g n=jK n f:=by
 refine CW (by simp[rV,fB]) fun i Z=>?_
 rw[DT]at Z;rw[rV,BI _ Z,BI _ Z,aF Z]
theorem GU(f g:Nat→Int)(hi:i<n)(Z:j≤i):(rV n f g j).getD i 0=g i:=by rw[rV,BI _ hi,au aj]
theorem Dx(f g:Nat→Int)(Y:j<n):rV n f g (j+1)=(rV n f g j).set j (f j):=by
 refine CW (by simp[rV,fB]) fun i Z=>?_
 rw[DT]at Z;rw[KN _ _ _ _ (by rw[DT];exact Y),rV,rV,BI _ Z,BI _ Z]
 by_cases e:j=i
 ·subst e;simp
 ·omega
theorem aaJ(h:l=n):jK n (fun i=>l.getD i 0)=l:=by
 refine CW (by rw[fB,h]) fun i Z=>?_
 rw[fB]at Z;rw[BI _ Z]
def iR(n:Nat):Nat:=4+2*n
def JF(n:Nat):Nat:=5+2*n
abbrev lD:=Nat→Option Nat
def lD.put(f:lD)(k v:Nat):lD:=fun x=>if x=k then some v else f x
def lD.del(f:lD)(k:Nat):lD:=fun x=>if x=k then none else f x
structure DU where
 kind:Nat
 name:Nat
 to:Nat
 file:Nat
def uO(f:lD)(s:DU):lD:=
 match s.kind with
 |0=>f.put s.name s.file
 |1=>(f.del s.name).put s.to ((f s.name).getD 0)
 |_=>f.del s.name
structure iD where
 data:aO
 safe:Nat
structure aI where
 room:Int
 all:List iD
 names:lD
 safe:lD
 steps:List DU
 armed:Nat
 down:Bool
def aI.new(room:Int):aI:=⟨room,[],fun _=>none,fun _=>none,[],0,false⟩
def aI.lens(d:aI)(x:Nat):Nat:=match d.names x with|some n=>(d.all.getD n ⟨[],0⟩).data.length|none=>0
def aI.FK(d:aI):Nat→Nat
 |0=>0
 |k+1=>d.FK k+d.lens k
def aI.used(d:aI):Nat:=d.FK 36
def aI.fall(d:aI):aI:=if 0<d.armed then{d with armed:=d.armed-1,down:=decide (d.armed=1)}else d
def aI.goes(d:aI)(err:Int):aI × Int:=if d.down then(d,10)else if err≠0 then(d,err)else(d.fall,if d.fall.down then 10 else 0)
def aI.there(d:aI)(x:Nat):Int:=if(d.names x).isSome then 0 else 7
def aI.does(d:aI)(s:DU):aI:={d with names:=uO d.names s,steps:=d.steps++ [s]}
def aI.create(d:aI)(x:Nat):aI × Int:=
 let r:=d.goes (if(d.names x).isSome then 8 else 0)
 if r.2≠0 then r else(aI.does {r.1 with all:=r.1.all++ [⟨[],0⟩]} ⟨0,x,0,r.1.all.length⟩,0)
def aI.at_(d:aI)(x:Nat):Nat:=(d.names x).getD 0
def aI.yO(d:aI)(n:Nat)(f:iD→iD):aI:={d with all:=d.all.modify n f}
def aI.append(d:aI)(x:Nat)(b:aO):aI × Int:=
 if d.down then(d,10)
 else if d.there x≠0 then(d,d.there x)
 else if 0<b.length∧d.room-d.used<b.length then(d,9)
 else if d.fall.down then(d.fall.yO (d.at_ x) fun f=>{f with data:=f.data++b.take (b.length/2)},10)
 else(d.fall.yO (d.at_ x) fun f=>{f with data:=f.data++b},0)
def aI.sync(d:aI)(x:Nat):aI × Int:=
 let r:=d.goes (d.there x)
 if r.2≠0 then r else(r.1.yO (d.at_ x) fun f=>{f with safe:=f.data.length},0)
def aI.rename(d:aI)(x y:Nat):aI × Int:=
 let r:=d.goes (d.there x)
 if r.2≠0 then r else(r.1.does ⟨1,x,y,0⟩,0)
def aI.remove(d:aI)(x:Nat):aI × Int:=
 let r:=d.goes (d.there x)
 if r.2≠0 then r else(r.1.does ⟨2,x,0,0⟩,0)
def aI.ji(d:aI):aI × Int:=
 let r:=d.goes 0
 if r.2≠0 then r else({r.1 with safe:=r.1.names,steps:=[]},0)
def aI.file(d:aI)(x:Nat):iD:=d.all.getD (d.at_ x) ⟨[],0⟩
def aI.CX(d:aI)(x:Nat):Int:=if d.down then 10 else d.there x
def aI.grow(d:aI)(n:Int):aI × Int:=if d.down then(d,10)else if n<0∨16777216-d.room<n then(d,3)else({d with room:=d.room+n},0)
def aI.arm(d:aI)(n:Int):aI:=if d.down then d else{d with armed:=n.toNat}
def aI.view(d:aI)(k:Nat):lD:=(d.steps.take k).foldl uO d.safe
structure FM(d e:aI):Prop where
 room:e.room=d.room
 len:e.all.length=d.all.length
 cut:∀n,n<d.all.length→(e.all.getD n ⟨[],0⟩=d.all.getD n ⟨[],0⟩)∨
  ∃k,(d.all.getD n ⟨[],0⟩).safe≤k∧k≤(d.all.getD n ⟨[],0⟩).data.length∧e.all.getD n ⟨[],0⟩=⟨(d.all.getD n ⟨[],0⟩).data.take k,k⟩
 names:∃k,k≤d.steps.length∧e.names=d.view k
 safe:e.safe=e.names
 steps:e.steps=[]
 armed:e.armed=0
 down:e.down=false
structure Es(d:aI)(l:List Nat):Prop where
 nodup:l.Nodup
 mem:∀x,x∈l↔(d.names x).isSome
theorem and_low32{x:Int}(h0:0≤x)(h1:x<18446744073709551616):bits .and .u64 x 4294967295=x%4294967296:=by
 obtain⟨n,rfl⟩:=D6 h0;have h:=bits_and_u64_nat n 4294967295 aj aj;rw[show n&&& 4294967295=n%4294967296 from Nat.and_two_pow_sub_one_eq_mod n 32]at h;exact h.trans aj
structure jO where
 out:aO:=[]
 low:Int:=0
 r:Int:=4294967295
structure jO.ok(e:jO):Prop where
 bd:∀v∈e.out,0≤v∧v≤255
 aaN:0≤e.low
 aaO:e.low≤4294967295
 r0:16777216≤e.r
 r1:e.r≤4294967295
def anA(v:Int):Int:=if v=255 then 0 else v+1
def uy(l:aO):Nat→aO
 |0=>l
 |i+1=>if l.getD i 0=255 then uy (l.set i 0) i else l.set i (l.getD i 0+1)
theorem I5(l:aO)(i:Nat):(uy l i).length=l:=by
 induction i generalizing l with
 |zero=>rfl
 |succ i ih=>
  unfold uy;split
  ·grind
  ·grind
theorem Vh{l:aO}{a b:Int}(h:∀v∈l,a≤v∧v≤b){i:Nat}{x:Int}(hx:a≤x∧x≤b):∀v∈l.set i x,a≤v∧v≤b:=Ht
theorem Vj{l:aO}(i:Nat)(h:∀v∈l,0≤v∧v≤255):∀v∈uy l i,0≤v∧v≤255:=by
 induction i generalizing l with
 |zero=>exact h
 |succ i ih=>
  have h1:=dO h aj aj i;unfold uy;split
  ·grind
  ·grind
def vY(e:jO):jO:=⟨e.out++ [e.low/16777216%256],e.low*256%4294967296,e.r*256⟩
def oZ:Nat→jO→jO
 |0,e=>e
 |n+1,e=>if e.r<16777216 then oZ n (vY e)else e
def xC(e:jO)(w:Int):jO:=if 4294967295<e.low+w then⟨uy e.out e.out.length,(e.low+w)%4294967296,e.r-w⟩else⟨e.out,e.low+w,e.r-w⟩
def AA(e:jO)(w:Int)(b:Bool):jO:=if b then xC e w else⟨e.out,e.low,w⟩
def Jv(e:jO)(w:Int)(b:Bool):jO:=oZ 2 (AA e w b)
def Eu(e:jO)(p:Int)(b:Bool):jO:=Jv e (e.r/2048*p) b
def J4(e:jO)(b:Bool):jO:=Jv e (e.r/2) b
structure jO.mid(e:jO)(k:Nat):Prop where
 bd:∀v∈e.out,0≤v∧v≤255
 aaN:0≤e.low
 aaO:e.low≤4294967295
 r0:16777216≤e.r*256^k
 r1:e.r≤4294967295
theorem Gp{e:jO}{k:Nat}(h:e.mid (k+1))(hr:e.r<16777216):(vY e).mid k:=by
 obtain⟨h1,h2,h3,h4,h5⟩:=h;refine⟨?_,?_,?_,?_,?_⟩
 ·intro v hv
  rcases rH.1 hv with h|h
  ·exact h1 v h
  ·grind
 ·show 0≤e.low*256%4294967296;omega
 ·show e.low*256%4294967296≤4294967295;omega
 ·show 16777216≤e.r*256*256^k
  rw[Int.mul_assoc,Int.mul_comm 256];rw[Int.pow_succ]at h4;exact h4
 ·show e.r*256≤4294967295;omega
theorem acy{e:jO}(h:e.mid 0):e.ok:=⟨h.bd,h.aaN,h.aaO,by have:=h.r0;omega,h.r1⟩
theorem ae4{e:jO}(h:e.mid k)(Z:¬e.r<16777216):e.ok:=⟨h.bd,h.aaN,h.aaO,aj,h.r1⟩
theorem Tn{e:jO}:∀{k:Nat},e.mid k→(oZ k e).ok:=by
 intro k
 induction k generalizing e with
 |zero=>intro h;exact acy h
 |succ k Z=>
  intro h;unfold oZ;split
  ·exact Z (Gp h ‹_›)
  ·exact ae4 h ‹_›
theorem Y9(k:Nat)(e:jO):e.out.length≤(oZ k e).out∧(oZ k e).out.length≤e.out+k:=by
 induction k generalizing e with
 |zero=>exact⟨bC _,bC _⟩
 |succ k Z=>
  unfold oZ;split
  ·have:=Z (vY e)
   have h:(vY e).out.length=e.out+1:=by simp[vY]
   omega
  ·omega
theorem Za{e:jO}(h:65536≤e.r):(oZ k e).out.length≤e.out+1:=by
 cases k with
 |zero=>simp[oZ]
 |succ k=>
  unfold oZ;split
  ·cases k with
   |zero=>simp[oZ,vY]
   |succ k=>
    unfold oZ;rw[au (show¬(vY e).r<16777216 by show¬e.r*256<16777216;omega)];simp[vY]
  ·omega
theorem MZ{e:jO}{w:Int}{b:Bool}(h:e.ok)(W:8192≤w∧w+8192≤e.r):(AA e w b).mid 2:=by
 obtain⟨Z,Y,X,V,U⟩:=h;cases b with
 |false=>exact⟨Z,Y,X,by show 16777216≤w*256^2;omega,by show w≤4294967295;omega⟩
 |true=>
  show(xC e w).mid 2;unfold xC;split
  ·exact⟨Vj _ Z,by show 0≤(e.low+w)%4294967296;omega,by show(e.low+w)%4294967296≤4294967295;omega,by show 16777216≤(e.r-w)*256^2;omega,by show e.r-w≤4294967295;omega⟩
  ·exact⟨Z,by show 0≤e.low+w;omega,by show e.low+w≤4294967295;omega,by show 16777216≤(e.r-w)*256^2;omega,by show e.r-w≤4294967295;omega⟩
theorem Na(e:jO)(w:Int)(b:Bool):(AA e w b).out.length=e.out:=by
 cases b with
 |false=>rfl
 |true=>
  show(xC e w).out.length=_;unfold xC;split
  ·exact I5 _ _
  ·rfl
theorem Vk{r p:Int}(Y:16777216≤r)(Z:1≤p∧p≤2047):8192≤r/2048*p∧r/2048*p+8192≤r:=by
 have X:r/2048*1≤r/2048*p:=Int.mul_le_mul_of_nonneg_left Z.1 aj;have W:r/2048*p≤r/2048*2047:=Int.mul_le_mul_of_nonneg_left Z.2 aj;omega
theorem Tq{e:jO}{p:Int}{b:Bool}(h:e.ok)(Z:1≤p∧p≤2047):(Eu e p b).ok∧(Eu e p b).out.length≤e.out+2:=by
 refine⟨Tn (MZ h (Vk h.r0 Z)),?_⟩;have:=(Y9 2 (AA e (e.r/2048*p) b)).2;rw[Na]at this;exact this
theorem aaP{e:jO}{b:Bool}(h:e.ok):(J4 e b).ok∧(J4 e b).out.length≤e.out+1:=by
 have h0:=h.r0;refine⟨Tn (MZ h aj),?_⟩
 have hr:65536≤(AA e (e.r/2) b).r:=by
  cases b with
  |false=>show 65536≤e.r/2;omega
  |true=>
   show 65536≤(xC e (e.r/2)).r;unfold xC;split
   ·grind
   ·grind
 have:=Za (k:=2) hr;rw[Na]at this;exact this
def vg(l:aO):Nat→aO
 |0=>[]
 |n+1=>if l.getD n 0=0 then vg l n else l.take (n+1)
def uP(e:jO):aO:=vg (e.out++ [e.low/16777216%256,e.low/65536%256,e.low/256%256,e.low%256]) (e.out.length+4)
theorem Vl(l:aO)(n:Nat):(vg l n)≤n:=by
 induction n with
 |zero=>simp[vg]
 |succ n ih=>
  unfold vg;split
  ·omega
  ·grind
theorem Xx{l:aO}{a b:Int}(h:∀v∈l,a≤v∧v≤b)(n:Nat):∀v∈vg l n,a≤v∧v≤b:=by
 induction n with
 |zero=>simp[vg]
 |succ n ih=>
  unfold vg;split
  ·exact ih
  ·grind
theorem Tt(e:jO):(uP e).length≤e.out+4:=Vl _ _
theorem Vm{e:jO}(h:e.ok):∀v∈uP e,0≤v∧v≤255:=by
 refine Xx ?_ _;intro v hv;rcases rH.1 hv with h1|h1
 ·exact h.bd v h1
 ·grind
structure jD where
 ch:aO:=jK 64 fun _=>1024
 e:jO:={}
structure jD.ok(m:jD):Prop where
 len:m.ch.length=64
 bd:∀v∈m.ch,1≤v∧v≤2047
 e:m.e.ok
def Eb(p:Int)(b:Bool):Int:=if b then p-p/32 else p+(2048-p)/32
def Vo(m:jD)(ctx:Nat)(b:Bool):jD:=⟨m.ch.set ctx (Eb (m.ch.getD ctx 0) b),Eu m.e (m.ch.getD ctx 0) b⟩
def Po(m:jD)(b:Bool):jD:=⟨m.ch,J4 m.e b⟩
theorem Zb{p:Int}{b:Bool}(h:1≤p∧p≤2047):1≤Eb p b∧Eb p b≤2047:=by
 unfold Eb;split<;>omega
theorem Rz{a b:Int}(Z:l=n)(h:∀v∈l,a≤v∧v≤b)(hi:i<n):a≤l.getD i 0∧l.getD i 0≤b:=by simp_all
theorem acz{m:jD}{ctx:Nat}{b:Bool}(h:m.ok)(Y:ctx<64):(Vo m ctx b).ok∧(Vo m ctx b).e.out.length≤m.e.out+2:=by
 have Z:=Rz h.len h.bd Y;obtain⟨X,W⟩:=Tq h.e Z;exact⟨⟨by show(m.ch.set _ _).length=64;rw[pG];exact h.len,Vh h.bd (Zb Z),X⟩,W⟩
theorem Zc{m:jD}{b:Bool}(h:m.ok):(Po m b).ok∧(Po m b).e.out.length≤m.e.out+1:=by
 obtain⟨Z,Y⟩:=aaP h.e;exact⟨⟨h.len,h.bd,Z⟩,Y⟩
inductive iH
 |c (n:Nat) (b:Bool)
 |f (b:Bool)
def ug(m:jD):iH→jD
 | .c n b=>Vo m n b
 | .f b=>Po m b
def dU(m:jD)(l:List iH):jD:=l.foldl ug m
def nI:iH→Nat
 | .c _ _=>2
 | .f _=>1
def fE(l:List iH):Nat:=(l.map nI).sum
def dM(l:List iH):Prop:=∀n b,iH.c n b∈l→n<64
theorem Tv(m:jD):dU m []=m:=rfl
theorem fM(m:jD)(a b:List iH):dU m (a++b)=dU (dU m a) b:=List.foldl_append
theorem ku(m:jD)(s:iH):dU m [s]=ug m s:=rfl
theorem fU(a b:List iH):fE (a++b)=fE a+fE b:=by simp[fE,vJ]
theorem dM.app{a b:List iH}(Z:dM a)(Y:dM b):dM (a++b):=fun n x h=>(rH.1 h).elim (Z n x) (Y n x)
theorem dM.nil:dM []:=fun _ _ h=>by cases h
theorem dM.c1(h:n<64)(b:Bool):dM [.c n b]:=fun m x Z=>by simp at Z;omega
theorem dM.f1(b:Bool):dM [.f b]:=fun m x Z=>by simp at Z
theorem dM.map{l:List Nat}{g:Nat→iH}(h:∀i∈l,∀n b,g i= .c n b→n<64):dM (l.map g):=by
 intro n b Z;obtain⟨i,Y,e⟩:=FH.1 Z;exact h i Y n b e
theorem sU{m:jD}{s:iH}(h:m.ok)(Z:∀n b,s= .c n b→n<64):(ug m s).ok∧(ug m s).e.out.length≤m.e.out+nI s:=by
 cases s with
 |c n b=>exact acz h (Z n b rfl)
 |f b=>exact Zc h
theorem lI{l:List iH}:∀{m:jD},m.ok→dM l→(dU m l).ok∧(dU m l).e.out.length≤m.e.out+fE l:=by
 induction l with
 |nil=>intro m h _;exact⟨h,bC _⟩
 |cons s l Y=>
  intro m h Z;obtain⟨X,U⟩:=sU (s:=s) h (fun n b e=>Z n b (by rw[e];exact List.mem_cons_self));obtain⟨W,T⟩:=Y X (fun n b V=>Z n b (List.mem_cons_of_mem _ V));refine⟨W,?_⟩;show(dU (ug m s) l).e.out.length≤_;have e:fE (s::l)=nI s+fE l:=by simp[fE]
  omega
theorem CY{l:List Nat}{g:Nat→iH}(h:∀i∈l,nI (g i)≤k):fE (l.map g)≤l*k:=by
 induction l with
 |nil=>simp[fE]
 |cons i l Z=>
  have X:=h i List.mem_cons_self;have W:=Z fun j Y=>h j (List.mem_cons_of_mem _ Y)
  have e:fE ((i::l).map g)=nI (g i)+fE (l.map g):=by simp[fE]
  rw[e,xQ,sO,Nat.one_mul];omega
def l9(ctx:Nat→Nat)(n most:Nat):List iH:=(List.range n).map (fun i=>.c (ctx i) true)++(if n<most then [.c (ctx n) false]else [])
theorem KR{ctx:Nat→Nat}(h:∀i,ctx i<64)(n most:Nat):dM (l9 ctx n most):=by
 refine(dM.map fun i _ k b e=>?_).app ?_
 ·grind
 ·split
  ·exact dM.c1 (h n) _
  ·exact dM.nil
theorem Dy{ctx:Nat→Nat}{most:Nat}(h:n≤most):fE (l9 ctx n most)≤2*most:=by
 have Z:=CY (l:=List.range n) (g:=fun i=>.c (ctx i) true) (k:=2) fun i _=>by simp[nI]
 rw[jG]at Z;rw[l9,fU];split
 ·have:fE [iH.c (ctx n) false]=2:=rfl
  omega
 ·have:fE []=0:=rfl
  omega
def Ey(k:Nat):List iH:=l9 (fun i=>i) k 3
def Bh(m:Nat):List iH:=[.c 3 (decide (1<m)),.c (if 1<m then 5 else 4) (decide (m%2=1))]
def sV(v:Int):List iH:=if v=0 then [.c 6 false]else [.c 6 true,.f (decide (v<0))]++l9 (fun i=>7+min i 6) (v.natAbs-1) 14
def yx(u:Nat):Nat:=Nat.log2 u
def BK(u:Nat):List iH:=(List.range (yx u)).map (fun _=>.f true)++(if yx u<13 then [.f false]else [])++(List.range (yx u)).map fun j=>.f (decide (u/2^(yx u-1-j)%2=1))
def sJ(base:Nat)(v:Int):List iH:=[.f (decide (v<0))]++l9 (fun i=>base+17+min i 7) (min (v.natAbs-1) 14) 14++(if 14≤v.natAbs-1 then BK (v.natAbs-14)else [])
theorem Vq{u:Nat}(h:yx u≤13):fE (BK u)≤26:=by
 have Z:=CY (l:=List.range (yx u)) (g:=fun _=>.f true) (k:=1) fun i _=>by simp[nI]
 have Y:=CY (l:=List.range (yx u)) (g:=fun j=>.f (decide (u/2^(yx u-1-j)%2=1))) (k:=1) fun i _=>by simp[nI]
 rw[jG]at Z Y;rw[BK,fU,fU];split
 ·have:fE [iH.f false]=1:=rfl
  omega
 ·have:fE []=0:=rfl
  omega
theorem Xy(u:Nat):dM (BK u):=by
 refine((dM.map fun i _ n b e=>by cases e).app ?_).app (dM.map fun i _ n b e=>by cases e);split
 ·exact dM.f1 _
 ·exact dM.nil
theorem Dz(h:base≤39)(v:Int):dM (sJ base v):=by
 refine((dM.f1 _).app (KR (fun i=>aj) _ _)).app ?_;split
 ·exact Xy _
 ·exact dM.nil
theorem Vr{u:Nat}(h:u<16384):yx u≤13:=by
 by_cases Z:u=0
 ·subst Z;decide
 ·have:=(Nat.log2_lt Z (k:=14)).2 h
  unfold yx;omega
theorem BL{v:Int}(h: -16320≤v∧v≤16320):fE (sJ base v)≤55:=by
 have Z:=Dy (ctx:=fun i=>base+17+min i 7) (n:=min (v.natAbs-1) 14) (most:=14) aj;rw[sJ,fU,fU];have e:fE [iH.f (decide (v<0))]=1:=rfl;split
 ·have:=Vq (u:=v.natAbs-14) (Vr aj)
  omega
 ·have:fE []=0:=rfl
  omega
theorem Fe{k:Nat}(h:k≤3):dM (Ey k):=by
 refine(dM.map fun i hi n b e=>?_).app ?_
 ·grind
 ·split
  ·exact dM.c1 (by show k<64;omega) _
  ·exact dM.nil
theorem DC(h:k≤3):fE (Ey k)≤6:=Dy h
theorem Il(m:Nat):dM (Bh m):=by
 intro n b h;simp only[Bh,je,kS,or_false,iH.c.injEq]at h;rcases h with h|h
 ·omega
 ·grind
theorem Gq(m:Nat):fE (Bh m)=4:=rfl
theorem Io(v:Int):dM (sV v):=by
 unfold sV;split
 ·exact dM.c1 aj _
 ·exact((dM.c1 aj _).app (dM.f1 _)).app (KR (fun i=>aj) _ _)
theorem Gs{v:Int}(h: -15≤v∧v≤15):fE (sV v)≤31:=by
 unfold sV;split
 ·decide
 ·have Z:=Dy (ctx:=fun i=>7+min i 6) (n:=v.natAbs-1) (most:=14) aj
  rw[fU];have:fE [iH.c 6 true,iH.f (decide (v<0))]=3:=rfl;omega
def jS(l:aO)(o:List Nat):Nat:=(o.filter fun i=>l.getD i 0≠0).length
def jX(base last:Nat)(l:aO):Nat→List Nat→List iH
 |_,[]=>[]
 |i,Z::o=>
  if i<last∧l.getD Z 0=0 then [.c (base+1+min i 7) false]++jX base last l (i+1) o
  else(if i<last then [.c (base+1+min i 7) true]else [])++sJ base (l.getD Z 0)++
   (if i<last then [.c (base+9+min i 7) (decide (jS l o=0))]++(if jS l o=0 then []else jX base last l (i+1) o)else [])
def lM(base last:Nat)(l:aO)(o:List Nat):List iH:=
 if jS l o=0 then [.c base false]else [.c base true]++jX base last l 0 o
theorem Nb{base last:Nat}(h:base≤39)(l:aO):∀(o:List Nat) (i:Nat),dM (jX base last l i o)
 | [],_=>dM.nil
 |a::o,i=>by
  have Z:=Nb (last:=last) h l o (i+1);unfold jX;split
  ·exact(dM.c1 aj _).app Z
  ·refine(dM.app ?_ (Dz h _)).app ?_
   ·split
    ·exact dM.c1 aj _
    ·exact dM.nil
   ·split
    ·refine(dM.c1 aj _).app ?_
     split
     ·exact dM.nil
     ·exact Z
    ·exact dM.nil
theorem LY{base last:Nat}{l:aO}(hl:∀v∈l,-16320≤v∧v≤16320):∀(o:List Nat) (i:Nat),fE (jX base last l i o)≤59*o.length
 | [],_=>by simp[jX,fE]
 |a::o,i=>by
  have ih:=LY (base:=base) (last:=last) hl o (i+1);have hv:=dO hl aj aj a;have h1:=BL (base:=base) hv;have n0:fE []=0:=rfl;have c1:∀n b,fE [iH.c n b]=2:=fun _ _=>rfl
  unfold jX;rw[xQ];split
  ·rw[fU,c1];omega
  ·rw[fU,fU]
   have h2:fE (if i<last then [iH.c (base+1+min i 7) true]else [])≤2:=Ht
   have h3:fE (if i<last then [iH.c (base+9+min i 7) (decide (jS l o=0))]++(if jS l o=0 then []else jX base last l (i+1) o)else [])≤2+59*o.length:=by
    split
    ·rw[fU,c1]
     split
     ·omega
     ·omega
    ·omega
   omega
theorem KT(h:base≤39)(l:aO)(o:List Nat):dM (lM base last l o):=by
 unfold lM;split
 ·exact dM.c1 aj _
 ·exact(dM.c1 aj _).app (Nb h l o 0)
theorem JH(Y:∀v∈l,-16320≤v∧v≤16320)(o:List Nat):fE (lM base last l o)≤2+59*o.length:=by
 have Z:∀n b,fE [iH.c n b]=2:=fun _ _=>rfl
 unfold lM;split
 ·rw[Z];omega
 ·rw[fU,Z];have:=LY (base:=base) (last:=last) Y o 0;omega
structure Sj(P:Program) where
 K:TypeId
 law:Keyed P K
 lim:Nat
 small:lim<maxLen
 v:Nat→cO
 l:Nat→Lit
 key:∀x,x<lim→keyOf P K (v x)=some (l x)
 inj:∀x y,x<lim→y<lim→l x=l y→x=y
def NT(v:cO):Option (DataW cO × List MemPlace):=some (.held v,[])
def pq(f:Nat→Option cO):Nat→Nat
 |0=>0
 |k+1=>pq f k+if(f k).isSome then 1 else 0
def xE(f:Nat→Option cO)(x:Nat)(v:cO):Nat→Option cO:=fun y=>if y=x then some v else f y
def wK(f:Nat→Option cO)(x:Nat):Nat→Option cO:=fun y=>if y=x then none else f y
theorem JR{f g:Nat→Option cO}(h:∀x,x<k→(f x).isSome=(g x).isSome):pq f k=pq g k:=by
 induction k with
 |zero=>rfl
 |succ k Z=>simp only[pq];rw[Z (fun x Y=>h x aj),h k aj]
theorem ZK(f:Nat→Option cO)(v:cO)(hx:x<k):pq (xE f x v) k=pq f k+if(f x).isSome then 0 else 1:=by
 induction k with
 |zero=>omega
 |succ k Z=>
  simp only[pq]
  by_cases h:x=k
  ·subst h
   rw[JR (g:=f) (fun y Y=>by unfold xE;rw[au aj])];unfold xE;rw[aF rfl];cases(f x)<;>simp
  ·rw[Z aj]
   unfold xE;rw[au (by omega:¬k=x)];omega
theorem ZL(f:Nat→Option cO)(hx:x<k):pq (wK f x) k+(if(f x).isSome then 1 else 0)=pq f k:=by
 induction k with
 |zero=>omega
 |succ k Z=>
  simp only[pq]
  by_cases h:x=k
  ·subst h
   rw[JR (g:=f) (fun y Y=>by unfold wK;rw[au aj])];unfold wK;rw[aF rfl];simp
  ·have:=Z aj
   unfold wK;rw[au (by omega:¬k=x)];unfold wK at this;omega
theorem Ue(f:Nat→Option cO)(k:Nat):pq f k≤k:=by
 induction k with
 |zero=>exact bC _
 |succ k Z=>simp only[pq];split<;>omega
theorem XK(k:Nat):pq (fun _=>none) k=0:=by
 induction k with
 |zero=>rfl
 |succ k Z=>simp[pq,Z]
section
variable{P:Program}{T:Sj P}{f:Nat→Option cO}{D:DataW cO}
structure V7(T:Sj P)(D:DataW Value)(f:Nat→Option Value):Prop where
 has:∀x,x<T.lim→Maps.has D (T.l x)=(f x).isSome
 at_:∀x v,x<T.lim→f x=some v→∀z,D.atKey (T.l x) z= .held v
 keys:∀k,Maps.has D k=true→∃x,x<T.lim∧k=T.l x
 size:Maps.size D=pq f T.lim
theorem V7.empty(T:Sj P):V7 T (.map []) (fun _=>none):=⟨fun _ _=>rfl,(fun _ _ _ h=>by cases h),(fun k h=>by cases h),by rw[XK];rfl⟩
theorem V7.put(h:V7 T D f)(hD:Tidy D){x:Nat}(hx:x<T.lim)(v:cO):V7 T (D.put (T.l x) (.held v)) (xE f x v):=by
 have hk:=T.law.key (T.key x hx);refine⟨fun y hy=>?_,fun y u hy hu z=>?_,fun k hk'=>?_,?_⟩
 ·by_cases e:y=x
  ·subst e
   rw[has_put_same hD.isMap hk];simp[xE]
  ·rw[has_put_other (fun e'=>e (T.inj _ _ hy hx e')),h.has y hy]
   simp[xE,e]
 ·by_cases e:y=x
  ·subst e
   rw[atKey_put_same hD.isMap hk];simp[xE]at hu;rw[hu]
  ·rw[atKey_put_other (fun e'=>e (T.inj _ _ hy hx e'))]
   exact h.at_ y u hy (by simpa[xE,e]using hu) z
 ·by_cases e:k=T.l x
  ·grind
  ·rw[has_put_other e]at hk'
   exact h.keys k hk'
 ·rw[size_put hD,h.has x hx,ZK f v hx,h.size]
  cases(f x).isSome<;>simp
theorem V7.del(h:V7 T D f)(hD:Tidy D){x:Nat}(hx:x<T.lim):V7 T (D.del (T.l x)) (wK f x):=by
 refine⟨fun y hy=>?_,fun y u hy hu z=>?_,fun k hk'=>?_,?_⟩
 ·by_cases e:y=x
  ·subst e
   rw[has_del_same];simp[wK]
  ·rw[has_del_other (fun e'=>e (T.inj _ _ hy hx e')),h.has y hy]
   simp[wK,e]
 ·by_cases e:y=x
  ·subst e
   simp[wK]at hu
  ·rw[atKey_del_other (fun e'=>e (T.inj _ _ hy hx e'))]
   exact h.at_ y u hy (by simpa[wK,e]using hu) z
 ·by_cases e:k=T.l x
  ·grind
  ·rw[has_del_other e]at hk'
   exact h.keys k hk'
 ·have h1:=size_del (k:=T.l x) hD
  have h2:=ZL f hx;rw[h.has x hx,h.size]at h1;omega
theorem ado{k:TypeId}{b:Nat}{R:cO→Option (DataW cO × List MemPlace)}(h:w.ownsMap P k R b n D)(W:Maps.size D≤m):w.ownsMap P k R b m D:=by
 obtain⟨Y,Z,X,F,V,rfl⟩:=h;refine⟨Y,Z,X,F,?_,rfl⟩;have U:Maps.size (DataW.map ((Y.toList.map (WideElems.rg P k R)).foldr DataW.insert []))=Y.size:=by simp[Maps.size,length_sorted]
 omega
def pK(T:Sj P)(w:aK)(b:Nat)(f:Nat→Option cO):Prop:=∃D,w.ownsMap P T.K NT b T.lim D∧V7 T D f
def PU(T:Sj P)(w:aK)(b r:Nat)(f:Nat→Option cO)(g:Nat→Bool)(Y:Nat):Prop:=
 ∃D Z,w.ranges P T.K NT b r T.lim D Z Y∧V7 T D f∧(∀x,x<T.lim→Z (T.l x)=g x)∧∀k,Z k=true→∃x,x<T.lim∧k=T.l x
variable{w w':aK}{b r:Nat}{g:Nat→Bool}{cnt:Nat}
theorem pK.lt(h:pK T w b f):b<w:=by obtain⟨D,h,_⟩:=h;exact h.lt
theorem pK.dH(h:pK T w b f)(X:bQ S w w')(W:¬S b):pK T w' b f:=by
 have Y:=h.lt;obtain⟨D,⟨V,Z,U,F,R,Q⟩,k⟩:=h;exact⟨D,⟨V,Z,(X.block b Y W).trans U,F,R,Q⟩,k⟩
theorem pK.keep(h:pK T w b f)(Z:aP w w'):pK T w' b f:=h.dH (bQ.of_below (S:=fun _=>False) Z) (fun h=>h)
theorem pK.made(w:aK):pK T (w.alloc (.map #[] 0)) w (fun _=>none):=
 ⟨_,(World.ownsMap_made w P T.K NT).mono (dS _),V7.empty T⟩
theorem pK.congr(h:pK T w b f){W:Nat→Option cO}(X:∀x,x<T.lim→f x=W x):pK T w b W:=by
 obtain⟨D,V,Y⟩:=h;exact⟨D,V,fun x Z=>by rw[←X x Z];exact Y.has x Z,fun x v Z U=>Y.at_ x v Z (by rw[X x Z];exact U),Y.keys,by rw[Y.size];exact JR fun x Z=>by rw[X x Z]⟩
theorem pK.look_ok{t e:TypeId}(h:pK T w b f)(ht:P.underlying t=some (.map T.K e)){z:cO}(W:(zeroValue e).run P w= .ok z w){x:Nat}(hx:x<T.lim):
  (Instr.lookup t (.map (some b)) (T.v x) true).run P w= .ok (eP #[(f x).getD z,.bool (f x).isSome]) w:=by
 obtain⟨D,V,Y⟩:=h;obtain⟨v,S,U,Z⟩:=V.look_ok T.law ht W (zd:=.held z) (zp:=[]) rfl (T.key x hx);rw[U,Y.has x hx]
 have e:v=(f x).getD z:=by
  simp only[NT,fD,jd]at Z;cases X:f x with
  |none=>
   rw[atKey_of_not_has (by rw[Y.has x hx,X];rfl)]at Z;injection Z.1 with e
  |some u=>
   rw[Y.at_ x u hx X]at Z;injection Z.1 with e
 rw[e]
theorem pK.look(h:pK T w b f)(ht:P.underlying t=some (.map T.K e)){z:cO}(W:(zeroValue e).run P w= .ok z w)(hx:x<T.lim):
  (Instr.lookup t (.map (some b)) (T.v x) false).run P w= .ok ((f x).getD z) w:=by
 obtain⟨D,V,Y⟩:=h;obtain⟨v,S,U,Z⟩:=V.lookup T.law ht W (zd:=.held z) (zp:=[]) rfl (T.key x hx);rw[U]
 have e:v=(f x).getD z:=by
  simp only[NT,fD,jd]at Z;cases X:f x with
  |none=>
   rw[atKey_of_not_has (by rw[Y.has x hx,X];rfl)]at Z;injection Z.1 with e
  |some u=>
   rw[Y.at_ x u hx X]at Z;injection Z.1 with e
 rw[e]
theorem pK.len{t e:TypeId}(h:pK T w b f)(ht:P.underlying t=some (.map T.K e))(Z:TypeId):(Builtin.len_ #[t] Z #[.map (some b)]).run P w= .ok (pq f T.lim) w:=by
 obtain⟨D,Y,X⟩:=h;rw[Y.len ht,X.size]
theorem Cc(h:w.mapTurned w' b):bQ (fun i=>i=b) w w':=bQ.xB h.grown (fun i _ e=>by injection e)
theorem pK.store{t e:TypeId}(h:pK T w b f)(ht:P.underlying t=some (.map T.K e)){x:Nat}(hx:x<T.lim)(v:cO):
  ∃w',(Instr.mapUpdate t (.map (some b)) (T.v x) v).run P w= .ok () w'∧pK T w' b (xE f x v)∧w.mapTurned w' b:=by
 obtain⟨D,Z,X⟩:=h;obtain⟨w',W,V,U⟩:=Z.store T.law ht T.small (T.key x hx) (val:=v) (d:=.held v) (ps:=[]) rfl;have Y:=X.put (Z.tidy T.law) hx v;exact⟨w',W,⟨_,ado V (by rw[Y.size];exact Ue _ _),Y⟩,U⟩
theorem pK.drop{t e:TypeId}(h:pK T w b f)(ht:P.underlying t=some (.map T.K e)){x:Nat}(hx:x<T.lim)(Z:TypeId):
  ∃w',(Builtin.delete_ #[t,T.K] Z #[.map (some b),T.v x]).run P w= .ok (eP #[]) w'∧pK T w' b (wK f x)∧w.mapTurned w' b:=by
 obtain⟨D,Y,X⟩:=h;obtain⟨w',W,V,U⟩:=Y.drop T.law ht (T.key x hx) Z;exact⟨w',W,⟨_,V,X.del (Y.tidy T.law) hx⟩,U⟩
end
section
variable{P:Program}(T:Sj P)(w:aK){ops:Array Oper}{rest:List Oper}{o:Oper}{a:Act}{Q:Exit→Act→aK→Prop}{f:Nat→Option cO}{b:Nat}
theorem YG(V:o.guard=none)(m x v:Operand)(t e:TypeId)(X:o.op=Op.mapUpdate t m x v)(ht:P.underlying t=some (.map T.K e))(U:a.eval m= .map (some b))(h:pK T w b f)(hy:y<T.lim)(hx:a.eval x=T.v y)
  (S:∀Z,pK T Z b (xE f y (a.eval v))→w.mapTurned Z b→wpList P ops Q rest (a.put o.dst undef) Z):wpList P ops Q (o::rest) a w:=by
 refine wpList_plain V fun N W=>?_
 obtain⟨Z,Y,R,O⟩:=h.store ht hy (a.eval v);unfold Oper.wp;simp[execOp,X,U,hx,Y,Result.andThen];exact W _ _ (S Z R O)
theorem Sv(V:o.guard=none)(m x:Operand)(t e:TypeId)(X:o.op=Op.call {callee:=Callee.builtin Builtin.delete,args:=#[m,x],argTypes:=#[t,T.K]})(ht:P.underlying t=some (.map T.K e))(U:a.eval m= .map (some b))(h:pK T w b f)(hy:y<T.lim)(hx:a.eval x=T.v y)
  (S:∀Z,pK T Z b (wK f y)→w.mapTurned Z b→wpList P ops Q rest (a.put o.dst (eP #[])) Z):wpList P ops Q (o::rest) a w:=by
 refine wpList_plain V fun N W=>?_
 obtain⟨Z,Y,R,O⟩:=h.drop ht hy o.type;unfold Oper.wp;simp[execOp,X,resolve,invoke,builtin,U,hx,Y,Result.andThen];exact W _ _ (S Z R O)
theorem NU(Y:o.guard=none)(m:Operand)(t e:TypeId)(W:o.op=Op.range t m)(ht:P.underlying t=some (.map T.K e))(V:a.eval m= .map (some b))(h:pK T w b f)
  (U:∀Z cnt,PU T Z b w f (fun x=>(f x).isSome) cnt→w.grownBy Z none→Z.heap.size=w+1→wpList P ops Q rest (a.put o.dst (aY w)) Z):wpList P ops Q (o::rest) a w:=by
 obtain⟨D,S,X⟩:=h;exact wpList_range_own w Y m t W T.K e T.law ht NT b T.lim D V S fun Z R Y O=>U Z _ ⟨D,_,R,X,X.has,X.keys⟩ Y O
theorem Gg(hg:o.guard=none)(it:Operand)(hop:o.op=Op.next it false){r:Nat}{g:Nat→Bool}{cnt:Nat}(hit:a.eval it=aY r)(h:PU T w b r f g cnt)
  (hDone:cnt=0→(∀x,x<T.lim→g x=false)→wpList P ops Q rest (a.put o.dst (eP #[.bool false])) w)
  (hMore:∀(x:Nat) (v:cO) (w':aK) (cnt':Nat),x<T.lim→g x=true→f x=some v→PU T w' b r f (fun y=>g y&&!decide (y=x)) cnt'→cnt'<cnt→
    w.grownBy w' (some r)→w'.heap.size=w→(Instr.entry (aY r)).run P w'= .ok (eP #[T.v x,v]) w'→wpList P ops Q rest (a.put o.dst (eP #[.bool true,T.v x,v])) w'):wpList P ops Q (o::rest) a w:=by
 obtain⟨D,left,h1,h2,h3,h4⟩:=h;refine wpList_next_ranges w hg it hop T.K T.law NT id id (fun key _ _=>⟨key,rfl⟩) (fun v _ _=>⟨v,rfl⟩) b r T.lim D left cnt hit h1 (fun h0 hl=>hDone h0 fun x hx=>by rw[←h3 x hx];exact hl _) ?_;intro key v kl y w' cnt' hkey hlk hv hat hrg hlt hgr hsz hen;obtain⟨x,hx,rfl⟩:=h4 kl hlk;obtain rfl:key=T.v x:=T.law.inj hkey (T.key x hx);have hgx:g x=true:=Ht
 simp only[NT,fD]at hv;subst hv;have hhas:=has_true_of_atKey hat
 have hf:f x=some v:=by
  rw[h2.has x hx]at hhas;obtain⟨u,hu⟩:=Hu.1 hhas;have e1:=h2.at_ x u hx hu .nil;rw[hat .nil]at e1;injection e1 with e1
  rw[hu,←e1];rfl
 refine hMore x v w' cnt' hx hgx hf ⟨D,_,hrg,h2,fun y hy=>?_,fun k hk=>?_⟩ hlt hgr hsz hen
 ·show(left (T.l y)&&!(T.l y).sameKey (T.l x))=_
  rw[h3 y hy]
  by_cases e:y=x
  ·subst e
   rw[WideAt.sameKey_self (T.law.key (T.key y hy))];simp
  ·rw[sameKey_ne (fun e'=>e (T.inj _ _ hy hx e'))]
   simp[e]
 ·grind
end
section
variable{P:Program}{T:Sj P}{w w':aK}{b r:Nat}{f:Nat→Option cO}{g:Nat→Bool}{cnt:Nat}
theorem PU.owns(h:PU T w b r f g cnt):pK T w b f:=by obtain⟨D,_,Z,Y,_⟩:=h;exact⟨D,Z.owns,Y⟩
theorem PU.left(h:PU T w b r f g cnt):w.rangeLeft b r=cnt:=by obtain⟨D,_,Z,_⟩:=h;exact Z.left_eq
theorem PU.lt(h:PU T w b r f g cnt):r<w:=by obtain⟨D,_,Z,_⟩:=h;exact Z.lt
theorem PU.dH(h:PU T w b r f g cnt)(V:bQ S w w')(U:¬S b)(R:¬S r):PU T w' b r f g cnt:=by
 have Q:=h.owns.lt;have O:=h.lt;obtain⟨D,X,⟨N,Z,Y,seen,M,L,F,K,J,I,W⟩,H⟩:=h;exact⟨D,X,⟨N,Z,Y,seen,M,(V.block b Q U).trans L,F,K,J,(V.block r O R).trans I,W⟩,H⟩
end
end Go.Proofs.YtiaeohgghaaciaaGreatDoor
