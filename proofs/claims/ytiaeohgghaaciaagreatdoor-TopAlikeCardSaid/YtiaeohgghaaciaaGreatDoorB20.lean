import Derived.Test.YtiaeohgghaaciaaGreatDoorB15
namespace Go.Proofs.YtiaeohgghaaciaaGreatDoor
open Go Go.Maps Go.RowKit Go.Extern.Stop Go.Stop Go.Extern Go.Proofs.Tryz
set_option linter.all false
set_option maxRecDepth 100000
set_option maxHeartbeats 4000000
variable{g i n x y:Nat}{S:Nat→Prop}{B:Option Addr}{w w1:World}
abbrev flZ:FlM:=⟨none,0,0,0⟩
theorem WC{α:Type}{l m:List α}{x:α}(h:i<l):(l++m).getD i x=l.getD i x:=by
 rw[dG,dG,JD h]
theorem WE{α:Type}{l:List α}{a x:α}:(l++ [a]).getD l x=a:=by
 rw[dG,ET (bC _)];simp
theorem adD{d:aI}{M:DkM}{o:Obj}(h:V8 w1 g S d M)(K:bQ (In M.A) (w1.alloc o) w)
  (G:dX flR w 0 B (d.all.length+1) n (M.ms++ [flZ])) (J:∀i,In B i→In M.A i∨(w1.alloc o)≤i):
  Dw (w.setCell ⟨g,1,none⟩ (.slice B (d.all.length+1:Nat) n)) g (fun i=>S i∨In B i) {d with all:=d.all++ [⟨[],0⟩]}∧bQ S w1 (w.setCell ⟨g,1,none⟩ (.slice B (d.all.length+1:Nat) n))∧(∀i,In B i→S i∨w1≤i):=by
 have Y:=h.sep;have I:=h.all.len;have F:=((bQ.refl (In M.A) w1).alloc o).trans K;have L:=yF w g 1 (.slice B (d.all.length+1:Nat) n);have P:=(F.mono (fun i _ e=>Or.inl e)).trans (L.mono (fun i _ e=>Or.inr e));have C:g<w1:=h.lt g h.sg;have E:(w1.alloc o).heap.size=w1+1:=bK
 have Q:∀i,In B i→In M.A i∨w1≤i:=fun i Z=>(J i Z).elim Or.inl (fun k=>Or.inr aj)
 have N:¬In B g:=fun e=>(Q g e).elim Y.gA (fun k=>aj)
 have D:bF (w.setCell ⟨g,1,none⟩ (.slice B (d.all.length+1:Nat) n)) g 110 ((dkC d M).setIfInBounds 1 (.slice B (d.all.length+1:Nat) n)):=(h.box.dH F Y.gA).store 1 _;refine⟨⟨{M with A:=B,c:=n,ms:=M.ms++ [flZ]},?_⟩,P.mono (fun i _ Z=>Z.elim (fun k=>h.sA i k) (fun k=>k▸h.sg)),fun i Z=>(Q i Z).elim (fun k=>.inl (h.sA i k)) Or.inr⟩;have W:(d.all++ [(⟨[],0⟩:iD)]).length=d.all+1:=bK
 have U:∀i,i<d.all.length→(M.ms++ [flZ]).getD i default=M.ms.getD i default:=fun i Z=>WC aj
 have X:(M.ms++ [flZ]).getD d.all default=flZ:=by rw[←I];exact WE
 have V:∀k,¬In flZ.A k:=by rintro k ⟨p,e,_⟩;cases e
 have T:∀i,i<d.all.length+1→i<d.all.length∨i=d.all.length:=fun i Z=>aj
 refine⟨?_,?_,fun i Z=>?_,fun i j Z O H k=>?_,h.names.dH P ?_,h.safe.dH P ?_,h.ne,h.arm,h.steps.dH P ?_,.inl h.sg,.inl h.sn,.inl h.ss,fun i Z=>.inr Z,fun i Z=>.inl (h.sB i Z),fun i Z k R=>?_,fun i Z=>?_⟩
 ·show bF _ g _ #[_,.slice B (d.all++ [(⟨[],0⟩:iD)]) n,_,_,_,_,_,_]
  rw[W];exact D
 ·show dX flR _ 0 B (d.all++ [(⟨[],0⟩:iD)]) n (M.ms++ [flZ])
  rw[W];exact G.dH L (fun i Z e=>N (e▸Z))
 ·dsimp only at Z ⊢
  rw[W]at Z;rcases T i Z with Z|rfl
  ·rw[U i Z]
   have e:dh (d.all++ [⟨[],0⟩]) i=dh d.all i:=WC Z;rw[e];refine⟨(h.fl i Z).1.dH P ?_,(h.fl i Z).2⟩;rintro k R (q|rfl)
   ·exact Y.AF k i Z q R
   ·exact Y.gF i Z R
  ·rw[X]
   have e:dh (d.all++ [⟨[],0⟩]) d.all=⟨[],0⟩:=WE;rw[e];exact⟨OwnB.nil _ _ [],rfl⟩
 ·dsimp only at Z O ⊢
  rw[W]at Z O;rcases T i Z with Z|rfl
  ·rcases T j O with O|rfl
   ·rw[U i Z,U j O];exact h.apart i j Z O H k
   ·rw[X];exact fun _=>V k
  ·rw[X];exact fun e=>absurd e (V k)
 ·rintro(e|e)
  ·exact Y.nA e
  ·exact Y.gn e.symm
 ·rintro(e|e)
  ·exact Y.sA e
  ·exact Y.gs e.symm
 ·rintro i Z (e|e)
  ·exact Y.AB i e Z
  ·exact Y.gB (e▸Z)
 ·dsimp only at Z R
  rw[W]at Z;rcases T i Z with Z|rfl
  ·rw[U i Z]at R;exact .inl (h.sF i Z k R)
  ·rw[X]at R;exact absurd R (V k)
 ·rcases Z with Z|Z
  ·have:=h.lt i Z
   have:=P.size;omega
  ·have:=(G.dN Z).2
   have:=L.size;omega
theorem PX{d:aI}(hx:x<36)(hA:d.all.length≤1000000)(p:d.steps.length≤1000000)(w:World)(h:Dw w g S d):
  Calls prog 76 #[.pointer g,.string (bP x)] w fun e w'=>e= .returned (eV (d.create x).2)∧jh w g S (d.create x).1 w':=by
 obtain⟨K,J⟩:=aV (named_ok hx w) (fun k=>NY (k:=k) w h);have W:=mP d (if(d.names x).isSome=true then 8 else 0);have G:=h.g;obtain⟨M,h⟩:=h;have x2:=h.box.c2;have T:=Ug h.names hx;have a:∀F,(Builtin.len_ #[107] F #[.map (some M.nb)]).run prog w= .ok (.int .i64 (pq (LH d.names) 36:Nat)) w:=fun F=>h.names.len underlying107 F
 have qa:¬(64:Int)≤(pq (LH d.names) 36:Nat):=by have:=Ue (LH d.names) 36;omega
 generalize pq (LH d.names) 36=C at*;unfold aI.create;dsimp only;obtain⟨Bx,R⟩:∃B,bP x=B:=⟨_,rfl⟩;rw[R]at T K ⊢;change Hid _ at R;clear h;cases I:(d.names x).isSome with
 |true=>
  rw[I]at T
  have V:(d.goes 8).2≠0:=by
   unfold aI.goes;split
   ·simp
   ·rw[aF bK];simp
  rw[aF rfl,aF V];have N:=ay (J 8);rw[pz (show(8:Int)≠0 by decide),pz V]at N;rw[pz V];clear W J;generalize(d.goes 8).2=k8 at*;clear V I;go_enter func76,ntmps76;go_wp2_with fail;refine K.aQ ?_;rintro P rfl;go_wp2_with fail;refine N.aQ ?_;rintro P ⟨Y,Z⟩;have E:=ay (jh.of Y Z (fun i e=>e▸G));clear Y Z;go_wp2;go_ret;exact⟨rfl,E⟩
 |false=>
  rw[I]at T W;rw[au (show¬(false=true) by simp)]at W ⊢;have X:=ay (J 0);rw[show eV 0= .nilIface from rfl]at X;clear J I;generalize d.goes 0=r at*;obtain⟨n,k1⟩:=r;dsimp only at*;obtain⟨m,-,-,l,-⟩:=W;rw[←m]at hA;rw[←l]at p;clear m l
  by_cases H:k1=0
  ·subst H
   rw[au bK];rw[show eV 0= .nilIface from rfl]at X ⊢;go_enter func76,ntmps76;go_wp2_with fail;refine K.aQ ?_;rintro P rfl;go_wp2_with fail;refine X.aQ ?_;rintro P ⟨⟨D,Y⟩,Z⟩;have y1:=Y.box.c1;have f1:=Y.box.frozen 1;have j:=fun o=>Y.box.alloc o
   change Hid _ at Y Z j
   have y:Hid (∀o O,bQ (In D.A) (P.alloc o) O→O.cell? ⟨g,1,none⟩=some (.slice D.A n.all D.c)∧O.frozen? ⟨g,1,none⟩=false):=ay (fun o O hc=>by
    have:=(j o).dH hc Y.sep.gA;exact⟨this.at rfl,this.frozen 1⟩)
   go_wp2_with(at_builtin;refine BA flR (v:=flZ) rfl _ _ rfl rfl (Y.all.alloc _) rfl (lV _ _) (by show(_+1)*32≤_;omega) bK aj ?_;intro B1 b1 O f u Q U;obtain⟨qe,qf⟩:=y.out _ _ Q);have z:=ay (adD Y Q f U);have t:=ay (Wj (s:=⟨0,x,0,n.all.length⟩) hx (by show 0<36;omega) (by exact p) _ z.1);clear f u Q U;go_wp2_with fail;rw[←R];refine t.aQ ?_;rintro w3 b;change Hid _ at b;go_wp2_with fail;go_ret;have L:=Z.mono (fun i _ e=>e▸G);exact⟨rfl,jh.trans (L.trans z.2.1) (fun i hi=>hi.elim Or.inl (fun k=>(z.2.2 i k).elim Or.inl (fun q=>Or.inr (dD L.size q)))) b⟩
  ·rw[aF H,pz H]
   rw[pz H]at X;go_enter func76,ntmps76;go_wp2_with fail;refine K.aQ ?_;rintro P rfl;go_wp2_with fail;refine X.aQ ?_;rintro P ⟨Y,Z⟩;have E:=ay (jh.of Y Z (fun i e=>e▸G));clear Y Z;go_wp2_with fail;go_ret;exact⟨rfl,E⟩
theorem PY{d:aI}(hx:x<36)(P:d.steps.length≤1000000)(w:aK)(h:Dw w g S d):
  Calls prog 87 #[aY g,.string (bP x)] w fun e L=>e=bM (eV (d.remove x).2)∧jh w g S (d.remove x).1 L:=by
 obtain⟨T,W⟩:=aV (Kz hx w h) (NY (k:=d.there x) w h);have O:=h.g;have N:=(mP d (d.there x)).2.2.2.1;unfold aI.remove;generalize d.goes (d.there x)=r at*;generalize eV (d.there x)=E at*;obtain⟨H,K⟩:=r;rw[←N]at P;obtain⟨G,Y⟩:∃B,bP x=B:=⟨_,rfl⟩;rw[Y]at T ⊢;change Hid _ at Y;clear h N
 by_cases V:K=0
 ·subst V
  rw[au bK];rw[show eV 0=iI from rfl]at W ⊢;go_enter func87,ntmps87;go_wp2_with fail;refine T.aQ ?_;rintro U rfl;go_wp2_with fail;refine W.aQ ?_;rintro U ⟨X,Z⟩;obtain⟨R,Q⟩:=aV (Wj (s:=⟨2,x,0,0⟩) hx (by show 0<36;omega) P U X) (Z.mono (fun i _ e=>(show S i from e▸O)));clear X Z;go_wp2_with fail;rw[←Y];refine R.aQ ?_;rintro F M;change Hid _ at M;go_wp2;go_ret;exact⟨rfl,jh.trans Q (fun i J=>Or.inl J) M⟩
 ·rw[aF V,pz V]
  rw[pz V]at W;go_enter func87,ntmps87;go_wp2_with fail;refine T.aQ ?_;rintro U rfl;go_wp2_with fail;refine W.aQ ?_;rintro U ⟨X,Z⟩;have I:=ay (jh.of X Z (fun i e=>e▸O));clear X Z;go_wp2_with fail;go_ret;exact⟨rfl,I⟩
theorem WG{d:aI}(hx:x<36)(hy:y<36)(N:d.steps.length≤1000000)(w:aK)(h:Dw w g S d):
  Calls prog 79 #[aY g,.string (bP x),.string (bP y)] w fun e J=>e=bM (eV (d.rename x y).2)∧jh w g S (d.rename x y).1 J:=by
 obtain⟨Q,Y,T⟩:=dB (Kz hx w h) (named_ok hy w) (NY (k:=d.there x) w h);have M:=h.g;have L:=(mP d (d.there x)).2.2.2.1;unfold aI.rename;generalize d.goes (d.there x)=r at*;generalize eV (d.there x)=E at*;obtain⟨F,I⟩:=r;rw[←L]at N;obtain⟨D,X⟩:∃B,bP x=B:=⟨_,rfl⟩;obtain⟨By,W⟩:∃B,bP y=B:=⟨_,rfl⟩;rw[X]at Q ⊢;rw[W]at Y ⊢;change Hid _ at X W;clear h L
 by_cases R:I=0
 ·subst R
  rw[au bK];rw[show eV 0=iI from rfl]at T ⊢;go_enter func79,ntmps79;go_wp2_with fail;refine Q.aQ ?_;rintro V rfl;go_wp2_with fail;refine Y.aQ ?_;rintro V rfl;go_wp2_with fail;refine T.aQ ?_;rintro V ⟨U,Z⟩;obtain⟨P,O⟩:=aV (Wj (s:=⟨1,x,y,0⟩) hx hy N V U) (Z.mono (fun i _ e=>(show S i from e▸M)));clear U Z;go_wp2_with fail;rw[←X,←W];refine P.aQ ?_;rintro C K;change Hid _ at K;go_wp2_with fail;go_ret;exact⟨rfl,jh.trans O (fun i H=>Or.inl H) K⟩
 ·rw[aF R,pz R]
  rw[pz R]at T;go_enter func79,ntmps79;go_wp2_with fail;refine Q.aQ ?_;rintro V rfl;go_wp2_with fail;refine Y.aQ ?_;rintro V rfl;go_wp2_with fail;refine T.aQ ?_;rintro V ⟨U,Z⟩;have G:=ay (jh.of U Z (fun i e=>e▸M));clear U Z;go_wp2_with fail;go_ret;exact⟨rfl,G⟩
theorem abN{d:aI}{M:DkM}(h:V8 w g S d M)(U:pK Az w1 w (LH d.names))(T:aP w w1):
  Dw ((w1.setCell ⟨g,3,none⟩ (.map (some w))).setCell ⟨g,4,none⟩ (bU)) g (fun i=>S i∨i=w) {d with safe:=d.names,steps:=[]}∧bQ S w ((w1.setCell ⟨g,3,none⟩ (.map (some w))).setCell ⟨g,4,none⟩ (bU)):=by
 have X:=h.sep;have Y:=h.keep (bQ.of_below T) (fun _ _ h=>h);have W:bQ (fun i=>i=g) w1 ((w1.setCell ⟨g,3,none⟩ (.map (some w))).setCell ⟨g,4,none⟩ (bU)):=(yF w1 g 3 _).trans (yF _ g 4 _);have R:w.heap.size<w1:=U.lt;have P:g<w:=h.lt g h.sg
 refine⟨⟨{M with sb:=w.heap.size,B:=none,e:=0},(Y.box.store 3 _).store 4 _,Y.all.dH W (fun i Z e=>X.gA (e▸Z)),fun i Z=>⟨(Y.fl i Z).1.dH W (fun k V e=>X.gF i Z (e▸V)),(Y.fl i Z).2⟩,Y.apart,
  Y.names.dH W (fun e=>X.gn e.symm),U.dH W aj,?_,Y.arm,dX.nil _ _,.inl h.sg,.inl h.sn,.inr rfl,fun i Z=>.inl (h.sA i Z),(by rintro i ⟨p,e,_⟩;cases e),fun i Z k V=>.inl (h.sF i Z k V),fun i Z=>?_⟩,(bQ.of_below T).trans (W.mono (fun i _ e=>e▸h.sg))⟩
 ·have:=h.lt _ h.sn
  show M.nb≠w;omega
 ·have Q:=W.size
  rcases Z with Z|rfl
  ·have:=h.lt i Z;omega
  ·omega
theorem JC{d:aI}(w:aK)(h:Dw w g S d):
  Calls prog 80 #[aY g] w fun e Q=>e=bM (eV d.ji.2)∧jh w g S d.ji.1 Q:=by
 have W:=ay (NY (k:=0) w h);rw[show eV 0=iI from rfl]at W;have O:=h.g;unfold aI.ji;generalize d.goes 0=r at*;obtain⟨G,L⟩:=r;clear h
 by_cases T:L=0
 ·subst T
  rw[au bK];rw[show eV 0=iI from rfl]at W ⊢;go_enter func80,ntmps80;go_wp2_with fail;refine W.aQ ?_;rintro R ⟨X,Z⟩;obtain⟨F,X⟩:=X;have E:=X.box.c2;obtain⟨P,U,K⟩:=dB (Wn R X.names) (Z.mono (fun i _ e=>(show S i from e▸O))) (fun Q (V:aP R Q)=>X.box.keep V);change Hid _ at X;clear Z;go_wp2_with fail;refine P.aQ ?_;rintro D ⟨N,-,V⟩;have Y:=K _ V;obtain⟨-,-,C,B,A⟩:=Y.s5;have z:=Y.frozen 3;have y:=Y.frozen 4;have M:=ay (abN X N V);clear Y N V;go_wp2;go_ret;have H:=U.size;exact⟨rfl,U.trans M.2,_,M.1,fun i J=>J.elim Or.inl (fun e=>Or.inr aj)⟩
 ·rw[aF T,pz T]
  rw[pz T]at W;go_enter func80,ntmps80;go_wp2_with fail;refine W.aQ ?_;rintro R ⟨X,Z⟩;have I:=ay (jh.of X Z (fun i e=>e▸O));clear X Z;go_wp2_with fail;go_ret;exact⟨rfl,I⟩
end Go.Proofs.YtiaeohgghaaciaaGreatDoor
