import Derived.Test.YtiaeohgghaaciaaGreatDoorB16
namespace Go.Proofs.YtiaeohgghaaciaaGreatDoor
open Go Go.Maps Go.RowKit Go.Extern.Stop Go.Stop Go.Extern Go.Proofs.Tryz
set_option linter.all false
set_option maxRecDepth 100000
set_option maxHeartbeats 4000000
variable{cu fi go ra ro:Int}{b l:List Int}{K N base c d hi k lo n qn qx r x:Nat}{A:Option Addr}{v:Value}
theorem OB.at_{w:aK}{base n c:Nat}{A:dK}{l:List gQ}(h:OB w base A n c l){i:Nat}(hi:i<n):∃b o B m d,A=some (aH b o)∧aN w b (o+i*4) (aB (l.getD i MC).num)∧aN w b (o+i*4+1) (aB (l.getD i MC).first)∧
  aN w b (o+i*4+2) (aB (l.getD i MC).count)∧aN w b (o+i*4+3) (aG B m d)∧ML w base B m d (l.getD i MC).CP:=by
 obtain⟨R,Y,Q,X⟩:=h;obtain⟨b,o,W,Z⟩:=Y.ls.at_ hi;have P:=Y.len;obtain⟨V,U,T,S⟩:=X i aj;refine⟨b,o,_,_,_,W,?_,?_,?_,Z 3 _ rfl,S⟩
 ·rw[←V];exact Z 0 _ rfl
 ·rw[←U];exact Z 1 _ rfl
 ·rw[←T];exact Z 2 _ rfl
theorem akj{a b:Nat}(w:aK):Calls prog 105 #[.agg (CQ a b c A n d),.agg #[b,c]] w (Val w (.bool true)):=by
 have Z:=gU w (aS (CQ a b c A n d) 192) (aS #[b,c] 189);go_enter func105,ntmps105;go_wp2;go_ret;exact⟨rfl,Z⟩
theorem adz{G:dK}{l:List gQ}{g:List (Nat × Nat)}(hn:n≤1000)(w:aK)(h:OB w base A n c l)(J:Qo Py w G n g)(v:∀i,i<n→(l.getD i MC).first=(g.getD i (0,0)).1∧(l.getD i MC).count=(g.getD i (0,0)).2):
  Calls prog 104 #[aG A n c,aG G n d,.func (.func 105) #[] #[]] w (Val w (.bool true)):=by
 obtain⟨r,q⟩:=aV (fun I (H:aP w I)=>h.keep H) (fun I (H:aP w I)=>J.keep H);have qa:=J.len;change Hid _ at v;clear h J;go_enter func104,ntmps104;go_wp2
 go_loopg [7,8,9,17] n (fun k v7 v8 v9 z wr=>∃j:Nat,j+k=n∧z=j∧aP w wr)
 case atStart=>exact⟨0,aj,rfl,aU _ _⟩
 case round=>
  obtain⟨j,hj,rfl,Z⟩:=hrel
  by_cases S:j<n
  ·have s:(j:Int)<(n:Int):=aj
   obtain⟨b,o,B,m,e,rfl,p,f,c2,c3,-⟩:=(r _ Z).at_ S;obtain⟨gb,go,rfl,F⟩:=(q _ Z).at_ S;have P:=F 0 _ rfl;have O:=F 1 _ rfl;simp only[Py,dW]at P O;have R:g[j]' aj=g.getD j (0,0):=by rw[dG,fP aj];rfl
   obtain⟨u,t⟩:=v j S;rw[R,←u]at P;rw[R,←t]at O;change Hid _ at Z;clear F R u t;generalize(l.getD j MC).num=E at*;generalize(l.getD j MC).first=N at*;generalize(l.getD j MC).count=M at*;go_upto_region 6 with(fail)
   obtain⟨X,W⟩:=kF (wr.alloc (aS (CQ E N M B m e) 192));have Y:aP wr X:=by rw[W];exact aJ wr _
   have T:bF X wr 192 (CQ E N M B m e):=by rw[W];exact bF.new wr _ _
   change Code.wp _ _ _ _ (wr.alloc _);rw[←W];have P:=aC P Y;have O:=aC O Y;clear p f c2 c3 W;go_upto_region 7 with(fail)
   obtain⟨D,V⟩:=kF (X.alloc (aS #[N,M] 189));have Q:aP X D:=by rw[V];exact aJ X _
   have C:bF D X 189 #[N,M]:=by rw[V];exact bF.new X _ _
   change Code.wp _ _ _ _ (X.alloc _);rw[←V];have T:=T.keep Q;obtain⟨q0,q1,q2,q3⟩:=T.s4;have r0:=C.c0;have r1:=C.c1;have U:=Y.trans (Q.mono Y.size);obtain⟨L,y⟩:=aV (Z.trans (U.mono Z.size)) (akj (a:=E) (b:=N) (c:=M) (A:=B) (n:=m) (d:=e) D);clear Y Q U T C V P O;go_wp2_with(go_at_call 105;refine y.aQ ?_;rintro w6 K);have x:=ay (L.trans (K.mono L.size));clear K q0 q1 q2 q3 r0 r1;go_wp2;go_roundg(gk-1)
   case measure=>omega
   case rel=>exact⟨j+1,aj,fA,x⟩
  ·go_wp2
   go_ret;exact⟨rfl,Z⟩
theorem agb{P:fG}(R:jo qn qx r cu go ra ro fi=true)(E:P.ok)(w:aK)(h:Bv w lo hi v P):
  Calls prog 237 #[.agg (jC qn qx r cu go ra ro fi),v] w fun e S=>∃B b,e=bM (eP #[aG B P.gs b,iI])∧OB S w B P.gs b (fF ⟨qn,qx,r,cu,go,ra,ro,fi⟩ P P.gs)∧aP w S:=by
 have M:=ay (fun S (C:aP w S)=>air R E S (h.keep C));obtain⟨A,n,c,G,m,d,D,e,rfl,-⟩:=h;generalize fF ⟨qn,qx,r,cu,go,ra,ro,fi⟩ P P.gs=L at*;generalize P.gs=N at*;generalize P.W=Q at*;generalize P.H=O at*;obtain⟨T,V⟩:∃T:Array cO,T=#[aB Q,aB O,aG A n c,aG G m d,aG D n e]:=⟨_,rfl⟩;have Z:=gU w (aS (jC qn qx r cu go ra ro fi) 23) (aS T 93);have Y:=(bF.new w 23 (jC qn qx r cu go ra ro fi)).alloc (aS T 93);have X:=bF.new1 w (aS (jC qn qx r cu go ra ro fi) 23) 93 T;obtain⟨z,U⟩:=kF ((w.alloc (aS (jC qn qx r cu go ra ro fi) 23)).alloc (aS T 93));rw[←U]at Z Y X;have K:Hid (z=(w.alloc (aS (jC qn qx r cu go ra ro fi) 23)).alloc (aS #[Q,O,aG A n c,aG G m d,aG D n e] 93)):=ay (by rw[U,V]);rw[V]at X;obtain⟨x,u,t,s,q⟩:=X.s5;obtain⟨p,o,l,k,j,i,g,f⟩:=Y.s8;change Hid _ at Z;clear Y X U V;go_enter func237,ntmps237;go_upto_region 1 with(fail)
 change Code.wp _ _ _ _ ((w.alloc (aS (jC qn qx r cu go ra ro fi) 23)).alloc (aS #[Q,O,aG A n c,aG G m d,aG D n e] 93));rw[←K];go_wp2_with(go_at_call 60;refine(M _ Z).mono ?_;rintro e a ⟨B,b,B2,b2,fm,rfl,J,-,I⟩);obtain⟨y,F⟩:=aV (J.lower Z.size) (Z.trans (I.mono Z.size));go_wp2;go_ret2;exact⟨B,b,rfl,y,F⟩
theorem LP{C:Ei}{b:aO}{pc:Er}(h:kY C b= .error pc):1≤pc.2∧pc.2≤11∧pc.1.length≤3:=by
 unfold kY at h;split at h
 ·split at h
  ·cases h
  ·rename_i e he
   injection h with h
   subst h;obtain⟨h1,i,r,h2,-,-,h5⟩:=abl he;rw[h2];simp only[xQ];omega
 ·grind
def uV(C:Ei)(src:aO):aO:=[bJ C.qn,bJ C.qx,bJ C.re,bJ C.go,bJ (C.cu/256),bJ C.cu]++dY C.ra++dY C.ro++dY C.fi++src
def aiu(C:Ei)(key:Int):Except Er fG→bI
 | .ok P=>⟨P.gs.length,fun n=>if n<P.gs.length then vF (kK C P n)else [],rX C P,key,0⟩
 | .error Z=>⟨0,fun _=>[],[],key,Z.2⟩
def gu(C:Ei)(src:aO):bI:=aiu C (jf (uV C src)) (kY C src)
theorem Gx{C:Ei}{P:fG}(h:kY C b= .ok P):C.may=true∧P.ok∧yj C (fF C P P.gs) (uF C P):=by
 unfold kY at h;split at h
 ·rename_i Y
  split at h
  ·rename_i W X
   injection h with h
   subst h;have Z:=TR X;exact⟨Y,Ny Y Z.1 Z.2,XP Y Z.1 Z.2 rfl⟩
  ·cases h
 ·cases h
theorem WB{k:gQ}(h:k.good):dV (vF k)∧(vF k).length≤16777216:=by
 have h1:=h.num;have h2:=h.first;have h3:=h.count;refine⟨?_,?_⟩
 ·refine(Ar aj bK ?_).app ?_
  ·grind
  ·intro x hx
   obtain⟨c,hc,hx⟩:=List.mem_flatMap.1 hx;have hg:=h.cd c hc;have hk:=hg.kind;exact Ar aj hg.len hg.Zv x hx
 ·unfold vF
  have:=OT h.cd;rw[h.len]at this;rw[mG,iG];simp only[xQ,vK];omega
theorem adB{C:Ei}{P:fG}(h:yj C (fF C P P.gs) (uF C P)):dV (rX C P)∧(rX C P).length≤16777216:=by
 have Z:∀k∈fF C P P.gs,∀c∈k.CP,0≤c.k∧c.k≤255∧dV c.b∧c.b.length≤65536:=fun k Y c X=>by
  have Z:=(h.good k Y).cd c X;have Y:=Z.kind;exact⟨aj,aj,Z.Zv,Z.len⟩
 refine⟨(VT Z h.n.2).2.2,?_⟩;obtain⟨V,U,T⟩:=TU (C:=C) (W:=P.W) (H:=P.H) (fills:=uF C P) (m:=65536) (fun k Y c X=>(Z k Y c X).2.2.2) (fun i=>by have:=h.fill i;omega);have S:=h.tot;have R:=h.n;unfold rX;omega
theorem Gi(C:Ei)(src:aO):(gu C src).ok∧(gu C src).Si:=by
 have hk:=BJ (uV C src);unfold gu;generalize jf (uV C src)=key at*;cases hp:kY C src with
 |error pc=>
  have:=LP hp;have hne:pc.2≠0:=aj
  refine⟨⟨?_,.inr ⟨this.1,?_,rfl⟩,fun h=>absurd h hne,hk,fun n hn=>?_,?_⟩,⟨fun n=>?_,?_⟩⟩
  ·exact dS _
  ·show pc.2≤15
   omega
  ·exact absurd hn (vM _)
  ·exact dS _
  ·intro v hv;cases hv
  ·intro v hv;cases hv
 |ok P=>
  obtain⟨h1,h2,h3⟩:=Gx hp;have hg:=h2.Ws;have ho:=adB h3;have hc:∀n,n<P.gs.length→dV (vF (kK C P n))∧(vF (kK C P n)).length≤16777216:=fun n hn=>WB (tK h1 h2 hn).good
  refine⟨⟨hg.2,.inl rfl,fun _=>hg.1,hk,fun n hn=>?_,ho.2⟩,⟨fun n=>?_,ho.1⟩⟩
  ·have hn:n<P.gs:=hn
   show(if n<P.gs.length then vF (kK C P n)else []).length≤_;rw[aF hn];exact(hc n hn).2
  ·show dV (if n<P.gs then vF (kK C P n)else [])
   split
   ·grind
   ·grind
def wL(g:Nat→Bool)(f:Nat→Nat):Nat→Nat
 |0=>0
 |k+1=>wL g f k+if g k then f k else 0
theorem XU{g h:Nat→Bool}{f:Nat→Nat}(e:∀x,x<k→g x=h x):wL g f k=wL h f k:=by
 induction k with
 |zero=>rfl
 |succ k Z=>simp only[wL];rw[Z (fun x Y=>e x aj),e k aj]
theorem XV{g:Nat→Bool}{f:Nat→Nat}(e:∀x,x<k→g x=false):wL g f k=0:=by
 induction k with
 |zero=>rfl
 |succ k Z=>simp only[wL];rw[Z (fun x Y=>e x aj),e k aj];rfl
theorem aad{g:Nat→Bool}{f:Nat→Nat}{x k:Nat}(hx:x<k)(hg:g x=true):wL (fun y=>g y&&!decide (y=x)) f k+f x=wL g f k:=by
 induction k with
 |zero=>omega
 |succ k ih=>
  simp only[wL]
  by_cases h:x=k
  ·subst h
   rw[XU (h:=g) (fun y hy=>by rw[vH aj];simp)];simp[hg]
  ·grind
theorem IE(d:aI):∀k,d.FK k=wL (fun x=>(d.names x).isSome) d.lens k
 |0=>rfl
 |k+1=>by
  rw[aI.FK,IE d k];simp only[wL]
  congr 1
  split
  ·rfl
  ·rename_i h
   unfold aI.lens;cases Z:d.names k with
   |none=>rfl
   |some n=>rw[Z]at h;exact absurd rfl h
theorem NZ{g:Nat→Bool}{f:Nat→Nat}{m:Nat}(h:∀x,f x≤m):∀k,wL g f k≤m*k
 |0=>by simp[wL]
 |k+1=>by
  have:=NZ (g:=g) h k;have:=h k;simp only[wL];rw[Nat.mul_succ];split<;>omega
structure Ci(s g:Nat→Bool)(K:Nat)(l:List Nat):Prop where
 nodup:l.Nodup
 lt:∀x∈l,x<K
 mem:∀x,x<K→(x∈l↔s x=true∧g x=false)
theorem Ci.start(s:Nat→Bool)(K:Nat):Ci s s K []:=⟨List.nodup_nil,(fun _ h=>by cases h),fun x _=>⟨(fun h=>by cases h),fun h=>by rw[h.1]at h;cases h.2⟩⟩
theorem Ci.next{s g:Nat→Bool}{K:Nat}{l:List Nat}(h:Ci s g K l){x:Nat}(hx:x<K)(hg:g x=true)(hs:s x=true):Ci s (fun y=>g y&&!decide (y=x)) K (l++ [x]):=by
 have hn:x∉l:=fun k=>by have:=((h.mem x hx).1 k).2;rw[hg]at this;cases this
 refine⟨?_,fun y hy=>?_,fun y hy=>?_⟩
 ·rw[List.nodup_append]
  refine⟨h.nodup,bK,fun a ha b hb e=>?_⟩;rw[iw]at hb;exact hn (by rw[←hb,←e];exact ha)
 ·rcases rH.1 hy with hy|hy
  ·exact h.lt y hy
  ·grind
 ·rw[rH,iw,h.mem y hy]
  by_cases e:y=x
  ·grind
  ·simp[e]
theorem Ci.fin{s g:Nat→Bool}{l:List Nat}(h:Ci s g K l)(Z:∀x,x<K→g x=false):l.Nodup∧∀x,x∈l↔x<K∧s x=true:=
 ⟨h.nodup,fun x=>⟨fun k=>⟨h.lt x k,((h.mem x (h.lt x k)).1 k).1⟩,fun k=>(h.mem x k.1).2 ⟨k.2,Z x k.1⟩⟩⟩
theorem Rl{l:List Nat}(h:l.Nodup)(Z:∀x∈l,x<K):l≤K:=by
 have:=h.length_le_of_subset (l₂:=List.range K) (fun x Y=>yH.2 (Z x Y));simpa using this
section
def LQ(a b:iD):Prop:=b=a∨∃k,a.safe≤k∧k≤a.data.length∧b=⟨a.data.take k,k⟩
def FD(a:iD)(p:Nat):iD:=⟨a.data.take (a.safe+p),a.safe+p⟩
theorem LQ.refl(a:iD):LQ a a:=.inl rfl
theorem LQ.step{a b:iD}(h:LQ a b){p:Nat}(V:b.safe≤b.data)(Z:b.safe+p≤b.data):LQ a (FD b p):=by
 rcases h with rfl|⟨k,Y,X,rfl⟩
 ·exact .inr ⟨b.safe+p,aj,Z,rfl⟩
 ·have W:(a.data.take k)=k:=by rw[xO];omega
  dsimp only at Z;rw[W]at Z;obtain rfl:p=0:=aj
  refine .inr ⟨k,Y,X,?_⟩;unfold FD;dsimp only;rw[dW,wO aj]
structure Cj(a b:List iD):Prop where
 len:b.length=a.length
 cut:∀n,n<a.length→LQ (dh a n) (dh b n)
theorem Cj.refl(a:List iD):Cj a a:=⟨rfl,fun _ _=>LQ.refl _⟩
theorem Ih(l:List iD)(f:iD→iD)(n i:Nat):dh (l.modify n f) i=if i=n∧n<l then f (dh l i)else dh l i:=by
 unfold dh;rw[dG,dG,List.getElem?_modify]
 by_cases h:n=i
 ·grind
 ·grind
theorem Cj.step{a b:List iD}(h:Cj a b){n p:Nat}(Y:(dh b n).safe≤(dh b n).data)(X:(dh b n).safe+p≤(dh b n).data):Cj a (b.modify n fun f=>FD f p):=by
 refine⟨by rw[sS];exact h.len,fun i Z=>?_⟩;rw[Ih];split
 ·rename_i k
  obtain⟨rfl,-⟩:=k;exact(h.cut i Z).step Y X
 ·exact h.cut i Z
variable{X:bI}{ρ:Nat→Nat}{d:aI}
structure fZ(d:aI):Prop where
 names:∀x n,d.names x=some n→n<d.all.length∧x<36
 safe:∀x n,d.safe x=some n→n<d.all.length∧x<36
 steps:∀s∈d.steps,s.kind=0→s.file<d.all.length
theorem aae{e:List iD}(h:Cj d.all e)(Z:k≤d.steps):FM d ⟨d.room,e,d.view k,d.view k,[],0,false⟩:=
 ⟨rfl,h.len,fun n Y=>h.cut n Y,⟨k,Z,rfl⟩,rfl,rfl,rfl,rfl⟩
theorem O7(d:aI):d.view 0=d.safe:=by unfold aI.view;simp
theorem O9(d:aI)(Z:k<d.steps):d.view (k+1)=uO (d.view k) d.steps[k]:=by
 unfold aI.view;rw[BH Z,List.foldl_append];rfl
theorem bY.lt(h:bY X ρ d)(V:X.ok):fZ d:=by
 have S:=V.ch;refine⟨fun x n Y=>?_,fun x n Y=>?_,fun s U T=>?_⟩
 ·have:=h.cur.lt x n Y
  have:=h.cur.ok x n Y;omega
 ·have Z:=h.vs 0 (dS _)
  rw[O7]at Z;have:=Z.lt x n Y;have:=Z.ok x n Y;omega
 ·obtain⟨k,W,rfl⟩:=jA.1 U
  have Z:=h.vs (k+1) W;rw[O9 d W]at Z;have:=Z.lt d.steps[k].name d.steps[k].file (by unfold uO;rw[T];exact aF rfl);omega
end
section
variable{X:bI}{d:aI}
def dZ(s:Nat→Option iD)(x:Nat)(v:Option iD):Nat→Option iD:=fun y=>if y=x then v else s y
def AZ(v:Option iD):Nat:=match v with|some f=>f.data.length|none=>0
def yV(s:Nat→Option iD):Nat→Nat
 |0=>0
 |k+1=>yV s k+AZ (s k)
theorem aak(d:aI)(x:Nat):d.lens x=AZ (d.see x):=by
 unfold aI.lens aI.see AZ;cases d.names x<;>rfl
theorem Rq(d:aI):∀k,d.FK k=yV d.see k
 |0=>rfl
 |k+1=>by unfold aI.FK yV;rw[Rq d k,aak]
theorem Gy(s:Nat→Option iD)(x:Nat)(v:Option iD):∀k,yV (dZ s x v) k+(if x<k then AZ (s x)else 0)=yV s k+(if x<k then AZ v else 0)
 |0=>by simp[yV]
 |k+1=>by
  have:=Gy s x v k;unfold yV
  by_cases h:k=x
  ·subst h
   rw[au aj,au aj]at this;rw[aF aj,aF aj];unfold dZ at this ⊢;rw[aF rfl];omega
  ·have e:dZ s x v k=s k:=au h
   rw[e];split at this<;>split<;>omega
theorem JX(s:Nat→Option iD){v:Option iD}{u:Nat}(h:yV s 36≤u)(n:Nat)(Z:AZ v≤AZ (s x)+n):yV (dZ s x v) 36≤u+n:=by
 have:=Gy s x v 36;split at this<;>omega
structure yX(X:bI)(d:aI)(s:Nat→Option iD)(u:Nat):Prop where
 down:d.down=false
 armed:d.armed=0
 room:d.room=65536
 inv:∃ρ,bY X ρ d
 see:d.see=s
 use:yV s 36≤u
theorem Pe(h:d.armed=0):d.fall=d:=by unfold aI.fall;rw[au aj]
theorem Gz(h:d.armed=0)(hd:d.down=false):d.goes 0=(d,0):=by unfold aI.goes;rw[hd,Pe h,hd];rfl
variable{s:Nat→Option iD}{u:Nat}
theorem XY(h:d.see x=none):d.names x=none:=by
 unfold aI.see at h;cases e:d.names x with
 |none=>rfl
 |some n=>rw[e]at h;cases h
theorem yX.create(h:yX X d s u){x:Nat}(hx:s x=none)(Y:x<4+2*X.chunks)(U:x%2=1∨x=0):(d.create x).2=0∧yX X (d.create x).1 (dZ s x (some ⟨[],0⟩)) u:=by
 obtain⟨ρ,W⟩:=h.inv;have T:=XY (by rw[h.see];exact hx)
 have Z:(d.create x).2=0∧(d.create x).1.armed=0∧(d.create x).1.room=65536:=by
  unfold aI.create;rw[T];simp only[Option.isSome_none,Bool.false_eq_true,rJ,Gz h.armed h.down,ne_eq,not_true_eq_false];exact⟨trivial,h.armed,h.room⟩
 have V:=DY W h.down x;refine⟨Z.1,(V.ok Z.1).1,Z.2.1,Z.2.2,W.create Y U,?_,?_⟩
 ·funext y;rw[(V.ok Z.1).2,h.see];rfl
 ·exact JX s h.use 0 (by simp[AZ])
theorem yX.append(h:yX X d s u){x:Nat}{v:iD}{b:aO}(hx:s x=some v)(hu:u+b≤65536)(ho:x%2=1∨(x=0∧xU X (v.data++b)∧xU X (v.data++b.take (b.length/2)))):
  (d.append x b).2=0∧yX X (d.append x b).1 (dZ s x (some {v with data:=v.data++b})) (u+b):=by
 obtain⟨ρ,hi⟩:=h.inv;obtain⟨n,hn,hf⟩:=uo (show d.see x=some v by rw[h.see];exact hx)
 have aqt:(d.used:Int)≤u:=by
  have:=h.use;unfold aI.used;rw[Rq,h.see];omega
 have he:(d.append x b).2=0∧(d.append x b).1.armed=0∧(d.append x b).1.room=65536:=by
  unfold aI.append;rw[h.down,Dj hn,Pe h.armed,h.down,h.room];rw[au bK,au bK,au aj,au bK];exact⟨rfl,h.armed,h.room⟩
 have hw:=AY hi h.down x b;refine⟨he.1,(hw.ok he.1).1,he.2.1,he.2.2,⟨ρ,hi.append ?_⟩,?_,?_⟩
 ·grind
 ·funext y
  rw[(hw.ok he.1).2,h.see,hx];rfl
 ·exact JX s h.use _ (by simp[AZ,hx])
theorem yX.sync(h:yX X d s u){x:Nat}{v:iD}(hx:s x=some v)(V:x%2=1∨x=0):(d.sync x).2=0∧yX X (d.sync x).1 (dZ s x (some {v with safe:=v.data.length})) u:=by
 obtain⟨ρ,Y⟩:=h.inv;obtain⟨n,U,T⟩:=uo (show d.see x=some v by rw[h.see];exact hx)
 have Z:(d.sync x).2=0∧(d.sync x).1.armed=0∧(d.sync x).1.room=65536:=by
  unfold aI.sync;rw[Dj U,Gz h.armed h.down];exact⟨rfl,h.armed,h.room⟩
 have W:=DL Y h.down x;refine⟨Z.1,(W.ok Z.1).1,Z.2.1,Z.2.2,⟨ρ,Y.sync V⟩,?_,?_⟩
 ·funext y
  rw[(W.ok Z.1).2,h.see,hx];rfl
 ·exact JX s h.use 0 (by simp[AZ,hx])
theorem yX.rename(h:yX X d s u){x z:Nat}{v:iD}(hx:s x=some v)(hlt:x<36)(hxz:x=z+1)(hz:z%2=0)(ho:(z=0→xU X v.data)∧(z≠0→X.bad=0∧v.data=X.cont z∧v.safe=v.data)):
  (d.rename x z).2=0∧yX X (d.rename x z).1 (dZ (dZ s x none) z (some v)) u:=by
 obtain⟨ρ,hi⟩:=h.inv;obtain⟨n,hn,hf⟩:=uo (show d.see x=some v by rw[h.see];exact hx)
 have he:(d.rename x z).2=0∧(d.rename x z).1.armed=0∧(d.rename x z).1.room=65536:=by
  unfold aI.rename;rw[Dj hn,Gz h.armed h.down];exact⟨rfl,h.armed,h.room⟩
 have hw:=Ie h.down x z;refine⟨he.1,(hw.ok he.1).1,he.2.1,he.2.2,⟨ρ,hi.rename hxz hz fun m hm=>?_⟩,?_,?_⟩
 ·grind
 ·funext y
  rw[(hw.ok he.1).2,h.see,hx];rfl
 ·have h1:=Gy s x none 36
  have h2:=Gy (dZ s x none) z (some v) 36;have h3:=h.use;rw[aF hlt,aF hlt,hx]at h1;simp only[AZ]at h1 h2;split at h2<;>omega
theorem yX.ji(h:yX X d s u):d.ji.2=0∧yX X d.ji.1 s u:=by
 obtain⟨ρ,W⟩:=h.inv
 have Z:d.ji.2=0∧d.ji.1.armed=0∧d.ji.1.room=65536:=by
  unfold aI.ji;rw[Gz h.armed h.down];exact⟨rfl,h.armed,h.room⟩
 have Y:=xw h.down;exact⟨Z.1,(Y.ok Z.1).1,Z.2.1,Z.2.2,⟨ρ,W.ji⟩,by funext y;rw[(Y.ok Z.1).2,h.see],h.use⟩
theorem yX.new:yX X (aI.new 65536) (fun _=>none) 0:=⟨rfl,rfl,rfl,⟨fun _=>0,bY.new _ _⟩,rfl,by simp[yV,AZ]⟩
structure gy(X:bI)(d:aI)(u:Nat)(o2 o3 o4 o5:Option iD):Prop where
 is:∃s v,yX X d s u∧s 0=some v∧Em X v.data∧s 2=o2∧s 3=o3∧s 4=o4∧s 5=o5
variable{o2 o3 o4 o5:Option iD}
theorem gy.akp(h:gy X d u o2 o3 o4 none)(U:X.chunks=1):(d.create 5).2=0∧gy X (d.create 5).1 u o2 o3 o4 (some ⟨[],0⟩):=by
 obtain⟨s,v,Z,Y,W,T,S,R,V⟩:=h.is;have:=Z.create V aj (.inl rfl);exact⟨this.1,⟨_,v,this.2,by simp[dZ,Y],W,by simp[dZ, *],by simp[dZ, *],by simp[dZ, *],by simp[dZ, *]⟩⟩
theorem gy.akq(h:gy X d u o2 o3 o4 (some ⟨[],n⟩))(Z:u+b≤65536):(d.append 5 b).2=0∧gy X (d.append 5 b).1 (u+b) o2 o3 o4 (some ⟨b,n⟩):=by
 obtain⟨s,v,Y,W,V,T,S,R,U⟩:=h.is;have:=Y.append U Z (.inl rfl);exact⟨this.1,⟨_,v,this.2,by simp[dZ,W],V,by simp[dZ, *],by simp[dZ, *],by simp[dZ, *],by simp[dZ, *]⟩⟩
theorem gy.am7(h:gy X d u o2 o3 o4 (some ⟨b,n⟩)):(d.sync 5).2=0∧gy X (d.sync 5).1 u o2 o3 o4 (some ⟨b,b.length⟩):=by
 obtain⟨s,v,Z,Y,W,U,T,S,V⟩:=h.is;have:=Z.sync V (.inl rfl);exact⟨this.1,⟨_,v,this.2,by simp[dZ,Y],W,by simp[dZ, *],by simp[dZ, *],by simp[dZ, *],by simp[dZ, *]⟩⟩
theorem gy.akr(h:gy X d u o2 o3 o4 (some ⟨b,b.length⟩))(Z:X.bad=0)(Y:b=X.cont 4):(d.rename 5 4).2=0∧gy X (d.rename 5 4).1 u o2 o3 (some ⟨b,b.length⟩) none:=by
 obtain⟨s,v,W,V,U,S,R,Q,T⟩:=h.is;have:=W.rename T aj rfl rfl ⟨(fun e=>by cases e),fun _=>⟨Z,Y,rfl⟩⟩;exact⟨this.1,⟨_,v,this.2,by simp[dZ,V],U,by simp[dZ, *],by simp[dZ, *],by simp[dZ, *],by simp[dZ, *]⟩⟩
theorem gy.aks(h:gy X d u o2 none o4 o5)(U:X.chunks=1):(d.create 3).2=0∧gy X (d.create 3).1 u o2 (some ⟨[],0⟩) o4 o5:=by
 obtain⟨s,v,Z,Y,W,T,V,S,R⟩:=h.is;have:=Z.create V aj (.inl rfl);exact⟨this.1,⟨_,v,this.2,by simp[dZ,Y],W,by simp[dZ, *],by simp[dZ, *],by simp[dZ, *],by simp[dZ, *]⟩⟩
theorem gy.akt(h:gy X d u o2 (some ⟨[],n⟩) o4 o5)(Z:u+b≤65536):(d.append 3 b).2=0∧gy X (d.append 3 b).1 (u+b) o2 (some ⟨b,n⟩) o4 o5:=by
 obtain⟨s,v,Y,W,V,T,U,S,R⟩:=h.is;have:=Y.append U Z (.inl rfl);exact⟨this.1,⟨_,v,this.2,by simp[dZ,W],V,by simp[dZ, *],by simp[dZ, *],by simp[dZ, *],by simp[dZ, *]⟩⟩
theorem gy.am8(h:gy X d u o2 (some ⟨b,n⟩) o4 o5):(d.sync 3).2=0∧gy X (d.sync 3).1 u o2 (some ⟨b,b.length⟩) o4 o5:=by
 obtain⟨s,v,Z,Y,W,U,V,T,S⟩:=h.is;have:=Z.sync V (.inl rfl);exact⟨this.1,⟨_,v,this.2,by simp[dZ,Y],W,by simp[dZ, *],by simp[dZ, *],by simp[dZ, *],by simp[dZ, *]⟩⟩
theorem gy.aku(h:gy X d u o2 (some ⟨b,b.length⟩) o4 o5)(Z:X.bad=0)(Y:b=X.cont 2):(d.rename 3 2).2=0∧gy X (d.rename 3 2).1 u (some ⟨b,b.length⟩) none o4 o5:=by
 obtain⟨s,v,W,V,U,S,T,R,Q⟩:=h.is;have:=W.rename T aj rfl rfl ⟨(fun e=>by cases e),fun _=>⟨Z,Y,rfl⟩⟩;exact⟨this.1,⟨_,v,this.2,by simp[dZ,V],U,by simp[dZ, *],by simp[dZ, *],by simp[dZ, *],by simp[dZ, *]⟩⟩
theorem gy.dir(h:gy X d u o2 o3 o4 o5):d.ji.2=0∧gy X d.ji.1 u o2 o3 o4 o5:=by
 obtain⟨s,v,Z,h⟩:=h.is;exact⟨Z.ji.1,⟨s,v,Z.ji.2,h⟩⟩
theorem gy.jot(h:gy X d u o2 o3 o4 o5){r:bV}(Z:gq X r)(W:u+(bH r)≤65536):(d.append 0 (bH r)).2=0∧gy X (d.append 0 (bH r)).1 (u+(bH r)) o2 o3 o4 o5:=by
 obtain⟨s,v,V,U,Y,T,S,R,Q⟩:=h.is;have:=V.append U W (.inr ⟨rfl,(Y.app Z).jl,Y.part Z _⟩);exact⟨this.1,⟨_,_,this.2,by simp[dZ];rfl,Y.app Z,by simp[dZ, *],by simp[dZ, *],by simp[dZ, *],by simp[dZ, *]⟩⟩
theorem gy.keep(h:gy X d u o2 o3 o4 o5):(d.sync 0).2=0∧gy X (d.sync 0).1 u o2 o3 o4 o5:=by
 obtain⟨s,v,Z,Y,W,V,U,T,S⟩:=h.is;have:=Z.sync Y (.inr rfl);exact⟨this.1,⟨_,⟨v.data,v.data.length⟩,this.2,by simp[dZ],W,by simp[dZ, *],by simp[dZ, *],by simp[dZ, *],by simp[dZ, *]⟩⟩
def iV(X:bI)(d:aI)(f:bZ):aO→aI × bZ × Int
 | []=>(d,f,0)
 |w::l=>let x:=eF X d f w;if x.2.2=10 then x else iV X x.1 x.2.1 l
theorem fK{f:bZ}{w:Int}{d':aI}{Z:bZ}(h:eF X d f w=(d',Z,0)):iV X d f (w::l)=iV X d' Z l:=by
 show(let x:=eF X d f w;if x.2.2=10 then x else iV X x.1 x.2.1 l)=_;rw[h];exact au (by show¬(0:Int)=10;decide)
theorem mQ{f:bZ}{w:Nat}(hw:w<f.tasks)(hd:f.down=false)(h:f.has w=none):eF X d f w=(d,f,0):=by
 unfold eF;rw[au aj,hd,au bK];split
 ·rfl
 ·grind
theorem aal{f:bZ}{w:Nat}(Z:w<f.tasks)(hd:f.down=false)(h:f.job.state=3):eF X d f w=(d,f,0):=by
 unfold eF;rw[au aj,hd,au bK,aF aj]
theorem lg{f:bZ}{w:Nat}{t:aX}(Y:w<f.tasks)(hd:f.down=false)(W:f.job.state=1)(h:f.has w=some t){d':aI}{j:bT}{m:aO}(Z:eG X d f t=⟨d',j,m,b,0⟩):
  eF X d f w=(d',{f with job:=j,made:=m,tasks:=f.tasks.set w (if t.step=7 then aX.zero else⟨true,t.n,t.step+1,b⟩)},0):=by
 unfold eF;rw[au aj,hd,au bK,au aj,show((w:Int)).toNat=w by omega,h];dsimp only;rw[Z];rw[aF rfl]
def lH(X:bI):bT:=⟨1,X.key,X.chunks,0,fun _=>none⟩
def nG(X:bI):bT:=⟨1,X.key,X.chunks,0,fun n=>if n=(0:Int).toNat then some (iJ 49 0 (X.pk 0))else none⟩
theorem Jp(Z:X.chunks=1):(lH X).missing=[0]:=by unfold bT.missing lH;dsimp only;rw[Z];rfl
theorem N8(Z:X.chunks=1):(nG X).missing=[]:=by unfold bT.missing nG;dsimp only;rw[Z];rfl
theorem agt(Z:X.chunks=1)(t:aX)(h:t.has=true)(Y:t.n=0)(m:aO):(bZ.mk (lH X) [t,aX.zero] m false).take=none:=by
 unfold bZ.take bZ.wants;rw[Jp Z];simp[bZ.taken,h,Y]
theorem agu(Z:X.chunks=1)(m:aO):(bZ.mk (lH X) [aX.zero,aX.zero] m false).take=some 0:=by
 unfold bZ.take bZ.wants;rw[Jp Z];rfl
theorem agv(Z:X.chunks=1)(m:aO):(bZ.mk (nG X) [aX.zero,aX.zero] m false).take=some 1:=by
 unfold bZ.take bZ.wants;rw[N8 Z];simp[bZ.taken,nG,Z,aX.zero]
theorem agw(Z:X.chunks=1)(t:aX)(h:t.has=true)(Y:t.n=1)(m:aO):(bZ.mk (nG X) [aX.zero,t] m false).take=none:=by
 unfold bZ.take bZ.wants;rw[N8 Z];simp[bZ.taken,h,Y,aX.zero,nG,Z]
theorem Cm(Z:X.chunks=1)(t:aX)(h:t.has=true)(Y:t.n=0)(m:aO):(bZ.mk (lH X) [t,aX.zero] m false).has 1=none:=by
 unfold bZ.has;rw[agt Z t h Y];rfl
theorem CB(Z:X.chunks=1)(t:aX)(h:t.has=true)(Y:t.n=1)(m:aO):(bZ.mk (nG X) [aX.zero,t] m false).has 0=none:=by
 unfold bZ.has;rw[agw Z t h Y];rfl
theorem N9(h:gy X d u o2 o3 o4 o5){j Z:bT}{r:bV}(W:j.apply r=(Z,0)):∃Y,lZ d j r=(Y,Z,0)∧gy X Y u o2 o3 o4 o5:=by
 obtain⟨V,U⟩:=h.keep;unfold lZ;rw[au (by rw[V];simp),W];exact⟨_,rfl,U⟩
theorem adH(Z:X.ok)(W:X.chunks=1):(lH X).apply (iJ 49 0 (X.pk 0))=(nG X,0):=by
 have Y:=(gq.done 0 aj).may Z;unfold bT.apply;rw[au (by rw[show(iJ 49 0 (X.pk 0))=iJ 49 ((0:Nat):Int) (X.pk 0)from rfl,Y];simp),au (by rintro⟨e,-⟩;cases e),au (by rintro(e|e);exact e rfl;cases e),aF (show(iJ 49 0 (X.pk 0)).kind=49 from rfl),au (by show¬(X.chunks:Int)≤0;omega)];rfl
theorem adI(Z:X.ok)(Y:X.bad=0)(V:X.chunks=1):(nG X).apply (iJ 51 0 X.out)=({nG X with state:=3},0):=by
 have W:=(gq.fin Y).may Z;unfold bT.apply;rw[au (by rw[W];simp),au (by rintro⟨e,-⟩;cases e),au (by rintro(e|e);exact e rfl;cases e),au (show¬(iJ 51 0 X.out).kind=49 by show¬(51:Int)=49;decide),au (show¬(iJ 51 0 X.out).kind=50 by show¬(51:Int)=50;decide),au];rintro(e|e)
 ·have:(X.chunks:Int)=0:=e
  omega
 ·have U:((nG X).count 16:Int)<(X.chunks:Int):=e
  have T:(nG X).count 16=1:=rfl;omega
theorem akv(W:X.ok)(V:X.bad=0)(Z:X.chunks=1)(h:gy X d u none none none none):∃Y,eF X d ⟨lH X,[aX.zero,aX.zero],[],false⟩ 0=(Y,⟨lH X,[⟨true,0,1,X.pk 0⟩,aX.zero],[0],false⟩,0)∧gy X Y u none none none none:=by
 have _:=W.good V;have _:=Z;have U:bZ.has ⟨lH X,[aX.zero,aX.zero],[],false⟩ 0=some ⟨true,0,0,[]⟩:=by unfold bZ.has;rw[agu Z];rfl
 refine⟨d,?_,h⟩;refine(lg (by show 0<2;omega) rfl rfl U ?_).trans rfl;unfold eG bI.file;rw[Z];rfl
theorem akw(W:X.ok)(V:X.bad=0)(Z:X.chunks=1)(h:gy X d u none none none none):∃Y,eF X d ⟨lH X,[⟨true,0,1,X.pk 0⟩,aX.zero],[0],false⟩ 0=(Y,⟨lH X,[⟨true,0,2,X.pk 0⟩,aX.zero],[0],false⟩,0)∧gy X Y u none none none (some ⟨[],0⟩):=by
 have _:=W.good V;have _:=Z;obtain⟨U,T⟩:=h.akp Z;refine⟨_,?_,T⟩;refine(lg (by show 0<2;omega) rfl rfl rfl (d':=(d.create 5).1) ?_).trans rfl;show vO.mk _ _ _ _ _=_;rw[←U];unfold bI.temp;rw[Z];rfl
theorem akx(W:X.ok)(V:X.bad=0)(Y:X.chunks=1)(h:gy X d u none none none (some ⟨[],0⟩))(U:u+(X.pk 0)≤65536):∃Z,eF X d ⟨lH X,[⟨true,0,2,X.pk 0⟩,aX.zero],[0],false⟩ 0=(Z,⟨lH X,[⟨true,0,3,X.pk 0⟩,aX.zero],[0],false⟩,0)∧gy X Z (u+(X.pk 0)) none none none (some ⟨X.pk 0,0⟩):=by
 have _:=W.good V;have _:=Y;obtain⟨T,S⟩:=h.akq U;refine⟨_,?_,S⟩;refine(lg (by show 0<2;omega) rfl rfl rfl (d':=(d.append 5 (X.pk 0)).1) ?_).trans rfl;show vO.mk _ _ _ _ _=_;rw[←T];unfold bI.temp;rw[Y];rfl
theorem aky(W:X.ok)(V:X.bad=0)(Y:X.chunks=1)(h:gy X d u none none none (some ⟨X.pk 0,0⟩)):∃Z,eF X d ⟨lH X,[⟨true,0,3,X.pk 0⟩,aX.zero],[0],false⟩ 0=(Z,⟨lH X,[⟨true,0,4,X.pk 0⟩,aX.zero],[0],false⟩,0)∧gy X Z u none none none (some ⟨X.pk 0,(X.pk 0).length⟩):=by
 have _:=W.good V;have _:=Y;obtain⟨U,T⟩:=h.am7;refine⟨_,?_,T⟩;refine(lg (by show 0<2;omega) rfl rfl rfl (d':=(d.sync 5).1) ?_).trans rfl;show vO.mk _ _ _ _ _=_;rw[←U];unfold bI.temp;rw[Y];rfl
theorem akz(V:X.ok)(Y:X.bad=0)(W:X.chunks=1)(h:gy X d u none none none (some ⟨X.pk 0,(X.pk 0).length⟩)):∃Z,eF X d ⟨lH X,[⟨true,0,4,X.pk 0⟩,aX.zero],[0],false⟩ 0=(Z,⟨lH X,[⟨true,0,5,X.pk 0⟩,aX.zero],[0],false⟩,0)∧gy X Z u none none (some ⟨X.pk 0,(X.pk 0).length⟩) none:=by
 have _:=V.good Y;have _:=W;obtain⟨U,T⟩:=h.akr Y rfl;refine⟨_,?_,T⟩;refine(lg (by show 0<2;omega) rfl rfl rfl (d':=(d.rename 5 4).1) ?_).trans rfl;show vO.mk _ _ _ _ _=_;rw[←U];unfold bI.temp bI.name;rw[W];rfl
theorem akA(Y:X.ok)(W:X.bad=0)(V:X.chunks=1)(h:gy X d u none none (some ⟨X.pk 0,(X.pk 0).length⟩) none):∃Z,eF X d ⟨lH X,[⟨true,0,5,X.pk 0⟩,aX.zero],[0],false⟩ 0=(Z,⟨lH X,[⟨true,0,6,X.pk 0⟩,aX.zero],[0],false⟩,0)∧gy X Z u none none (some ⟨X.pk 0,(X.pk 0).length⟩) none:=by
 have _:=Y.good W;have _:=V;obtain⟨U,T⟩:=h.dir;refine⟨_,?_,T⟩;refine(lg (w:=0) (by show 0<2;omega) rfl rfl (t:=⟨true,0,5,X.pk 0⟩) rfl (d':=d.ji.1) (j:=lH X) (m:=[0]) (b:=X.pk 0) ?_).trans rfl;show vO.mk _ _ _ _ _=_;rw[←U]
theorem akB(W:X.ok)(V:X.bad=0)(Y:X.chunks=1)(h:gy X d u none none (some ⟨X.pk 0,(X.pk 0).length⟩) none)(U:u+(bH (iJ 49 0 (X.pk 0)))≤65536):∃Z,eF X d ⟨lH X,[⟨true,0,6,X.pk 0⟩,aX.zero],[0],false⟩ 0=(Z,⟨lH X,[⟨true,0,7,X.pk 0⟩,aX.zero],[0],false⟩,0)∧gy X Z (u+(bH (iJ 49 0 (X.pk 0)))) none none (some ⟨X.pk 0,(X.pk 0).length⟩) none:=by
 have _:=W.good V;have _:=Y;obtain⟨T,S⟩:=h.jot (gq.done 0 aj) U;refine⟨_,?_,S⟩;have R:X.xR ⟨true,0,6,X.pk 0⟩=iJ 49 0 (X.pk 0):=by unfold bI.xR;rw[Y];rfl
 refine(lg (w:=0) (by show 0<2;omega) rfl rfl (t:=⟨true,0,6,X.pk 0⟩) rfl (d':=(d.append 0 (bH (iJ 49 0 (X.pk 0)))).1) (j:=lH X) (m:=[0]) (b:=X.pk 0) ?_).trans rfl;show vO.mk (d.append 0 (bH (X.xR _))).1 _ _ _ (d.append 0 (bH (X.xR _))).2=_;rw[R];exact bf (vO.mk _ _ _ _) T
theorem akC(W:X.ok)(V:X.bad=0)(Y:X.chunks=1)(h:gy X d u none none (some ⟨X.pk 0,(X.pk 0).length⟩) none):∃Z,eF X d ⟨lH X,[⟨true,0,7,X.pk 0⟩,aX.zero],[0],false⟩ 0=(Z,⟨nG X,[aX.zero,aX.zero],[0],false⟩,0)∧gy X Z u none none (some ⟨X.pk 0,(X.pk 0).length⟩) none:=by
 have _:=W.good V;have _:=Y;obtain⟨Z,U,T⟩:=N9 h (adH W Y);refine⟨Z,?_,T⟩;have S:X.xR ⟨true,0,7,X.pk 0⟩=iJ 49 0 (X.pk 0):=by unfold bI.xR;rw[Y];rfl
 refine(lg (w:=0) (by show 0<2;omega) rfl rfl (t:=⟨true,0,7,X.pk 0⟩) rfl (d':=Z) (j:=nG X) (m:=[0]) (b:=X.pk 0) ?_).trans rfl;show vO.mk (lZ d (lH X) (X.xR ⟨true,0,7,X.pk 0⟩)).1 (lZ d (lH X) (X.xR ⟨true,0,7,X.pk 0⟩)).2.1 _ _ (lZ d (lH X) (X.xR ⟨true,0,7,X.pk 0⟩)).2.2=_;rw[S,U]
theorem akD(W:X.ok)(V:X.bad=0)(Z:X.chunks=1)(h:gy X d u none none (some ⟨X.pk 0,(X.pk 0).length⟩) none):∃Y,eF X d ⟨nG X,[aX.zero,aX.zero],[0],false⟩ 1=(Y,⟨nG X,[aX.zero,⟨true,1,1,X.out⟩],[0],false⟩,0)∧gy X Y u none none (some ⟨X.pk 0,(X.pk 0).length⟩) none:=by
 have _:=W.good V;have _:=Z;have U:bZ.has ⟨nG X,[aX.zero,aX.zero],[0],false⟩ 1=some ⟨true,1,0,[]⟩:=by unfold bZ.has;rw[agv Z];rfl
 refine⟨d,?_,h⟩;refine(lg (by show 1<2;omega) rfl rfl U ?_).trans rfl;unfold eG bI.file;rw[Z];rfl
theorem akE(W:X.ok)(V:X.bad=0)(Z:X.chunks=1)(h:gy X d u none none (some ⟨X.pk 0,(X.pk 0).length⟩) none):∃Y,eF X d ⟨nG X,[aX.zero,⟨true,1,1,X.out⟩],[0],false⟩ 1=(Y,⟨nG X,[aX.zero,⟨true,1,2,X.out⟩],[0],false⟩,0)∧gy X Y u none (some ⟨[],0⟩) (some ⟨X.pk 0,(X.pk 0).length⟩) none:=by
 have _:=W.good V;have _:=Z;obtain⟨U,T⟩:=h.aks Z;refine⟨_,?_,T⟩;refine(lg (by show 1<2;omega) rfl rfl rfl (d':=(d.create 3).1) ?_).trans rfl;show vO.mk _ _ _ _ _=_;rw[←U];unfold bI.temp;rw[Z];rfl
theorem akF(W:X.ok)(V:X.bad=0)(Y:X.chunks=1)(h:gy X d u none (some ⟨[],0⟩) (some ⟨X.pk 0,(X.pk 0).length⟩) none)(U:u+(X.out)≤65536):∃Z,eF X d ⟨nG X,[aX.zero,⟨true,1,2,X.out⟩],[0],false⟩ 1=(Z,⟨nG X,[aX.zero,⟨true,1,3,X.out⟩],[0],false⟩,0)∧gy X Z (u+(X.out)) none (some ⟨X.out,0⟩) (some ⟨X.pk 0,(X.pk 0).length⟩) none:=by
 have _:=W.good V;have _:=Y;obtain⟨T,S⟩:=h.akt U;refine⟨_,?_,S⟩;refine(lg (by show 1<2;omega) rfl rfl rfl (d':=(d.append 3 (X.out)).1) ?_).trans rfl;show vO.mk _ _ _ _ _=_;rw[←T];unfold bI.temp;rw[Y];rfl
theorem akG(W:X.ok)(V:X.bad=0)(Y:X.chunks=1)(h:gy X d u none (some ⟨X.out,0⟩) (some ⟨X.pk 0,(X.pk 0).length⟩) none):∃Z,eF X d ⟨nG X,[aX.zero,⟨true,1,3,X.out⟩],[0],false⟩ 1=(Z,⟨nG X,[aX.zero,⟨true,1,4,X.out⟩],[0],false⟩,0)∧gy X Z u none (some ⟨X.out,(X.out).length⟩) (some ⟨X.pk 0,(X.pk 0).length⟩) none:=by
 have _:=W.good V;have _:=Y;obtain⟨U,T⟩:=h.am8;refine⟨_,?_,T⟩;refine(lg (by show 1<2;omega) rfl rfl rfl (d':=(d.sync 3).1) ?_).trans rfl;show vO.mk _ _ _ _ _=_;rw[←U];unfold bI.temp;rw[Y];rfl
theorem akH(V:X.ok)(Y:X.bad=0)(W:X.chunks=1)(h:gy X d u none (some ⟨X.out,(X.out).length⟩) (some ⟨X.pk 0,(X.pk 0).length⟩) none):∃Z,eF X d ⟨nG X,[aX.zero,⟨true,1,4,X.out⟩],[0],false⟩ 1=(Z,⟨nG X,[aX.zero,⟨true,1,5,X.out⟩],[0],false⟩,0)∧gy X Z u (some ⟨X.out,(X.out).length⟩) none (some ⟨X.pk 0,(X.pk 0).length⟩) none:=by
 have _:=V.good Y;have _:=W;obtain⟨U,T⟩:=h.aku Y rfl;refine⟨_,?_,T⟩;refine(lg (by show 1<2;omega) rfl rfl rfl (d':=(d.rename 3 2).1) ?_).trans rfl;show vO.mk _ _ _ _ _=_;rw[←U];unfold bI.temp bI.name;rw[W];rfl
theorem akI(Y:X.ok)(W:X.bad=0)(V:X.chunks=1)(h:gy X d u (some ⟨X.out,(X.out).length⟩) none (some ⟨X.pk 0,(X.pk 0).length⟩) none):∃Z,eF X d ⟨nG X,[aX.zero,⟨true,1,5,X.out⟩],[0],false⟩ 1=(Z,⟨nG X,[aX.zero,⟨true,1,6,X.out⟩],[0],false⟩,0)∧gy X Z u (some ⟨X.out,(X.out).length⟩) none (some ⟨X.pk 0,(X.pk 0).length⟩) none:=by
 have _:=Y.good W;have _:=V;obtain⟨U,T⟩:=h.dir;refine⟨_,?_,T⟩;refine(lg (w:=1) (by show 1<2;omega) rfl rfl (t:=⟨true,1,5,X.out⟩) rfl (d':=d.ji.1) (j:=nG X) (m:=[0]) (b:=X.out) ?_).trans rfl;show vO.mk _ _ _ _ _=_;rw[←U]
theorem akJ(V:X.ok)(Y:X.bad=0)(W:X.chunks=1)(h:gy X d u (some ⟨X.out,(X.out).length⟩) none (some ⟨X.pk 0,(X.pk 0).length⟩) none)(U:u+(bH (iJ 51 0 X.out))≤65536):∃Z,eF X d ⟨nG X,[aX.zero,⟨true,1,6,X.out⟩],[0],false⟩ 1=(Z,⟨nG X,[aX.zero,⟨true,1,7,X.out⟩],[0],false⟩,0)∧gy X Z (u+(bH (iJ 51 0 X.out))) (some ⟨X.out,(X.out).length⟩) none (some ⟨X.pk 0,(X.pk 0).length⟩) none:=by
 have _:=V.good Y;have _:=W;obtain⟨T,S⟩:=h.jot (gq.fin Y) U;refine⟨_,?_,S⟩;have R:X.xR ⟨true,1,6,X.out⟩=iJ 51 0 X.out:=by unfold bI.xR;rw[W];rfl
 refine(lg (w:=1) (by show 1<2;omega) rfl rfl (t:=⟨true,1,6,X.out⟩) rfl (d':=(d.append 0 (bH (iJ 51 0 X.out))).1) (j:=nG X) (m:=[0]) (b:=X.out) ?_).trans rfl;show vO.mk (d.append 0 (bH (X.xR _))).1 _ _ _ (d.append 0 (bH (X.xR _))).2=_;rw[R];exact bf (vO.mk _ _ _ _) T
theorem akK(W:X.ok)(V:X.bad=0)(Y:X.chunks=1)(h:gy X d u (some ⟨X.out,(X.out).length⟩) none (some ⟨X.pk 0,(X.pk 0).length⟩) none):∃Z,eF X d ⟨nG X,[aX.zero,⟨true,1,7,X.out⟩],[0],false⟩ 1=(Z,⟨{nG X with state:=3},[aX.zero,aX.zero],[0],false⟩,0)∧gy X Z u (some ⟨X.out,(X.out).length⟩) none (some ⟨X.pk 0,(X.pk 0).length⟩) none:=by
 have _:=W.good V;have _:=Y;obtain⟨Z,U,T⟩:=N9 h (adI W V Y);refine⟨Z,?_,T⟩;have S:X.xR ⟨true,1,7,X.out⟩=iJ 51 0 X.out:=by unfold bI.xR;rw[Y];rfl
 refine(lg (w:=1) (by show 1<2;omega) rfl rfl (t:=⟨true,1,7,X.out⟩) rfl (d':=Z) (j:={nG X with state:=3}) (m:=[0]) (b:=X.out) ?_).trans rfl;show vO.mk (lZ d (nG X) (X.xR ⟨true,1,7,X.out⟩)).1 (lZ d (nG X) (X.xR ⟨true,1,7,X.out⟩)).2.1 _ _ (lZ d (nG X) (X.xR ⟨true,1,7,X.out⟩)).2.2=_;rw[S,U]
theorem JY(X:bI):(bH ⟨48,X.key,X.chunks,0,0⟩).length=13:=by rw[kN];rfl
theorem UD(Z:X.ok):bT.new.apply ⟨48,X.key,X.chunks,0,0⟩=(lH X,0):=by
 have Y:=(gq.start).may Z;unfold bT.apply;rw[au (by rw[Y];simp),aF ⟨rfl,rfl⟩];rfl
theorem WO(L:X.ok)(P:X.bad=0)(O:X.chunks=1):∃d,dR X (aI.new 65536) []=(d,lH X,7,0)∧gy X d 13 none none none none:=by
 have K:yX X (aI.new 65536) (fun _=>none) 0:=yX.new;obtain⟨J,I⟩:=K.create rfl aj (.inr rfl);obtain⟨H,N⟩:=I.ji;have G:gy X ((aI.new 65536).create 0).1.ji.1 0 none none none none:=⟨_,⟨[],0⟩,N,rfl,⟨[],bK,rfl⟩,rfl,rfl,rfl,rfl⟩;have Z:lu (aI.new 65536) []=(aI.new 65536,0):=rfl
 have W:pY (aI.new 65536)=(((aI.new 65536).create 0).1.ji.1,0):=by
  unfold pY;rw[au bn];rw[au (by rw[J];simp),←H]
 have V:(((aI.new 65536).create 0).1.ji.1.file 0).data=[]:=by
  have:((aI.new 65536).create 0).1.ji.1.see 0=some ⟨[],0⟩:=by rw[N.see];rfl
  rw[Aw this]
 generalize((aI.new 65536).create 0).1.ji.1=D at*
 have T:lF D=(D,bT.new,0):=by
  unfold lF;rw[V];rfl
 obtain⟨F,E⟩:=G.jot (gq.start) (by rw[JY];omega);obtain⟨Y,C,M⟩:=N9 E (UD L)
 have S:oJ X D bT.new=(Y,lH X,0):=by
  unfold oJ;rw[aF (show bT.new.state=0 from rfl)];unfold pX;rw[au (by rw[F];simp),C]
 have U:vX X Y (lH X)=(Y,lH X,0):=by
  unfold vX;rw[aF P,au (by show¬(1:Nat)=2;decide)]
 have R:nN X Y (lH X)=lH X:=by
  unfold nN;rw[aF (show(lH X).state=1 from rfl),O];rfl
 have Q:mV X Y (lH X)=(Y,lH X,0):=by
  unfold mV;rw[aF ⟨by show(1:Nat)≠3;decide,.inr (.inl (by rw[Jp O];simp))⟩]
 refine⟨Y,?_,by rw[JY]at M;exact M⟩;unfold dR;rw[Z];rw[au bK,W];rw[au bK,T];rw[au bK,S];rw[au bK,U];rw[au bK,au (by rw[P];simp),R,Q]
theorem Pg{f:bZ}(Z:f.tasks.length=2)(hd:f.down=false)(Y:f.job.state=3):∀l:aO,(∀w∈l,w=0∨w=1)→iV X d f l=(d,f,0)
 | [],_=>rfl
 |w::l,h=>by
  have W:w=((w.toNat:Nat):Int)∧w.toNat<2:=by
   rcases h w bK with rfl|rfl<;>decide
  rw[W.1,fK (aal (by rw[Z];exact W.2) hd Y)];exact Pg Z hd Y l (fun x V=>h x (by simp[V]))
def iT(n:Nat):aO:=(List.replicate n [(0:Int),1]).flatten
theorem kQ(n:Nat):iT (n+1)=0::1::iT n:=by unfold iT;rw[List.replicate_succ];rfl
theorem XZ(n:Nat):∀w∈iT n,w=0∨w=1:=by
 intro w Z;obtain⟨l,Y,W⟩:=List.mem_flatten.1 Z;obtain rfl:=(List.mem_replicate.1 Y).2;simpa using W
theorem SI(Y:X.ok)(W:X.bad=0)(Z:X.chunks=1)(hl:(X.pk 0).length+X.out≤60000){d:aI}(h:gy X d 13 none none none none):
  ∃V,iV X d ⟨lH X,[aX.zero,aX.zero],[],false⟩ (iT 99)=(V,⟨{nG X with state:=3},[aX.zero,aX.zero],[0],false⟩,0)∧V.see 2=some ⟨X.out,X.out.length⟩:=by
 have l1:(bH (iJ 49 0 (X.pk 0))).length=17:=by rw[kN];rfl
 have l2:(bH (iJ 51 0 X.out)).length=16:=by rw[kN];rfl
 obtain⟨U,T,S⟩:=akv Y W Z h;obtain⟨R,Q,P⟩:=akw Y W Z S;obtain⟨O,N,M⟩:=akx Y W Z P aj;obtain⟨L,K,J⟩:=aky Y W Z M;obtain⟨I,H,G⟩:=akz Y W Z J;obtain⟨F,E,D⟩:=akA Y W Z G;obtain⟨C,B,A⟩:=akB Y W Z D aj;obtain⟨d7,z,y⟩:=akC Y W Z A;obtain⟨x,t,r⟩:=akD Y W Z y;obtain⟨q,p,o⟩:=akE Y W Z r;obtain⟨n,m,l⟩:=akF Y W Z o aj;obtain⟨k,j,i⟩:=akG Y W Z l;obtain⟨g,f,e⟩:=akH Y W Z i;obtain⟨c,b,a⟩:=akI Y W Z e;obtain⟨e6,q6,r6⟩:=akJ Y W Z a aj;obtain⟨e7,q7,r7⟩:=akK Y W Z r6;rw[show iT 99=_ from kQ 98,fK T,show iV X U _ (1::iT 98)=_ from fK (w:=((1:Nat):Int)) (mQ (by show 1<2;omega) rfl (Cm Z _ rfl rfl _))];rw[show iT 98=_ from kQ 97,fK Q,show iV X R _ (1::iT 97)=_ from fK (w:=((1:Nat):Int)) (mQ (by show 1<2;omega) rfl (Cm Z _ rfl rfl _))];rw[show iT 97=_ from kQ 96,fK N,show iV X O _ (1::iT 96)=_ from fK (w:=((1:Nat):Int)) (mQ (by show 1<2;omega) rfl (Cm Z _ rfl rfl _))];rw[show iT 96=_ from kQ 95,fK K,show iV X L _ (1::iT 95)=_ from fK (w:=((1:Nat):Int)) (mQ (by show 1<2;omega) rfl (Cm Z _ rfl rfl _))];rw[show iT 95=_ from kQ 94,fK H,show iV X I _ (1::iT 94)=_ from fK (w:=((1:Nat):Int)) (mQ (by show 1<2;omega) rfl (Cm Z _ rfl rfl _))];rw[show iT 94=_ from kQ 93,fK E,show iV X F _ (1::iT 93)=_ from fK (w:=((1:Nat):Int)) (mQ (by show 1<2;omega) rfl (Cm Z _ rfl rfl _))];rw[show iT 93=_ from kQ 92,fK B,show iV X C _ (1::iT 92)=_ from fK (w:=((1:Nat):Int)) (mQ (by show 1<2;omega) rfl (Cm Z _ rfl rfl _))];rw[show iT 92=_ from kQ 91,fK z,fK t];rw[show iT 91=_ from kQ 90,show iV X x _ (0::1::iT 90)=_ from fK (w:=((0:Nat):Int)) (mQ (by show 0<2;omega) rfl (CB Z _ rfl rfl _)),fK p];rw[show iT 90=_ from kQ 89,show iV X q _ (0::1::iT 89)=_ from fK (w:=((0:Nat):Int)) (mQ (by show 0<2;omega) rfl (CB Z _ rfl rfl _)),fK m];rw[show iT 89=_ from kQ 88,show iV X n _ (0::1::iT 88)=_ from fK (w:=((0:Nat):Int)) (mQ (by show 0<2;omega) rfl (CB Z _ rfl rfl _)),fK j];rw[show iT 88=_ from kQ 87,show iV X k _ (0::1::iT 87)=_ from fK (w:=((0:Nat):Int)) (mQ (by show 0<2;omega) rfl (CB Z _ rfl rfl _)),fK f];rw[show iT 87=_ from kQ 86,show iV X g _ (0::1::iT 86)=_ from fK (w:=((0:Nat):Int)) (mQ (by show 0<2;omega) rfl (CB Z _ rfl rfl _)),fK b];rw[show iT 86=_ from kQ 85,show iV X c _ (0::1::iT 85)=_ from fK (w:=((0:Nat):Int)) (mQ (by show 0<2;omega) rfl (CB Z _ rfl rfl _)),fK q6];rw[show iT 85=_ from kQ 84,show iV X e6 _ (0::1::iT 84)=_ from fK (w:=((0:Nat):Int)) (mQ (by show 0<2;omega) rfl (CB Z _ rfl rfl _)),fK q7];rw[Pg rfl rfl rfl _ (XZ 84)];refine⟨e7,rfl,?_⟩;obtain⟨s,v,hs,-,-,h2,-⟩:=r7.is;rw[hs.see,h2]
theorem WQ(X:bI):(dR X (aI.new 0) []).2.2=(4,9)∧((dR X (aI.new 0) []).1.names 2)=none:=by
 have Z:lu (aI.new 0) []=(aI.new 0,0):=rfl;have Y:pY (aI.new 0)=(⟨0,[⟨[],0⟩],lD.put (fun _=>none) 0 0,lD.put (fun _=>none) 0 0,[],0,false⟩,0):=rfl;have W:lF ⟨0,[⟨[],0⟩],lD.put (fun _=>none) 0 0,lD.put (fun _=>none) 0 0,[],0,false⟩=(⟨0,[⟨[],0⟩],lD.put (fun _=>none) 0 0,lD.put (fun _=>none) 0 0,[],0,false⟩,bT.new,0):=rfl
 have V:oJ X ⟨0,[⟨[],0⟩],lD.put (fun _=>none) 0 0,lD.put (fun _=>none) 0 0,[],0,false⟩ bT.new=(⟨0,[⟨[],0⟩],lD.put (fun _=>none) 0 0,lD.put (fun _=>none) 0 0,[],0,false⟩,bT.new,9):=by
  have U:=JY X;unfold oJ;rw[aF (show bT.new.state=0 from rfl)];unfold pX aI.append;generalize bH ⟨48,X.key,X.chunks,0,0⟩=b at*;have T:aI.used ⟨0,[⟨[],0⟩],lD.put (fun _=>none) 0 0,lD.put (fun _=>none) 0 0,[],0,false⟩=0:=rfl;rw[au (show¬(false=true) by simp),au (show¬(aI.there ⟨0,[⟨[],0⟩],lD.put (fun _=>none) 0 0,lD.put (fun _=>none) 0 0,[],0,false⟩ 0≠0) by decide),aF (show 0<b.length∧(0:Int)-(aI.used ⟨0,[⟨[],0⟩],lD.put (fun _=>none) 0 0,lD.put (fun _=>none) 0 0,[],0,false⟩:Nat)<b by rw[T,U];decide)];rfl
 unfold dR;rw[Z];rw[au bK,Y];rw[au bK,W];rw[au bK,V];exact sD
end
section
variable{X:bI}{ρ:Nat→Nat}{d:aI}
theorem aam(hd:bY X ρ d)(Y:d.down=false)(h:(d.see (iR k)).isSome=true):d.CX (iR k)=0∧(d.file (iR k)).data=X.pk k:=by
 rw[Gf]at h;obtain⟨n,Z⟩:=Hu.1 h;refine⟨?_,?_⟩
 ·unfold aI.CX
  rw[Y,au bK,Dj Z]
 ·unfold aI.file
  rw[F9 Z];have:=(hd.cur.shut (iR k) n Z (by unfold iR;omega) (by unfold iR;omega)).2.1;show(dh d.all n).data=_;rw[this];unfold bI.cont iR;rw[au aj]
  congr 1
  omega
theorem abX(Z:X.ok)(h:n≤X.chunks):(X.file n).length≤16777216:=by
 unfold bI.file;split
 ·exact Z.out
 ·exact Z.pk n aj
structure Eo(X:bI)(d:aI)(f:bZ)(t:aX):Prop where
 bad:X.bad=0
 ch:f.job.chunks=X.chunks
 has:t.has=true
 n:t.n≤X.chunks
 step:t.step≤7
 Zv:dV t.data
 le:t.data.length≤16777216
 lt:fZ d
 xR:6≤t.step→gq X (X.xR t)
 rd:t.step=0→t.n=X.chunks→∀k,k<X.chunks→d.CX (iR k)=0∧(d.file (iR k)).data=X.pk k
theorem adJ(hX:X.ok)(hb:X.Si)(hd:bY X ρ d){f:bZ}(hf:yS X d f)(hdn:f.down=false)(hst:f.job.state=1){w:Nat}{t:aX}(ht:f.has w=some t):Eo X d f t:=by
 have hk:=hf.ZA hdn hst ht;have hr:=hf.run hdn hst;have h0:=LG ht (hf.begun _);refine⟨hr.bad,(hf.job.of aj).2,hk.ok.has,hk.ok.n,hk.ok.step,hk.ok.small hb h0,?_,hd.lt hX,fun h=>Fz hr.bad hk.ok.n (hk.ok.data aj),fun h1 h2 k hk2=>?_⟩
 ·by_cases e:1≤t.step
  ·rw[hk.ok.data e];exact abX hX hk.ok.n
  ·grind
 ·obtain⟨r,hr2⟩:=hk.all h1 h2 k hk2
  exact aam hd hr.up (hr.done k r hr2)
theorem WR(X:bI)(d:aI)(f:bZ)(t:aX):(eG X d f t).made.length≤f.made+1:=by
 unfold eG;split<;>dsimp only
 ·grind
 all_goals omega
theorem aan(X:bI)(d:aI)(f:bZ)(w:Int):(eF X d f w).2.1.tasks.length=f.tasks∧(eF X d f w).2.1.made.length≤f.made+1:=by
 unfold eF;split
 ·grind
 split
 ·grind
 split
 ·grind
 split
 ·grind
 rename_i t ht;have:=WR X d f t;split
 ·grind
 ·grind
structure kH(X:bI)(d:aI)(f:bZ)(W N:Nat):Prop where
 ok:oV X ⟨d,some f⟩
 fit:aZ d N
 made:f.made.length≤N
 tasks:f.tasks.length=W
theorem kH.mono{f:bZ}{W N M:Nat}(h:kH X d f W N)(Z:N≤M):kH X d f W M:=⟨h.ok,h.fit.mono Z,dD h.made Z,h.tasks⟩
theorem kH.pick(Z:X.ok)(Y:X.Si){f:bZ}{W N:Nat}(h:kH X d f W N)(w:Int):kH X (eF X d f w).1 (eF X d f w).2.1 W (N+2):=by
 have V:=aan X d f w;refine⟨h.ok.pick Z w,h.fit.pick Z Y (h.ok.f f rfl) w,by have:=h.made;omega,by rw[V.1];exact h.tasks⟩
theorem kH.picks(Z:X.ok)(Y:X.Si):∀(l:aO) {d:aI} {f:bZ} {W N:Nat},kH X d f W N→kH X (iV X d f l).1 (iV X d f l).2.1 W (N+2*l.length)
 | [],_,_,_,_,h=>h
 |w::l,d,f,W,N,h=>by
  have V:=h.pick Z Y w;unfold iV;dsimp only;split
  ·exact V.mono jy
  ·exact(kH.picks Z Y l V).mono jy
end
section
variable{X:bI}{ρ:Nat→Nat}{d:aI}{f:bZ}{t:aX}
theorem WT(j:bT)(r:bV)(h:(j.apply r).2≠0):(j.apply r).1=j:=(OW j r).2 h
theorem aap(d:aI)(j:bT)(r:bV)(h:(lZ d j r).2.2≠0):(lZ d j r).2.1=j:=by
 unfold lZ at*;dsimp only at*;split
 ·rfl
 ·rename_i k
  rw[au k]at h;exact WT j r h
theorem aaq(h:(eG X d f t).err≠0):(eG X d f t).job=f.job∧(eG X d f t).data=t.data:=by
 unfold eG at*;split at h<;>dsimp only at*
 ·omega
 all_goals first|exact sD|exact⟨aap _ _ _ h,rfl⟩
theorem abY{e:Int}(h:e≠0):(nZ X d t e).2.2≠0:=by
 unfold nZ;split
 ·grind
 ·exact h
theorem Eo.tasks(h:Eo X d f t)(l:List aX):Eo X d {f with tasks:=l} t:=⟨h.bad,h.ch,h.has,h.n,h.step,h.Zv,h.le,h.lt,h.xR,h.rd⟩
theorem abZ(V:X.ok)(Q:X.Si)(hd:bY X ρ d)(S:aZ d N)(U:yS X d f)(W:f.down=false)(Z:f.job.state=1){w:Nat}(ht:f.has w=some t):fZ (eG X d f t).d∧aZ (eG X d f t).d (N+1):=by
 have Y:=U.ZA W Z ht;have T:=U.run W Z;have R:=Y.ok.small Q (LG ht (U.begun _));have P:=Uc V hd T.up T.bad U.job Z T.jw Y.ok;obtain⟨M,O⟩:=P.inv;exact⟨O.lt V,S.alh V Y.ok.n R (fun e=>(Fz T.bad Y.ok.n (Y.ok.data aj)).may V)⟩
end
def pF:aO:=[75,83,1,1,1,0,0,0,0,0,0,0,0,0]
def vW:Ei:=⟨0,3,0,0,4,8,64,8⟩
theorem ai8:(match Dh pF with| .ok Z=>Z.length| .error _=>0)=1:=aW
theorem ab9:∃P,kY vW pF= .ok P∧(gu vW pF).bad=0∧(gu vW pF).chunks=1∧((gu vW pF).pk 0).length+(gu vW pF).out≤60000:=by
 have Q:=ai8;cases Z:Dh pF with
 |error e=>rw[Z]at Q;cases Q
 |ok I=>
  rw[Z]at Q;have D:I.length=1:=Q;obtain⟨P,G⟩:∃P,P=EH vW (RV pF) (TP pF) I:=⟨_,rfl⟩
  have V:kY vW pF= .ok P:=by
   unfold kY;rw[aF bn,Z,G]
  have U:P.fs.length=1:=by rw[G];exact D
  obtain⟨F,X,O⟩:=Gx V
  have Y:P.gs.length=1:=by
   have a:=X.Ws;have b:=(EK X.row).2;rw[U]at b
   by_cases e:P.gs.length=1
   ·exact e
   ·have y:=X.at_ (n:=0) aj
    have x:=X.at_ (n:=1) aj;have m:=XO P.gs (aj:2≤P.gs.length);have w:uU P.gs 2=0+(P.g 0).2+(P.g 1).2:=rfl;omega
  have T:=Ce F X 1 aj
  have L:uU P.gs 1=1:=by
   have b:=(EK X.row).2;rw[U,Y]at b;omega
  rw[Y]at T O;refine⟨P,V,by unfold gu;rw[V];rfl,by unfold gu;rw[V];exact Y,?_⟩;have M:(gu vW pF).pk 0=vF (kK vW P 0):=by unfold gu;rw[V];exact aF aj
  have B:(gu vW pF).out=rX vW P:=by unfold gu;rw[V];rfl
  rw[M,B];have R:kK vW P 0∈fF vW P 1:=by simp[fF]
  have S:=(tK F X (n:=0) aj).len;have K:(P.g 0).2=1:=by have:uU P.gs 1=0+(P.g 0).2:=rfl;omega
  rw[K]at S
  have z:(vF (kK vW P 0)).length≤16403:=by
   obtain⟨c,N⟩:=List.length_eq_one_iff.1 S;have J:=O.cost _ R c (by rw[N];simp);unfold jL.cost at J;unfold vF;rw[N,mG,iG];unfold dL;rw[List.flatMap_cons,List.flatMap_nil,gI,iG];simp;omega
  obtain⟨E,A,v⟩:=TU (C:=vW) (W:=P.W) (H:=P.H) (ks:=fF vW P 1) (fills:=uF vW P) (m:=16384) (fun k M c N=>by have:=O.cost k M c N;unfold jL.cost at this;omega) O.fill;rw[Bo]at E A;rw[T,L]at E;unfold rX;rw[Y];omega
end Go.Proofs.YtiaeohgghaaciaaGreatDoor
