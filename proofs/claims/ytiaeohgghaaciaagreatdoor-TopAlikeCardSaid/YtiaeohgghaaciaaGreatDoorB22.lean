import Derived.Shelf.Slices.Turned
import Derived.Shelf.Strings.Prefix
import Derived.Test.YtiaeohgghaaciaaGreatDoorB19
import Derived.Test.YtiaeohgghaaciaaGreatDoorB21
namespace Go.Proofs.YtiaeohgghaaciaaGreatDoor
open Go Go.Maps Go.RowKit Go.Extern.Stop Go.Stop Go.Extern Go.Proofs.Tryz
set_option linter.all false
set_option maxRecDepth 100000
set_option maxHeartbeats 4000000
variable{cs:Array Value}{b l:List Int}{N base c ch g i j k m mb n x:Nat}{S:Nat→Prop}{A B:Option Addr}{t:TypeId}{v:Value}{u w:World}
structure Ap where
 h:Bool
 n:Nat
 s:Nat
 A:dK
 l:Nat
 c:Nat
abbrev yT:Ap:=⟨false,0,0,none,0,0⟩
def XW:tJ Ap where
 S:=95
 T:=100
 k:=4
 bytes:=48
 z:=.agg #[.bool false,aB 0,aB 0,bU]
 enc:=fun m=>[.bool m.h,aB m.n,aB m.s,aG m.A m.l m.c]
 und:=underlying95
 info:=aW
 zs:=rfl
 pos:=bn
 hk:=fun _=>rfl
 one:=fun a u Z=>by simp at Z;rcases Z with rfl|rfl|rfl|rfl<;>rfl
structure Cn where
 qn:Nat
 qx:Nat
 re:Nat
 cu:Int
 go:Int
 ra:Int
 ro:Int
 fi:Int
def Cn.C(K:Cn):Ei:=⟨K.qn,K.qx,K.re,K.cu,K.go,K.ra,K.ro,K.fi⟩
structure xW where
 dg:Nat
 fg:Nat
 jv:cO
 p0:cO
 p1:cO
 p2:cO
 p3:cO
 p4:cO
 A:dK
 c:Nat
 ms:List Ap
 B:dK
 b:Nat
 lo:Nat
 hi:Nat
abbrev fmA(K:Cn)(M:xW)(Y X:Nat)(Z:Bool):Array cO:=#[BG M.dg,aB K.qn,aB K.qx,aB K.re,aB K.cu,aB K.go,aB K.ra,aB K.ro,aB K.fi,M.p0,M.p1,M.p2,M.p3,M.p4,M.jv,aG M.A Y M.c,aG M.B X M.b,.bool Z]
structure agp(w:World)(m:Ap)(t:aX):Prop where
 h:m.h=t.has
 n:m.n=t.n
 s:m.s=t.step
 d:OwnB w 0 m.A m.l m.c t.data
structure MN(w:World)(K:Cn)(M:xW)(SD:Nat→Prop)(d:aI)(ts:List aX)(made:List Int)(down:Bool)(oP:Option fG):Prop where
 box:bF w M.fg 97 (fmA K M ts.length made.length down)
 disk:Dw w M.dg SD d
 tasks:dX XW w 0 M.A ts.length M.c M.ms
 tk:∀i,i<ts.length→agp w (M.ms.getD i yT) (ts.getD i aX.zero)
 made:dX Ib w 0 M.B made.length M.b made
 plan:∀P,oP=some P→Bv w M.lo M.hi (.agg #[M.p0,M.p1,M.p2,M.p3,M.p4]) P
 sf:¬SD M.fg
 sA:∀i,In M.A i→¬SD i
 sB:∀i,In M.B i→¬SD i
 sT:∀i,i<ts.length→∀k,In (M.ms.getD i yT).A k→¬SD k
 sP:∀i,M.lo≤i→i<M.hi→¬SD i∧i≠M.fg∧¬In M.A i∧¬In M.B i
 hiw:M.hi≤w.heap.size
section
variable{w w':aK}{K:Cn}{M:xW}{SD T:Nat→Prop}{d d':aI}{ts:List aX}{made:aO}{down:Bool}{oP:Option fG}
theorem agp.dH{m:Ap}{t:aX}(h:agp w m t)(Z:bQ T w w')(Y:∀k,In m.A k→¬T k):agp w' m t:=⟨h.h,h.n,h.s,h.d.dH Z Y⟩
theorem MN.abS(h:MN w K M SD d ts made down oP)(hd:Dw w' M.dg S d')(X:bQ SD w w')(R:∀i,S i→SD i∨w≤i):MN w' K M S d' ts made down oP:=by
 have Q:=fun i Z=>(h.tasks.dN (i:=i) Z).2
 have O:=fun i Z=>(h.made.dN (i:=i) Z).2
 have N:=h.box.lt;have Y:∀i,i<w.heap.size→¬SD i→¬S i:=fun i V W e=>(R i e).elim W (fun k=>aj)
 refine⟨h.box.dH X h.sf,hd,h.tasks.dH X h.sA,fun i Z=>(h.tk i Z).dH X (h.sT i Z),h.made.dH X h.sB,fun P L=>?_,Y _ N h.sf,fun i Z=>Y i (Q i Z) (h.sA i Z),fun i Z=>Y i (O i Z) (h.sB i Z),fun i Z k U=>Y k ((h.tk i Z).d.e.dN U).2 (h.sT i Z k U),fun i V W=>?_,dD h.hiw X.size⟩
 ·refine(h.plan P L).dH X fun i Z=>?_
  by_cases V:M.lo≤i
  ·by_cases W:i<M.hi
   ·exact absurd Z (h.sP i V W).1
   ·exact .inr aj
  ·exact .inl aj
 ·obtain⟨J,I,H,G⟩:=h.sP i V W
  exact⟨Y i (by have:=h.hiw;omega) J,I,H,G⟩
theorem MN.dH(h:MN w K M SD d ts made down oP)(Z:bQ T w w')(h1:∀i,SD i→¬T i)(h2:¬T M.fg)(X:∀i,In M.A i→¬T i)(W:∀i,In M.B i→¬T i)(V:∀i,i<ts.length→∀k,In (M.ms.getD i yT).A k→¬T k)(U:∀i,M.lo≤i→i<M.hi→¬T i):MN w' K M SD d ts made down oP:=by
 refine⟨h.box.dH Z h2,h.disk.keep Z h1,h.tasks.dH Z X,fun i Y=>(h.tk i Y).dH Z (V i Y),h.made.dH Z W,fun P S=>?_,h.sf,h.sA,h.sB,h.sT,h.sP,dD h.hiw Z.size⟩;refine(h.plan P S).dH Z fun i Y=>?_
 by_cases R:M.lo≤i
 ·by_cases Q:i<M.hi
  ·exact absurd Y (U i R Q)
  ·exact .inr aj
 ·exact .inl aj
theorem MN.keep(h:MN w K M SD d ts made down oP)(Z:aP w w'):MN w' K M SD d ts made down oP:=h.dH (bQ.of_below (S:=fun _=>False) Z) (fun _ _ h=>h) (fun h=>h) (fun _ _ h=>h) (fun _ _ h=>h) (fun _ _ _ _ h=>h) (fun _ _ _ h=>h)
end
structure uw(w:World)(K:Cn)(M:xW)(jg mb:Nat)(SD:Nat→Prop)(d:aI)(f:bZ)(oP:Option fG):Prop where
 base:MN w K M SD d f.tasks f.made f.down oP
 jv:M.jv= BG jg
 job:Q9 w jg mb f.job
 sj:¬SD jg∧¬SD mb
 rj:∀i,M.lo≤i→i<M.hi→i≠jg∧i≠mb
section
variable{w w':aK}{K:Cn}{M:xW}{SD T:Nat→Prop}{d d':aI}{f:bZ}{oP:Option fG}{jg mb:Nat}
theorem uw.keep(h:uw w K M jg mb SD d f oP)(Z:aP w w'):uw w' K M jg mb SD d f oP:=⟨h.base.keep Z,h.jv,h.job.keep Z,h.sj,h.rj⟩
theorem uw.abS{S:Nat→Prop}(h:uw w K M jg mb SD d f oP)(hd:Dw w' M.dg S d')(Y:bQ SD w w')(Z:∀i,S i→SD i∨w≤i):uw w' K M jg mb S d' f oP:=
 ⟨h.base.abS hd Y Z,h.jv,h.job.dH Y h.sj.1 h.sj.2,⟨fun e=>(Z _ e).elim h.sj.1 (fun k=>by have:=h.job.lt.1;omega),fun e=>(Z _ e).elim h.sj.2 (fun k=>by have:=h.job.lt.2;omega)⟩,h.rj⟩
theorem uw.am4{j:bT}(h:uw w K M jg mb SD d f oP)(U:Q9 w' jg mb j)(S:bQ (fun i=>i=jg∨i=mb) w w'):uw w' K M jg mb SD d {f with job:=j} oP:=by
 obtain⟨N,W⟩:=h.job
 have Z:∀{α:Type} {R:tJ α} {X n c:Nat} {A:dK} {l:List α},dX R w X A n c l→R.T≠151→∀i,In A i→¬(i=jg∨i=mb):=fun o Q i Y e=>by
  rcases e with rfl|rfl
  ·exact uq o W.box Q Y
  ·exact LJ W.done o Y
 refine⟨h.base.dH S (fun i Y e=>?_) (fun e=>?_) (Z h.base.tasks bn) (Z h.base.made bn) (fun i Y k P=>Z (h.base.tk i Y).d.e bn k P) (fun i V O e=>?_),h.jv,U,h.sj,h.rj⟩
 ·rcases e with rfl|rfl
  ·exact h.sj.1 Y
  ·exact h.sj.2 Y
 ·rcases e with e|e
  ·have V:=h.base.box
   rw[e]at V;have:=(V.ty).one W.box.ty;exact absurd this bn
  ·exact IB W.done h.base.box e.symm
 ·have:=h.rj i V O
  omega
theorem uw.Dk{e:aI}(h:uw w K M jg mb SD d f oP)(X:jh w M.dg SD e w'):∃Z,uw w' K M jg mb Z e f oP∧∀i,Z i→SD i∨w≤i:=by
 obtain⟨W,V,U,Y⟩:=X;exact⟨V,h.abS U W Y,Y⟩
end
theorem nm0:bP 0=⟨#[106,111,98]⟩:=rfl
theorem Dw.lt{w:World}{g i:Nat}{S:Nat→Prop}{d:aI}(h:Dw w g S d)(hi:S i):i<w:=by obtain⟨M,h⟩:=h;exact h.lt i hi
def xK(w:World)(K:Cn)(M:xW)(Y mb:Nat)(X:Nat→Prop)(f:bZ)(oP:Option fG)(r:aI × bT × Int)(e:Ending)(w':World):Prop:=
 e= .returned (eV r.2.2)∧(∃Z,uw w' K M Y mb Z r.1 {f with job:=r.2.1} oP∧∀i,Z i→X i∨w.heap.size≤i)∧bQ (fun i=>X i∨i=Y∨i=mb) w w'
section
variable{w:World}{K:Cn}{M:xW}{SD:Nat→Prop}{d:aI}{f:bZ}{oP:Option fG}{jg mb:Nat}
theorem uw.xM(h:uw w K M jg mb SD d f oP):w.cell? ⟨M.fg,14,none⟩=some (.pointer jg):=(h.base.box.cell 14).trans (bf some h.jv)
theorem MN.yG{Y:List aX}{Z:Bool}(h:MN w K M SD d Y l Z oP):w.cell? ⟨M.fg,0,none⟩=some (.pointer M.dg):=h.box.at rfl
theorem uw.fgj(h:uw w K M jg mb SD d f oP):M.fg≠jg∧M.fg≠mb:=by
 obtain⟨X,Z⟩:=h.job;refine⟨fun e=>?_,fun e=>IB Z.done h.base.box e.symm⟩;have Y:=h.base.box;rw[e]at Y;exact absurd ((Y.ty).one Z.box.ty) bn
end
theorem aeA{K:Cn}{M:xW}{R:Nat→Prop}{d:aI}{f:bZ}{oP:Option fG}{r:bV}(C:wR r)(B:jQ r=true)(hF:fZ d)(w:World)(h:uw w K M j mb R d f oP):
  Calls prog 83 #[.pointer M.fg,F7 r] w (xK w K M j mb R f oP (lZ d f.job r)):=by
 obtain⟨W1,U,A,G⟩:=ES w 68 (Ej r);have L:=ay U;have P:=h.keep G;have y:¬R w:=fun e=>by have:=h.base.disk.lt e;omega
 have qa:=h.job.lt;have O:=ay (WI (x:=0) aj hF W1 P.base.disk);rw[nm0]at O;have a0:=P.base.yG;obtain⟨m,v,F⟩:=dB P A G;unfold lZ;dsimp only;have u:=ay (fun l (hj:Q9 l j mb f.job)=>abC C B l hj)
 by_cases V:(d.sync 0).2=0
 ·rw[au (by rw[V];simp)]
  rw[V,show eV 0= .nilIface from rfl]at O;obtain⟨rk,rs,rn,rl,rc⟩:=r
  try dsimp only at*
  clear C B U G A h P V;go_enter func83,ntmps83;go_upto_region 1 with(fail)
  change Code.wp _ _ _ _ (w.alloc _);rw[←L];go_upto_region 4 with(go_at_call 78;refine O.aQ ?_;rintro w2 N)
  have X:=N.1;obtain⟨T,E,Q⟩:=m.Dk N;have g:=v.dH X y;obtain⟨c0,c1,c2,c3,c4⟩:=gV g;have t:=E.xM;have D:=E.keep (aU _ _).drew;have X3:=g.keep (aU _ _).drew;obtain⟨c,b,a,d3,d4⟩:=gV X3;have J:=D.xM;obtain⟨s,q⟩:=D.fgj;obtain⟨p,H3⟩:=aV D.job D;have Y:¬(w.heap.size=j∨w=mb):=aj
  have o:¬(M.fg=j∨M.fg=mb):=fun e=>e.elim s q
  go_region_held3(fun W=>W.cell? ⟨M.fg,14,none⟩=some (.pointer j)∧W.cell? ⟨w,0,none⟩=some (.int .i64 rk)∧W.cell? ⟨w,1,none⟩=some (.int .i64 rs)∧W.cell? ⟨w,2,none⟩=some (.int .i64 rn)∧W.cell? ⟨w,3,none⟩=some (.int .i64 rl)∧W.cell? ⟨w,4,none⟩=some (.int .i64 rc))
   (first|with_reducible exact⟨t,c0,c1,c2,c3,c4⟩|with_reducible exact⟨J,c,b,a,d3,d4⟩|with_reducible exact⟨I,v0,v1,v2,v3,v4⟩|fail)
   (first
     |(go_at_call 128;refine(u _ p).aQ ?_;rintro w3 ⟨H,Z⟩;have I:=bG J Z o;have v0:=bG c Z Y;have v1:=bG b Z Y;have v2:=bG a Z Y;have v3:=bG d3 Z Y;have v4:=bG d4 Z Y)
     |fail)
  obtain⟨HO,HC⟩:=aV (H3.am4 H Z) (((bQ.of_below (S:=fun i=>R i∨i=j∨i=mb) F).trans (X.mono (fun i _ e=>.inl e)).drew).trans (Z.mono (fun i _ e=>.inr e)));clear H Z I v0 v1 v2 v3 v4;go_wp2;go_ret;exact⟨rfl,⟨T,HO,fun i z=>(Q i z).imp id (fun k=>dD F.size k)⟩,HC⟩
 ·rw[aF V]
  rw[pz V]at O;have n:=ay (pz V);clear C B U G A h P V;go_enter func83,ntmps83;go_upto_region 1 with(fail)
  change Code.wp _ _ _ _ (w.alloc _);rw[←L];go_wp2_with(go_at_call 78;refine O.aQ ?_;rintro w2 N);go_ret;have X:=N.1;obtain⟨T,E,Q⟩:=m.Dk N;exact⟨by rw[n];rfl,⟨T,E,fun i z=>(Q i z).imp id (fun k=>dD F.size k)⟩,(bQ.of_below (S:=fun i=>R i∨i=j∨i=mb) F).trans (X.mono (fun i _ e=>.inl e))⟩
theorem akl{K:Cn}{M:xW}{R:Nat→Prop}{d:aI}{f:bZ}{oP:Option fG}{r:bV}(v:wR r)(c:jQ r=true)(a:fZ d)(P:fZ (d.append 0 (bH r)).1)(O:aZ d N)(w:aK)(h:uw w K M j mb R d f oP):
  Calls prog 189 #[aY M.fg,F7 r] w (xK w K M j mb R f oP (pX d f.job r)):=by
 obtain⟨W1,J,u,t⟩:=ES w 68 (Ej r);have C:=ay J;have qa:¬R w:=fun e=>by have:=h.base.disk.lt e;omega
 obtain⟨qe,s,HH,A⟩:=jH u t (fun U (hw:aP w U)=>h.keep hw) (V5 v W1);have h9:=wW r;have z:=kN r;have X:=ay (fun U B b (hw:aP w U) (o:OwnB U W1 B (bH r) b (bH r))=>LW (x:=0) aj a O aj o.cap U (h.keep hw).base.disk o.lb (fun i T e=>by have:=(o.e.dN T).1;have:=h.base.disk.lt e;have:=t.size;omega));rw[nm0]at X;obtain⟨q,p,n,m,l⟩:=gV u;have qf:=ay (fun U qg (h':uw U K M j mb qg (d.append 0 (bH r)).1 f oP)=>aeA v c P U h');unfold pX;dsimp only
 by_cases Q:(d.append 0 (bH r)).2=0
 ·rw[au (by rw[Q];simp)]
  rw[Q,show eV 0=iI from rfl]at X;obtain⟨rk,rs,rn,rl,rc⟩:=r;generalize bH ⟨rk,rs,rn,rl,rc⟩=L at*
  try dsimp only at*
  clear v c J t u h Q h9 z a P O;go_enter func189,ntmps189;go_upto_region 1 with(fail)
  change Code.wp _ _ _ _ (w.alloc _);rw[←C];go_upto_region 4 with(go_at_call 81;refine A.mono ?_;rintro e F ⟨B2,b2,rfl,E,Y⟩)
  have Z:=s.trans (Y.mono s.size);have D:=ay (HH F Z);have a0:=D.base.yG;have I:=ay (X F _ _ Z E);have X2:=qe.keep Y;obtain⟨qh,y⟩:=aV X2 Z;clear E Y Z X2 q p n m l;go_upto_region 7 with(go_at_call 77;refine I.aQ ?_;rintro w3 G)
  have W:=G.1;obtain⟨H,g,V⟩:=D.Dk G;have X3:=qh.dH W qa;obtain⟨q,p,n,m,l⟩:=gV X3
  try dsimp only at q p n m l
  have qi:=ay (qf w3 H g);clear a0 G g X3;go_wp2_with(go_at_call 83;refine qi.aQ ?_;rintro w4 ⟨⟨qj,h4,qk⟩,ql⟩);go_ret;have qm:=y.size;exact⟨rfl,⟨qj,h4,fun i T=>(qk i T).elim (fun k=>(V i k).imp id (fun k=>aj)) (fun k=>.inr (by have:=W.size;omega))⟩,((bQ.of_below (S:=fun i=>R i∨i=j∨i=mb) y).trans (W.mono (fun i _ e=>.inl e))).step ql (fun i T e=>e.elim (fun k=>(V i k).elim .inl (fun k=>absurd T aj)) .inr)⟩
 ·rw[aF Q]
  rw[pz Q]at X;have qo:=ay (pz Q);generalize bH r=L at*;clear v c J t u h Q h9 z a P O;go_enter func189,ntmps189;go_upto_region 1 with(fail)
  change Code.wp _ _ _ _ (w.alloc _);rw[←C];obtain⟨rk,rs,rn,rl,rc⟩:=r
  try dsimp only at*
  go_upto_region 4 with(go_at_call 81;refine A.mono ?_;rintro e F ⟨B2,b2,rfl,E,Y⟩)
  have Z:=s.trans (Y.mono s.size);have D:=ay (HH F Z);have a0:=D.base.yG;have I:=ay (X F _ _ Z E);change Hid _ at Z;clear E Y q p n m l;go_wp2_with(go_at_call 77;refine I.aQ ?_;rintro w3 G);go_ret;have W:=G.1;obtain⟨H,g,V⟩:=D.Dk G;have qm:=Z.size;exact⟨by rw[qo];rfl,⟨H,g,fun i T=>(V i T).imp id (fun k=>aj)⟩,(bQ.of_below (S:=fun i=>R i∨i=j∨i=mb) Z).trans (W.mono (fun i _ e=>.inl e))⟩
theorem nm2:bP 2=⟨#[111,117,116]⟩:=rfl
theorem nm3:bP 3=⟨#[111,117,116,46,116,109,112]⟩:=rfl
def Rn(ch n:Nat):Nat:=if n=ch then 3 else JF n
def Ro(ch n:Nat):Nat:=if n=ch then 2 else iR n
section
variable{w:aK}{K:Cn}{M:xW}{SD:Nat→Prop}{d:aI}{f:bZ}{oP:Option fG}{jg mb:Nat}
theorem yU(U:f.job.chunks=ch)(P:n≤ch)(V:ch≤16)(h:uw w K M jg mb SD d f oP):Calls prog 74 #[aY M.fg,n] w (Val w (eP #[.string (bP (Rn ch n)),.string (bP (Ro ch n))])):=by
 have Y:=ay (En h.job);rw[U]at Y;have Q:=h.xM
 by_cases e:n=ch
 ·subst e
  rw[show Rn n n=3 by unfold Rn;rw[aF rfl],show Ro n n=2 by unfold Ro;rw[aF rfl],nm2,nm3];go_enter func74,ntmps74;go_wp2_with(go_at_call 72;refine Y.aQ ?_;rintro T rfl);go_ret2;exact⟨rfl,aU _ _⟩
 ·obtain⟨S,R⟩:=aV (fun X=>akd (n:=n) aj X) (fun X=>Wq (n:=n) aj X)
  rw[show Rn ch n=JF n by unfold Rn;rw[au e],show Ro ch n=iR n by unfold Ro;rw[au e]];generalize bP (JF n)=O at*;generalize bP (iR n)=N at*;have L:¬(n:Int)=(ch:Int):=aj
  go_enter func74,ntmps74;go_wp2_with(first|(go_at_call 72;refine Y.aQ ?_;rintro T rfl)|(go_at_call 116;refine(S.out _).aQ ?_;rintro J Z)|(go_at_call 117;refine(R.out _).aQ ?_;rintro I W)|fail);go_ret2;exact⟨rfl,Z.trans (W.mono Z.size)⟩
end
theorem aiD(l:List aX)(q:aX→Bool):(List.range l).any (fun i=>q (l.getD i aX.zero))=l.any q:=by
 rw[Bool.eq_iff_iff,lT,lT];constructor
 ·rintro⟨i,Z,h⟩
  have Z:=yH.1 Z;rw[dG,fP Z]at h;exact⟨l[i],lS _,h⟩
 ·rintro⟨t,Y,h⟩
  obtain⟨i,Z,rfl⟩:=jA.1 Y;exact⟨i,yH.2 Z,by rw[dG,fP Z];exact h⟩
theorem agq{h:Bool}{s:Nat}{l:Nat}(w:aK)(X:aN w i 0 (aB n)):Calls prog 115 #[.agg #[.bool h,m,s,aG A l c],aY i] w (Val w (.bool (h&&m==n))):=by
 have Z:=aJ w (aS #[.bool h,m,s,aG A l c] 100);have W:=aC X Z;have V:=lt_of_cell X
 have Y:((m:Int)==(n:Int))=(m==n):=by
  by_cases e:m=n
  ·subst e;simp
  ·rw[show(m==n)=false by simpa using e,oO];omega
 cases h with
 |true=>
  rw[Bool.true_and,←Y];go_enter func115,ntmps115;go_wp2;go_ret;exact⟨rfl,Z⟩
 |false=>
  rw[Bool.false_and];go_enter func115,ntmps115;go_wp2;go_ret;exact⟨rfl,Z⟩
section
variable{w:aK}{K:Cn}{M:xW}{SD:Nat→Prop}{d:aI}{f:bZ}{oP:Option fG}{jg mb:Nat}
theorem MN.N7{Y:List aX}{Z:Bool}(h:MN w K M SD d Y l Z oP):aN w M.fg 15 (aG M.A Y M.c):=h.box.at rfl
theorem Ui(h:uw w K M jg mb SD d f oP):Calls prog 55 #[aY M.fg] w fun e Z=>e=bM f.tasks.length∧w=Z:=by
 have Y:=h.base.N7;go_enter func55,ntmps55;go_wp2;go_ret;exact sD
theorem aeB(h:uw w K M jg mb SD d f oP):Calls prog 63 #[BG M.fg] w fun e X=>∃Z Y,e=bM (BG Z)∧Q9 X Z Y f.job∧aP w X:=by
 have T:=h.xM;have W:=ay (aij w h.job);go_enter func63,ntmps63;go_wp2_with(go_at_call 108;refine W.mono ?_;rintro e S ⟨Z,Y,rfl,V,-,-,U⟩);go_ret;exact⟨Z,Y,rfl,V,U⟩
theorem MN.aeC{Z:List aX}{t:aO}{Y:Bool}(h:MN w K M SD d Z t Y oP)(hi:i<Z):∃b o,M.A=some (aH b o)∧aN w b (o+i*4) (.bool (Z.getD i aX.zero).has)∧aN w b (o+i*4+1) (aB (Z.getD i aX.zero).n)∧aN w b (o+i*4+2) (aB (Z.getD i aX.zero).step)∧
  aN w b (o+i*4+3) (.slice (M.ms.getD i yT).A (M.ms.getD i yT).l (M.ms.getD i yT).c):=by
 have U:=h.tasks.len;obtain⟨b,o,V,X⟩:=h.tasks.ls.at_ hi;have e:M.ms.getD i yT=M.ms[i]' aj:=by rw[dG,fP aj];rfl
 have W:=h.tk i hi;rw[e]at W ⊢;refine⟨b,o,V,?_,?_,?_,X 3 _ rfl⟩
 ·rw[←W.h];exact X 0 _ rfl
 ·rw[←W.n];exact X 1 _ rfl
 ·rw[←W.s];exact X 2 _ rfl
theorem aiE(O:f.tasks.length≤1000)(h:uw w K M jg mb SD d f oP):Calls prog 73 #[aY M.fg,n] w (Val w (.bool (f.taken n))):=by
 obtain⟨W,Z,X,Y⟩:=ES w 3 #[n];have T:=X.c0;have V:=h.keep Y;have J:=V.base.N7
 have N:=ay (show Calls prog 114 #[aG M.A f.tasks M.c,.func (.func 115) #[] #[aY w]] W (Val W (.bool (f.taken n))) by
  have R:=Zy (g:=115) (cb:=#[aY w]) (q:=fun i=>(fun t:aX=>t.has&&t.n==n) (f.tasks.getD i aX.zero)) (E0:=fun i=>.bool (f.tasks.getD i aX.zero).has) (E1:=fun i=>aB (f.tasks.getD i aX.zero).n) (E2:=fun i=>aB (f.tasks.getD i aX.zero).step) (E3:=fun i=>.slice (M.ms.getD i yT).A (M.ms.getD i yT).l (M.ms.getD i yT).c) (A:=M.A) (n:=f.tasks.length) (c:=M.c) aj W (enters_of func115 aW rfl)
   (fun Q U i P=>(V.keep U).base.aeC P)
   (fun i P Q U=>agq Q (aC T U))
  have L:=aiD f.tasks (fun t:aX=>t.has&&t.n==n);rw[L]at R;exact R)
 change Hid _ at Z Y;clear X V h;go_enter func73,ntmps73;go_upto_region 1 with(fail)
 change Code.wp _ _ _ _ (w.alloc _);rw[←Z];go_wp2_with(go_at_call 114;refine N.aQ ?_;rintro I S);go_ret;exact⟨rfl,Y.trans (S.mono Y.size)⟩
end
theorem aai{p:Nat→Bool}:∀{L:List Nat} {i:Nat},i<L→(∀t,t<i→p (L.getD t 0)=false)→p (L.getD i 0)=true→L.find? p=some (L.getD i 0)
 | [],i,h,_,_=>absurd h bK
 |x::L,0,_,_,Z=>by
  have Z:p x=true:=Z;rw[List.find?_cons,Z];rfl
 |x::L,i+1,h,Y,Z=>by
  have X:p x=false:=Y 0 aj;rw[List.find?_cons,X];exact aai (by simpa using h) (fun t W=>Y (t+1) aj) Z
theorem aeD{p:Nat→Bool}{L:List Nat}(h:∀t,t<L.length→p (L.getD t 0)=false):L.find? p=none:=by
 rw[List.find?_eq_none];intro x Y;obtain⟨i,Z,rfl⟩:=jA.1 Y;have:=h i Z;rw[dG,fP Z]at this;simpa using this
def adF(o:Option Nat):Int:=match o with|some n=>n|none=>-1
section
variable{w:aK}{K:Cn}{M:xW}{SD:Nat→Prop}{d:aI}{f:bZ}{oP:Option fG}{jg mb:Nat}
theorem aeE(v:f.job.chunks=ch)(qe:ch≤16)(c:f.tasks.length≤1000)(h:uw w K M jg mb SD d f oP):Calls prog 45 #[aY M.fg] w (Val w (adF f.take)):=by
 have r:=h.xM;obtain⟨s,HH,q⟩:=dB (Uh aj w h.job) (fun H (G:aP w H)=>h.keep G) (fun H n (G:aP w H)=>aiE (n:=n) c (h.keep G));obtain⟨L,a⟩:=kF (f.wants);have Y:f.take=L.find? fun n=>!f.taken n:=by rw[a];rfl
 rw[Y]
 have qa:∀x∈f.job.missing,x<16:=fun x F=>by
  have:=yH.1 (List.mem_filter.1 F).1;rw[v]at this;omega
 have o:f.job.missing.length≤16:=by
  unfold bT.missing;refine dD (List.length_filter_le _ _) ?_;rw[jG,v];omega
 change Hid _ at a v;clear h Y
 by_cases z:f.job.missing=[]
 ·have P:L=[ch]:=by rw[a];unfold bZ.wants;rw[aF z,v];rfl
  have m:f.job.missing.length=0:=by rw[z];rfl
  rw[m]at s;have l:Hid (L.length=1):=ay (by rw[P];rfl);change Hid _ at P;clear z m;go_enter func45,ntmps45;go_upto_region 3 with(go_at_call 71;refine s.mono ?_;rintro e Q ⟨A2,c2,rfl,o2,V⟩)
  have H2:=ay (HH Q V);have HC:=ay (En H2.job);rw[v]at HC;have qf:=H2.xM;have g:=aJ Q (aS #[ch] 3);have O:=ay (V.trans (g.mono V.size))
  have C:=ay (fun H (G:Below (Q.alloc (aS #[ch] 3)) (Q.alloc (aS #[ch] 3)) H)=>show Ls H Q 1 (L.map fun n:Nat=>(n:Int)) by
   rw[P];have X:=(bF.new Q 3 #[ch]).keep G
   exact⟨rfl,⟨rfl,fun _=>⟨Q,0,rfl,fun j u hu=>by
    rw[dI,X.cell];simpa using hu⟩⟩⟩)
  clear g o2 V r;go_wp2_with(go_at_call 72;refine HC.aQ ?_;rintro w3 rfl)
  go_loopg [5,22] (1:Nat) (fun k v5 B wr=>∃i:Nat,i+k=1∧B=i∧Below (Q.alloc (aS #[ch] 3)) (Q.alloc (aS #[ch] 3)) wr∧∀t,t<i→f.taken (L.getD t 0)=true)
  case atStart=>exact⟨0,aj,rfl,aU _ _,fun t T=>absurd T aj⟩
  case round=>
   obtain⟨i,hi,rfl,Z,U⟩:=hrel;have W:=ay Z;change Hid _ at U
   by_cases I:i<1
   ·have b:(i:Int)<((1:Nat):Int):=aj
    have S:i<L:=by rw[l];exact I
    obtain⟨lb,lo,hA,y⟩:=(C wr Z).at_ I;injection hA with hA
    injection hA with q1 q2
    subst q1 q2;rw[dI]at y;have E:(L.map fun n:Nat=>(n:Int)).getD i 0=((L.getD i 0:Nat):Int):=by rw[dG,gX,fP S,dG,fP S];rfl
    rw[E]at y;obtain⟨J,A⟩:=aV (q wr (L.getD i 0) (O.trans (Z.mono O.size))) (fun h=>aai (p:=fun n=>!f.taken n) (L:=L) (i:=i) S (fun t T=>by simp only[U.out t T];rfl) h);cases Y:f.taken (L.getD i 0)with
    |false=>
     rw[Y]at J;have D:Hid (adF (L.find? fun n=>!f.taken n)=((L.getD i 0:Nat):Int)):=ay (by rw[A (by simp only[Y];rfl)];rfl);generalize L.getD i 0=x at*;clear E Y Z;go_wp2_with(go_at_call 73;refine J.aQ ?_;rintro w5 R);go_ret;exact⟨by rw[D];rfl,O.trans ((W.trans (R.mono W.size)).mono O.size)⟩
    |true=>
     rw[Y]at J;obtain⟨x,F⟩:=kF (L.getD i 0);rw[←F]at J y;change Hid _ at Y;clear E Z F;go_wp2_with(go_at_call 73;refine J.aQ ?_;rintro w5 R);go_roundg(gk-1)
     case measure=>omega
     case rel=>
      refine⟨i+1,aj,fA,W.trans (R.mono W.size),fun t T=>?_⟩
      by_cases e:t=i
      ·subst e;exact Y
      ·exact U t aj
   ·obtain rfl:i=1:=aj
    have D:Hid (adF (L.find? fun n=>!f.taken n)= -1):=ay (by rw[aeD (p:=fun n=>!f.taken n) (L:=L) (fun t T=>by simp only[U.out t (by rw[l]at T;exact T)];rfl)];rfl);go_wp2_with fail;go_ret;exact⟨by rw[D];rfl,O.trans (Z.mono O.size)⟩
 ·have P:L=f.job.missing:=by rw[a];unfold bZ.wants;rw[au z]
  have hp:0<f.job.missing.length:=List.length_pos_iff.2 z;rw[←P]at s hp o;obtain⟨N,hN⟩:∃N,L.length=N:=⟨_,rfl⟩;rw[hN]at s hp o;have hz:((N:Int)==0)=false:=by rw[oO];omega
  have qg:¬(N=0):=aj
  change Hid _ at hN;clear z P qa;go_enter func45,ntmps45;go_upto_region 2 with(first|(go_at_call 71;refine s.mono ?_;rintro e Q ⟨A2,c2,rfl,o2,V⟩)|fail)
  have C:=ay (fun H (G:aP Q H)=>show Ls H A2 N (L.map fun n:Nat=>(n:Int))from o2.ls.keep G);change Hid _ at V;clear o2 r;go_wp2_with fail
  go_loopg [5,22] N (fun k v5 B wr=>∃i:Nat,i+k=N∧B= aB i∧Below (Q) (Q) wr∧∀t,t<i→f.taken (L.getD t 0)=true)
  case atStart=>exact⟨0,aj,rfl,aU _ _,fun t T=>absurd T aj⟩
  case round=>
   obtain⟨i,hi,rfl,Z,U⟩:=hrel;have W:=ay Z;change Hid _ at U
   by_cases I:i<N
   ·have b:(i:Int)<(N:Int):=aj
    have S:i<L.length:=by rw[hN];exact I
    obtain⟨lb,lo,rfl,y⟩:=(C wr Z).at_ I;have E:(L.map fun n:Nat=>(n:Int)).getD i 0=((L.getD i 0:Nat):Int):=by rw[dG,gX,fP S,dG,fP S];rfl
    rw[E]at y;obtain⟨J,A⟩:=aV (q wr (L.getD i 0) (V.trans (Z.mono V.size))) (fun h=>aai (p:=fun n=>!f.taken n) (L:=L) (i:=i) S (fun t T=>by simp only[U.out t T];rfl) h);cases Y:f.taken (L.getD i 0)with
    |false=>
     rw[Y]at J;have D:Hid (adF (L.find? fun n=>!f.taken n)=((L.getD i 0:Nat):Int)):=ay (by rw[A (by simp only[Y];rfl)];rfl);generalize L.getD i 0=x at*;clear E Y Z;go_wp2_with(first|(go_at_call 73;refine J.aQ ?_;rintro w5 R)|fail);go_ret;exact⟨by rw[D];rfl,V.trans ((W.trans (R.mono W.size)).mono V.size)⟩
    |true=>
     rw[Y]at J;obtain⟨x,F⟩:=kF (L.getD i 0);rw[←F]at J y;change Hid _ at Y;clear E Z F;go_wp2_with(first|(go_at_call 73;refine J.aQ ?_;rintro w5 R)|fail);go_roundg(gk-1)
     case measure=>omega
     case rel=>
      refine⟨i+1,aj,fA,W.trans (R.mono W.size),fun t T=>?_⟩
      by_cases e:t=i
      ·subst e;exact Y
      ·exact U t aj
   ·obtain rfl:i=N:=aj
    have D:Hid (adF (L.find? fun n=>!f.taken n)= -1):=ay (by rw[aeD (p:=fun n=>!f.taken n) (L:=L) (fun t T=>by simp only[U.out t (by rw[hN]at T;exact T)];rfl)];rfl);go_wp2_with fail;go_ret;exact⟨by rw[D];rfl,V.trans (Z.mono V.size)⟩
end
def al0(ch:Nat)(t:aX):bV:=if t.n=ch then iJ 51 0 t.data else iJ 49 t.n t.data
section
variable{w:aK}{K:Cn}{M:xW}{SD:Nat→Prop}{d:aI}{f:bZ}{oP:Option fG}{jg mb:Nat}
theorem YL(hc:f.job.chunks=ch)(hi:i<f.tasks)(hA:M.A=j)(hd:dV (f.tasks.getD i aX.zero).data)(hl:(f.tasks.getD i aX.zero).data.length≤100000000)(h:uw w K M jg mb SD d f oP):Calls prog 82 #[aY M.fg,aY (some (aH j (i*4)))] w (Val w (F7 (al0 ch (f.tasks.getD i aX.zero)))):=by
 obtain⟨X,N,Y,D⟩:=ES w 68 Dq;have y:¬j=w:=by have:=(h.base.tasks.dN (i:=j) (by rw[hA];exact⟨_,rfl,rfl⟩)).2;omega
 have C:=h.keep D;have qa:=C.xM;obtain⟨b',o',s,t0,r,t2,o⟩:=C.base.aeC hi;rw[hA]at s;injection s with s
 injection s with q1 q2
 subst q1 q2;rw[dI]at r o;have hk:=(C.base.tk i hi).d;generalize M.ms.getD i yT=m at*;have qe:=hk.len
 have HC:=ay (fun q=>show Calls prog 72 #[aY jg] (X.drewN q) fun e v=>e=bM ch∧∃m,v=X.drewN m by
  have:=En (C.job.keep (jM (aU _ _) q));rw[hc]at this;exact this.mono fun e v hh=>⟨hh.1,q,hh.2.symm⟩)
 obtain⟨HS,HY⟩:=aV (fun k n U (O:aP X U)=>Z8 (k:=k) (n:=n) (c:=m.c) aj hd U (hk.lb.keep O)) (fun U (O:aP X U)=>Y.keep O);unfold al0;generalize f.tasks.getD i aX.zero=t at*;obtain⟨th,R,qg,td⟩:=t;dsimp only at*;change Hid _ at N D;clear Y h C hk hd hl hc t0 t2 qe;obtain⟨B,L⟩:=kF (jf td);obtain⟨z,J⟩:∃x:Nat,x=td:=⟨_,rfl⟩;have T:∀k n:Int,iJ k n td=⟨k,B,n,z,0⟩:=fun k n=>by rw[L,J];rfl
 by_cases e:R=ch
 ·rw[aF e,T]
  subst e
  have I:=ay (fun U (O:aP X U)=>show Calls prog 127 #[aB 51,aB 0,aG m.A m.l m.c] U (Val U (.agg #[aB 51,B,aB 0,z,aB 0])) by
   have h:=HS 51 0 U O;rw[T]at h;exact h)
  clear L J T;go_enter func82,ntmps82;go_upto_region 1 with(fail)
  change Code.wp _ _ _ _ (w.alloc (aS Dq 68));rw[←N]
  go_quiet((go_at_call 72;exact HC _))
  revert nq
  intro g;go_wp2_with(go_at_call 127;refine(I _ (jM (aU _ _) _)).aQ ?_;rintro w2 Z;have Q:=(jM (aU X X) g).trans Z;have V:=HY w2 Q;obtain⟨y0,y1,y2,y3,y4⟩:=gV V;have g0:=V.frozen 0;have g1:=V.frozen 1;have g2:=V.frozen 2;have g3:=V.frozen 3;have g4:=V.frozen 4;have S:=D.trans (Q.mono D.size));obtain⟨W9,H,⟨z0,z1,z2,z3,z4⟩,G,qf⟩:=Fp (cs:=Dq) rfl (aB 51) B (aB 0) z (aB 0) V S aj;rw[←H];refine aT (by simp[results,results82,go_sem,z0,z1,z2,z3,z4];rfl) rfl ?_;exact⟨rfl,G⟩
 ·rw[au e,T]
  have e2:((R:Int)==(ch:Int))=false:=by rw[oO];omega
  have e3:¬(R:Int)=(ch:Int):=aj
  have I:=ay (fun U (O:aP X U)=>show Calls prog 127 #[aB 49,R,aG m.A m.l m.c] U (Val U (.agg #[aB 49,B,R,z,aB 0])) by
   have h:=HS 49 R U O;rw[T]at h;exact h)
  clear L J T e;go_enter func82,ntmps82;go_upto_region 1 with(fail)
  change Code.wp _ _ _ _ (w.alloc (aS Dq 68));rw[←N]
  go_quiet((go_at_call 72;exact HC _))
  revert nq
  intro g;go_upto_region 3 with(fail)
  have Z:=jM (aU X X) g;obtain⟨W2,u⟩:=kF (X.drewN g);rw[←u]at Z ⊢;have q1:=aC r Z;have q3:=aC o Z;have r1:=aC r Z.drew;have r3:=aC o Z.drew;clear u r o qa
  go_region_held3(fun W=>aN W j (i*4+1) (aB R)∧aN W j (i*4+3) (aG m.A m.l m.c))
   (first|with_reducible exact⟨q1,q3⟩|with_reducible exact⟨r1,r3⟩|with_reducible exact⟨v1,v3⟩|with_reducible exact⟨bG v1 (F _ _ _ _ _) y,bG v3 (F _ _ _ _ _) y⟩|fail)
   (first
     |(go_at_call 127;refine(I _ Z.drew).aQ ?_;rintro w3 E;have P:=Z.drew.trans (E.mono Z.drew.size);have V:=HY w3 P;obtain⟨y0,y1,y2,y3,y4⟩:=gV V;have g0:=V.frozen 0;have g1:=V.frozen 1;have g2:=V.frozen 2;have g3:=V.frozen 3;have g4:=V.frozen 4;have S:=D.trans (P.mono D.size);have v1:=aC r1 E;have v3:=aC r3 E;have F:=fun a b c d e=>(((((bQ.refl (fun i=>i=w) w3).setCell (p:=⟨w,0,none⟩) (fun _=>rfl) a).setCell (p:=⟨w,1,none⟩) (fun _=>rfl) b).setCell (p:=⟨w,2,none⟩) (fun _=>rfl) c).setCell (p:=⟨w,3,none⟩) (fun _=>rfl) d).setCell (p:=⟨w,4,none⟩) (fun _=>rfl) e)
     |fail)
  clear F v1 v3 y0 y1 y2 y3 y4 g0 g1 g2 g3 g4;go_wp2;obtain⟨W9,H,⟨z0,z1,z2,z3,z4⟩,G,qf⟩:=Fp (cs:=Dq) rfl (aB 49) B R z (aB 0) V S aj;rw[←H];refine aT (by simp[results,results82,go_sem,z0,z1,z2,z3,z4];rfl) rfl ?_;exact⟨rfl,G⟩
end
theorem xA{α:Type}(l:List α)(k:Nat)(t z:α)(i:Nat):(l.set k t).getD i z=if i=k∧k<l then t else l.getD i z:=by
 rw[dG,dG,List.getElem?_set]
 by_cases h:k=i
 ·subst h
  by_cases Z:k<l
  ·rw[aF rfl,aF Z,aF ⟨rfl,Z⟩];rfl
  ·rw[aF rfl,au Z,au (fun e=>Z e.2),IU aj]
 ·rw[au h,au (fun e=>h e.1.symm)]
def Ox(M:xW)(Z:Nat→Prop)(Y mb:Nat)(i:Nat):Prop:=Z i∨i=Y∨i=mb∨i=M.fg∨In M.A i∨In M.B i∨(M.lo≤i∧i<M.hi)∨∃j,In (M.ms.getD j yT).A i
def kD(w:aK)(K:Cn)(M:xW)(X mb:Nat)(W:Nat→Prop)(oP:Option fG)(d:aI)(f:bZ)(w':aK):Prop:=
 ∃Z Y,uw w' K Z X mb Y d f oP∧Z.fg=M.fg∧Z.dg=M.dg∧Z.A=M.A∧bQ (Ox M W X mb) w w'∧∀i,Ox Z Y X mb i→Ox M W X mb i∨w.heap.size≤i
section
variable{w w' w1:aK}{K:Cn}{M:xW}{SD T:Nat→Prop}{d d':aI}{ts:List aX}{made:aO}{down:Bool}{oP:Option fG}
theorem MN.task{m:Ap}{t:aX}(h:MN w K M SD d ts made down oP)(hi:i<ts)(V:dX XW w' 0 M.A ts M.c (M.ms.set i m))(X:bQ (In M.A) w w')(ht:agp w' m t)(U:∀k,In m.A k→¬SD k):
  MN w' K {M with ms:=M.ms.set i m} SD d (ts.set i t) made down oP:=by
 have N:M.ms.length=ts:=h.tasks.len;have S:=uq h.tasks h.box bn;have W:(ts.set i t).length=ts:=pG ..;refine⟨?_,h.disk.keep X (fun j Z e=>h.sA j e Z),?_,fun j Z=>?_,h.made.dH X (fun j Z e=>D5 h.tasks h.made bn j e Z),fun P R=>?_,h.sf,h.sA,h.sB,fun j Z k Y=>?_,h.sP,dD h.hiw X.size⟩
 ·rw[W];exact h.box.dH X S
 ·rw[W];exact V
 ·rw[W]at Z
  rw[xA,xA]
  by_cases e:j=i
  ·rw[aF ⟨e,aj⟩,aF ⟨e,aj⟩];exact ht
  ·rw[au (fun k=>e k.1),au (fun k=>e k.1)]
   exact(h.tk j Z).dH X (fun k Y e=>D5 h.tasks (h.tk j Z).d.e bn k e Y)
 ·refine(h.plan P R).dH X fun k Y=>?_
  by_cases Q:M.lo≤k
  ·by_cases O:k<M.hi
   ·exact absurd Y (h.sP k Q O).2.2.1
   ·exact .inr aj
  ·exact .inl aj
 ·rw[W]at Z
  rw[xA]at Y;split at Y
  ·exact U k Y
  ·exact h.sT j Z k Y
theorem MN.made'{B:dK}{b:Nat}{made':aO}(h:MN w K M SD d ts made down oP)(J:dX Ib w1 0 B made' b made')(I:bQ (In M.B) w w1)(H:∀k,In B k→In M.B k∨w≤k):
  MN (w1.setCell ⟨M.fg,16,none⟩ (aG B made' b)) K {M with B:=B,b:=b} SD d ts made' down oP:=by
 have X:bQ (fun k=>In M.B k∨k=M.fg) w (w1.setCell ⟨M.fg,16,none⟩ (aG B made' b)):=(I.mono (fun i _ e=>.inl e)).setCell (fun _=>.inr rfl) _;have N:=uq h.made h.box bn;have G:=h.box.dH I N
 have W:∀{α:Type} {R:tJ α} {V n c:Nat} {A:dK} {l:List α},dX R w V A n c l→R.T≠97→R.T≠3→∀i,In A i→¬(In M.B i∨i=M.fg):=fun o S U i F e=>by
  rcases e with e|rfl
  ·exact D5 o h.made U i F e
  ·exact uq o h.box S F
 have L:∀k,k<w.heap.size→¬In M.B k→¬In B k:=fun k Z E e=>(H k e).elim E (fun e=>aj)
 refine⟨?_,h.disk.keep X (fun j Y e=>?_),h.tasks.dH X (W h.tasks bn bn),fun j Y=>(h.tk j Y).dH X (fun k Z=>W (h.tk j Y).d.e bn bn k Z),?_,fun P D=>?_,h.sf,h.sA,fun j Y e=>?_,h.sT,fun j S U=>?_,dD h.hiw X.size⟩
 ·exact G.store 16 (aG B made' b)
 ·rcases e with e|rfl
  ·exact h.sB j e Y
  ·exact h.sf Y
 ·refine J.dH ((bQ.refl (fun k=>k=M.fg) w1).setCell (fun _=>rfl) _) (fun k Z e=>?_)
  subst e;exact uq J G bn Z
 ·refine(h.plan P D).dH X fun k Z=>?_
  by_cases Q:M.lo≤k
  ·by_cases O:k<M.hi
   ·have:=h.sP k Q O
    rcases Z with Z|Z
    ·exact absurd Z this.2.2.2
    ·exact absurd Z this.2.1
   ·exact .inr aj
  ·exact .inl aj
 ·rcases H j Y with k|k
  ·exact h.sB j k e
  ·have:=h.disk.lt e;omega
 ·obtain⟨Q,O,C,z⟩:=h.sP j S U
  exact⟨Q,O,C,L j (by have:=h.hiw;dsimp only at U;omega) z⟩
theorem MN.cell'{Z:xW}{Y:Bool}(h:MN w K M SD d ts made down oP)(e:(fmA K M ts made down).setIfInBounds k v=fmA K Z ts made Y)
  (H:Z.dg=M.dg∧Z.fg=M.fg∧Z.p0=M.p0∧Z.p1=M.p1∧Z.p2=M.p2∧Z.p3=M.p3∧Z.p4=M.p4∧Z.A=M.A∧Z.c=M.c∧Z.ms=M.ms∧Z.B=M.B∧Z.b=M.b∧Z.lo=M.lo∧Z.hi=M.hi):
  MN (w.setCell ⟨M.fg,k,none⟩ v) K Z SD d ts made Y oP:=by
 obtain⟨a,fg,jv,p0,p1,p2,p3,p4,A,c,ms,B,b,lo,W⟩:=M;obtain⟨q,V,p,o,n,m,l,g,A',c',f,B',b',R,Q⟩:=Z;obtain⟨G,F,E,D,C,z,y,x,u,O,N,L,J,I⟩:=H;subst G F E D C z y x u O N L J I;have U:bQ (fun i=>i=V) w (w.setCell ⟨V,k,none⟩ v):=(bQ.refl (fun i=>i=V) w).setCell (fun _=>rfl) _;have X:=h.box.store k v;rw[e]at X;refine⟨X,h.disk.keep U (fun j S e=>h.sf (by rw[←e];exact S)),h.tasks.dH U (fun i W e=>?_),fun j S=>(h.tk j S).dH U (fun i W e=>?_),h.made.dH U (fun i W e=>?_),fun P t=>(h.plan P t).dH U fun i W=>?_,h.sf,h.sA,h.sB,h.sT,h.sP,dD h.hiw U.size⟩
 ·subst e;exact uq h.tasks h.box bn W
 ·subst e;exact uq (h.tk j S).d.e h.box bn W
 ·subst e;exact uq h.made h.box bn W
 ·subst W
  by_cases s:R≤i
  ·by_cases r:i<Q
   ·exact absurd rfl (h.sP i s r).2.1
   ·exact .inr (by dsimp only;omega)
  ·exact .inl (by dsimp only;omega)
end
section
variable{w w' w1:aK}{K:Cn}{M:xW}{SD T:Nat→Prop}{d d':aI}{f:bZ}{oP:Option fG}{jg mb:Nat}
theorem uw.apart(h:uw w K M jg mb SD d f oP):∀{α:Type} {R:tJ α} {Z n c:Nat} {A:dK} {l:List α},dX R w Z A n c l→R.T≠151→¬In A jg∧¬In A mb:=fun o X=>by
 obtain⟨W,Y⟩:=h.job;exact⟨fun e=>uq o Y.box X e,fun e=>LJ Y.done o e⟩
theorem uw.task{i:Nat}{m:Ap}{t:aX}(h:uw w K M jg mb SD d f oP)(hi:i<f.tasks)(Y:dX XW w' 0 M.A f.tasks M.c (M.ms.set i m))(Z:bQ (In M.A) w w')(ht:agp w' m t)(X:∀k,In m.A k→¬SD k):
  uw w' K {M with ms:=M.ms.set i m} jg mb SD d {f with tasks:=f.tasks.set i t} oP:=by
 have:=h.apart h.base.tasks bn;exact⟨h.base.task hi Y Z ht X,h.jv,h.job.dH Z this.1 this.2,h.sj,h.rj⟩
theorem uw.made'{B:dK}{b:Nat}{made':aO}(h:uw w K M jg mb SD d f oP)(X:dX Ib w1 0 B made' b made')(Z:bQ (In M.B) w w1)(W:∀k,In B k→In M.B k∨w≤k):
  uw (w1.setCell ⟨M.fg,16,none⟩ (aG B made' b)) K {M with B:=B,b:=b} jg mb SD d {f with made:=made'} oP:=by
 have Y:=h.apart h.base.made bn;obtain⟨V,U⟩:=h.fgj;refine⟨h.base.made' X Z W,h.jv,(h.job.dH Z Y.1 Y.2).dH ((bQ.refl (fun k=>k=M.fg) w1).setCell (fun _=>rfl) _) (fun e=>V e.symm) (fun e=>U e.symm),h.sj,h.rj⟩
theorem uw.down'(h:uw w K M jg mb SD d f oP)(b:Bool):uw (w.setCell ⟨M.fg,17,none⟩ (.bool b)) K M jg mb SD d {f with down:=b} oP:=by
 obtain⟨Z,Y⟩:=h.fgj;exact⟨h.base.cell' rfl ⟨rfl,rfl,rfl,rfl,rfl,rfl,rfl,rfl,rfl,rfl,rfl,rfl,rfl,rfl⟩,h.jv,h.job.dH ((bQ.refl (fun k=>k=M.fg) w).setCell (fun _=>rfl) _) (fun e=>Z e.symm) (fun e=>Y e.symm),h.sj,h.rj⟩
theorem MN.akm{j:bT}{Y:List aX}{Z:Bool}(h:MN w K M SD d Y l Z oP)(X:Q9 w jg mb j)(h1:w1≤jg)(h2:w1≤mb)(hd:∀i,SD i→i<w1)(U:M.hi≤w1)(S:M.fg<w1):
  uw (w.setCell ⟨M.fg,14,none⟩ (aY jg)) K {M with jv:=aY jg} jg mb SD d ⟨j,Y,l,Z⟩ oP:=by
 refine⟨h.cell' rfl ⟨rfl,rfl,rfl,rfl,rfl,rfl,rfl,rfl,rfl,rfl,rfl,rfl,rfl,rfl⟩,rfl,X.dH ((bQ.refl (fun k=>k=M.fg) w).setCell (fun _=>rfl) _) (fun e=>aj) (fun e=>aj),⟨fun e=>by have:=hd _ e;omega,fun e=>by have:=hd _ e;omega⟩,fun i W V=>by dsimp only at W V;omega⟩
theorem Ox.disk{P:Nat→Prop}(Z:∀i,S i→SD i∨P i)(h:Ox M S jg mb i):Ox M SD jg mb i∨P i:=by
 rcases h with h|h
 ·exact(Z i h).imp .inl id
 ·exact .inl (.inr h)
theorem kD.Dk{e:aI}(h:uw w K M jg mb SD d f oP)(Y:jh w M.dg SD e w'):kD w K M jg mb SD oP e f w':=by
 obtain⟨Z,X,W⟩:=h.Dk Y;exact⟨M,Z,X,rfl,rfl,rfl,Y.1.mono (fun i _ e=>.inl e),fun i V=>V.disk W⟩
theorem kD.am5{r:aI × bT × Int}{e:Ending}(h:xK w K M jg mb SD f oP r e w'):e=bM (eV r.2.2)∧kD w K M jg mb SD oP r.1 {f with job:=r.2.1} w':=by
 obtain⟨Y,⟨Z,X,W⟩,V⟩:=h;exact⟨Y,M,Z,X,rfl,rfl,rfl,V.mono (fun i _ e=>e.elim .inl (fun e=>.inr (e.elim .inl (fun e=>.inr (.inl e))))),fun i U=>U.disk W⟩
theorem kD.keep(h:uw w K M jg mb SD d f oP)(Z:aP w w'):kD w K M jg mb SD oP d f w':=
 ⟨M,SD,h.keep Z,rfl,rfl,rfl,bQ.of_below Z,fun _ Y=>.inl Y⟩
theorem kD.step{M1:xW}{S:Nat→Prop}{u:aK}{X:aI}{W:bZ}(h1:M1.fg=M.fg)(h2:M1.dg=M.dg)(R:M1.A=M.A)(V:bQ (Ox M SD jg mb) w w1)(U:∀i,Ox M1 S jg mb i→Ox M SD jg mb i∨w≤i)(h:kD w1 K M1 jg mb S oP X W u):kD w K M jg mb SD oP X W u:=by
 obtain⟨Q,Y,P,O,N,L,J,I⟩:=h;exact⟨Q,Y,P,O.trans h1,N.trans h2,L.trans R,V.step J (fun i Z e=>(U i e).elim id (fun k=>absurd Z aj)),fun i Z=>(I i Z).elim (U i) (fun k=>.inr (dD V.size k))⟩
end
structure Of(K:Cn)(oP:Option fG)(X:bI):Prop where
 may:jo K.qn K.qx K.re K.cu K.go K.ra K.ro K.fi=true
 ok:X.ok
 Si:X.Si
 plan:X.bad=0→∃P,oP=some P∧P.ok∧yj K.C (fF K.C P P.gs.length) (uF K.C P)∧X.chunks=P.gs.length∧(∀i,i<P.gs.length→X.pk i=vF (kK K.C P i))∧X.out=rX K.C P
theorem abT{l:List aX}{t:aX}(hi:i<l)(ht:l.getD i aX.zero=t):l.set i t=l:=by
 subst ht;rw[dG,fP hi];exact List.set_getElem_self hi
structure Js(K:Cn)(M:xW)(oP:Option fG)(X:bI)(d:aI)(f:bZ)(i tb N:Nat)(t:aX):Prop where
 of:Of K oP X
 bad:X.bad=0
 ch:f.job.chunks=X.chunks
 hi:i<f.tasks.length
 len:f.tasks.length≤64
 hA:M.A=some (aH tb 0)
 ht:f.tasks.getD i aX.zero=t
 hn:t.n≤X.chunks
 Zv:dV t.data
 le:t.data.length≤16777216
 lt:fZ d
 fit:aZ d N
 hN:N≤900000
def xG(w:aK)(K:Cn)(M:xW)(Z mb:Nat)(Y:Nat→Prop)(oP:Option fG)(f:bZ)(i:Nat)(t:aX)(S:vO)(e:Ending)(w':aK):Prop:=
 e=bM (eV S.err)∧kD w K M Z mb Y oP S.d {f with job:=S.job,made:=S.made,tasks:=f.tasks.set i {t with data:=S.data}} w'
section
variable{w:aK}{K:Cn}{M:xW}{SD:Nat→Prop}{X:bI}{d:aI}{f:bZ}{oP:Option fG}{jg mb i tb N:Nat}{t:aX}
theorem Js.SH(h:Js K M oP X d f i tb N t):X.chunks≤16:=h.of.ok.ch
theorem Js.temp(h:Js K M oP X d f i tb N t):Rn X.chunks t.n=X.temp t.n∧Ro X.chunks t.n=X.name t.n∧X.temp t.n<36∧X.name t.n<36:=⟨rfl,rfl,(JB h.of.ok h.hn).1,(JB h.of.ok h.hn).2⟩
theorem uw.Dt{R:aI}(h:uw w K M jg mb SD d f oP)(Z:Js K M oP X R f i tb N t):aN w tb (i*4) (.bool t.has)∧aN w tb (i*4+1) (aB t.n)∧aN w tb (i*4+2) (aB t.step)∧
  aN w tb (i*4+3) (.slice (M.ms.getD i yT).A t.data (M.ms.getD i yT).c)∧OwnB w 0 (M.ms.getD i yT).A t.data (M.ms.getD i yT).c t.data:=by
 obtain⟨L,J,Y,V,U,T,S⟩:=h.base.aeC Z.hi;have W:=(h.base.tk i Z.hi).d;rw[Z.hA]at Y;injection Y with Y
 injection Y with Q P
 subst Q P;simp only[dI]at V U T S;rw[Z.ht]at V U T W;have O:=W.len;rw[←O]at W S;exact⟨V,U,T,S,W⟩
theorem xG.disk(h:uw w K M jg mb SD d f oP)(Z:Js K M oP X d f i tb N t){v:aK}{d':aI}{r:Int}(Y:aP w u)(W:jh u M.dg SD d' v):xG w K M jg mb SD oP f i t ⟨d',f.job,f.made,t.data,r⟩ (bM (eV r)) v:=by
 have e:f.tasks.set i {t with data:=t.data}=f.tasks:=abT Z.hi Z.ht;refine⟨rfl,?_⟩;dsimp only;rw[e];exact kD.step rfl rfl rfl (bQ.of_below Y) (fun _ h=>.inl h) (kD.Dk (h.keep Y) W)
theorem Js.after(h:uw w K M jg mb SD d f oP)(Y:Js K M oP X d f i tb N t){v:aK}{d':aI}(W:aP w v)(V:jh v M.dg SD d' u){m:Ap}(U:m=M.ms.getD i yT)(T:j=t.data):aN u M.fg 0 (aY M.dg)∧aN u tb (i*4+3) (aG m.A j m.c):=by
 subst U T;obtain⟨S,Z,-⟩:=(h.keep W).Dk V;exact⟨Z.base.yG,(Z.Dt Y).2.2.2.1⟩
theorem al1{ms:List Ap}(hi:i<ms):ms[i]=ms.getD i yT:=by rw[dG,fP hi];rfl
theorem KD{ms:List Ap}{a:Ap}(Z:dX XW w 0 tb n c ms)(hi:i<ms)(j:Nat)(Y:j<4)(W:XW.enc a=(XW.enc (ms.getD i yT)).set j v):dX XW (w.setCell ⟨tb,i*4+j,none⟩ v) 0 tb n c (ms.set i a):=
 dX.store (R:=XW) Z hi Y (by rw[al1 hi];exact W)
theorem uw.Oy{Y:aI}(h:uw w K M jg mb SD d f oP)(Z:Js K M oP X Y f i tb N t)(j:Nat):w.frozen? (aH tb j)=false:=by
 obtain⟨g,e,-,-,W⟩:=h.base.tasks.form (by have:=Z.hi;omega);rw[Z.hA]at e;injection e with e
 injection e with e
 subst e;exact W j
theorem uw.data{w':aK}{B:dK}{b:Nat}{l:aO}{T:aI}(h:uw w K M jg mb SD d f oP)(Z:Js K M oP X T f i tb N t)(S:aP w w')(o:OwnB w' w B l b l):
  uw (w'.setCell ⟨tb,i*4+3,none⟩ (aG B l b)) K {M with ms:=M.ms.set i ⟨t.has,t.n,t.step,B,l.length,b⟩} jg mb SD d {f with tasks:=f.tasks.set i {t with data:=l}} oP:=by
 have W:=h.keep S;have O:M.ms.length=f.tasks:=W.base.tasks.len;have Y:=W.base.tk i Z.hi;rw[Z.ht]at Y;have V:=W.base.tasks;rw[Z.hA]at V;have L:=Z.hi;have R:=KD V (aj:i<M.ms) 3 aj (a:=⟨t.has,t.n,t.step,B,l.length,b⟩) (v:=aG B l b) (by show [Value.bool _,_,_,_]=[Value.bool _,_,_,_];rw[Y.h,Y.n,Y.s]);have U:=(bQ.refl (In M.A) w').setCell (p:=(aH tb (i*4+3))) (fun _=>by rw[Z.hA];exact⟨_,rfl,rfl⟩) (aG B l b);refine W.task Z.hi (by rw[Z.hA];exact R) U ⟨rfl,rfl,rfl,(o.lower (dS _)).dH U (fun k Q P=>D5 o.e W.base.tasks bn k Q P)⟩ (fun k Y e=>?_);have:=(o.e.dN Y).1;have:=h.base.disk.lt e;omega
theorem Ox.ms{m:Ap}{k:Nat}(h:Ox {M with ms:=M.ms.set i m} SD jg mb k):Ox M SD jg mb k∨In m.A k:=by
 rcases h with h|h|h|h|h|h|h|⟨j,h⟩
 ·exact .inl (.inl h)
 ·exact .inl (.inr (.inl h))
 ·exact .inl (.inr (.inr (.inl h)))
 ·exact .inl (.inr (.inr (.inr (.inl h))))
 ·exact .inl (.inr (.inr (.inr (.inr (.inl h)))))
 ·exact .inl (.inr (.inr (.inr (.inr (.inr (.inl h))))))
 ·exact .inl (.inr (.inr (.inr (.inr (.inr (.inr (.inl h)))))))
 ·dsimp only at h
  rw[xA]at h;split at h
  ·exact .inr h
  ·exact .inl (.inr (.inr (.inr (.inr (.inr (.inr (.inr ⟨j,h⟩)))))))
theorem Ox.mB{b:Nat}(h:Ox {M with B:=B,b:=b} SD jg mb k):Ox M SD jg mb k∨In B k:=by
 rcases h with h|h|h|h|h|h|h|h
 ·exact .inl (.inl h)
 ·exact .inl (.inr (.inl h))
 ·exact .inl (.inr (.inr (.inl h)))
 ·exact .inl (.inr (.inr (.inr (.inl h))))
 ·exact .inl (.inr (.inr (.inr (.inr (.inl h)))))
 ·exact .inr h
 ·exact .inl (.inr (.inr (.inr (.inr (.inr (.inr (.inl h)))))))
 ·exact .inl (.inr (.inr (.inr (.inr (.inr (.inr (.inr h)))))))
theorem Ox.am6(Z:Js K M oP X d f i tb N t):Ox M SD jg mb tb:=.inr (.inr (.inr (.inr (.inl (by rw[Z.hA];exact⟨_,rfl,rfl⟩)))))
theorem Ox.fg:Ox M SD jg mb M.fg:=.inr (.inr (.inr (.inl rfl)))
theorem kD.data{w':aK}{B:dK}{b:Nat}{l:aO}(h:uw w K M jg mb SD d f oP)(Z:Js K M oP X d f i tb N t)(Y:aP w w')(o:OwnB w' w B l b l):
  kD w K M jg mb SD oP d {f with tasks:=f.tasks.set i {t with data:=l}} (w'.setCell ⟨tb,i*4+3,none⟩ (aG B l b)):=
 ⟨_,SD,h.data Z Y o,rfl,rfl,rfl,(bQ.of_below Y).setCell (p:=(aH tb (i*4+3))) (fun _=>Ox.am6 Z) _,fun _ W=>W.ms.imp id fun e=>(o.e.dN e).1⟩
theorem kD.made{w' w4:aK}{A B:dK}{a b:Nat}{l made':aO}(h:uw w K M jg mb SD d f oP)(W:Js K M oP X d f i tb N t)(Y:aP w w')(o:OwnB w' w A l a l)(T:dX Ib w4 0 B made' b made')(V:bQ (In M.B) (w'.setCell ⟨tb,i*4+3,none⟩ (aG A l a)) w4)(U:∀k,In B k→In M.B k∨w'≤k):
  kD w K M jg mb SD oP d {f with made:=made',tasks:=f.tasks.set i {t with data:=l}} (w4.setCell ⟨M.fg,16,none⟩ (aG B made' b)):=by
 have S:=(h.data W Y o).made' (B:=B) (b:=b) (made':=made') T V (fun k Z=>(U k Z).imp id (fun e=>by simpa using e));refine⟨_,SD,S,rfl,rfl,rfl,?_,fun k Z=>?_⟩
 ·refine(((bQ.of_below Y).setCell (p:=(aH tb (i*4+3))) (fun _=>Ox.am6 W) _).trans (V.mono fun k _ e=>.inr (.inr (.inr (.inr (.inr (.inl e))))))).setCell (p:=(aH M.fg 16)) (fun _=>Ox.fg) _
 ·rcases Z.mB with Z|Z
  ·exact Z.ms.imp id fun e=>(o.e.dN e).1
  ·exact(U k Z).imp (fun e=>.inr (.inr (.inr (.inr (.inr (.inl e)))))) (fun e=>dD Y.size e)
end
section
variable{w:aK}{K:Cn}{M:xW}{SD:Nat→Prop}{X:bI}{d:aI}{f:bZ}{oP:Option fG}{jg mb i tb N tn:Nat}{th:Bool}{td:aO}
theorem aiF(Z:Js K M oP X d f i tb N ⟨th,tn,1,td⟩)(h:uw w K M jg mb SD d f oP):Calls prog 46 #[aY M.fg,aY (some (aH tb (i*4)))] w (xG w K M jg mb SD oP f i ⟨th,tn,1,td⟩ (eG X d f ⟨th,tn,1,td⟩)):=by
 obtain⟨P,O,L,J,I⟩:=h.Dt Z;dsimp only at P O L J I;obtain⟨U,T,S,H⟩:=Z.temp;dsimp only at U T S H;have R:=ay (yU (n:=tn) Z.ch Z.hn Z.SH h);rw[U,T]at R;obtain⟨G,F,E,D,C⟩:=rG (fun W (V:aP w W)=>(h.keep V).base.yG) (fun W (V:aP w W)=>(h.keep V).Dt Z) (fun W (V:aP w W)=>PX S (dD Z.fit.all (dD Z.hN aj)) (dD Z.fit.steps (dD Z.hN aj)) W (h.keep V).base.disk) h Z;generalize A:bP (X.temp tn)=y at*;generalize z:bP (X.name tn)=By at*;go_enter func46,ntmps46;go_wp2_with(first|(go_at_call 74;refine R.aQ ?_;rintro Q Y;have x:=G Q Y;obtain⟨-,-,v,-,-⟩:=F Q Y)|(go_at_call 76;refine(E _ Y).aQ ?_;rintro u B)|fail);go_ret;exact xG.disk D C Y B
theorem aiG(Y:Js K M oP X d f i tb N ⟨th,tn,3,td⟩)(h:uw w K M jg mb SD d f oP):Calls prog 46 #[aY M.fg,aY (some (aH tb (i*4)))] w (xG w K M jg mb SD oP f i ⟨th,tn,3,td⟩ (eG X d f ⟨th,tn,3,td⟩)):=by
 obtain⟨P,O,L,J,I⟩:=h.Dt Y;dsimp only at P O L J I;obtain⟨U,T,S,H⟩:=Y.temp;dsimp only at U T S H;have R:=ay (yU (n:=tn) Y.ch Y.hn Y.SH h);rw[U,T]at R;obtain⟨G,F,E,D,C⟩:=rG (fun W (V:aP w W)=>(h.keep V).base.yG) (fun W (V:aP w W)=>(h.keep V).Dt Y) (fun W (V:aP w W)=>WI S Y.lt W (h.keep V).base.disk) h Y;generalize A:bP (X.temp tn)=y at*;generalize z:bP (X.name tn)=By at*;go_enter func46,ntmps46;go_wp2_with(first|(go_at_call 74;refine R.aQ ?_;rintro Q Z;have x:=G Q Z;obtain⟨-,-,v,-,-⟩:=F Q Z)|(go_at_call 78;refine(E _ Z).aQ ?_;rintro u B)|fail);go_ret;exact xG.disk D C Z B
theorem aiH(Z:Js K M oP X d f i tb N ⟨th,tn,4,td⟩)(h:uw w K M jg mb SD d f oP):Calls prog 46 #[aY M.fg,aY (some (aH tb (i*4)))] w (xG w K M jg mb SD oP f i ⟨th,tn,4,td⟩ (eG X d f ⟨th,tn,4,td⟩)):=by
 obtain⟨O,L,J,I,H⟩:=h.Dt Z;dsimp only at O L J I H;obtain⟨U,T,S,R⟩:=Z.temp;dsimp only at U T S R;have Q:=ay (yU (n:=tn) Z.ch Z.hn Z.SH h);rw[U,T]at Q;obtain⟨G,F,E,D,C⟩:=rG (fun W (V:aP w W)=>(h.keep V).base.yG) (fun W (V:aP w W)=>(h.keep V).Dt Z) (fun W (V:aP w W)=>WG S R (dD Z.fit.steps (dD Z.hN aj)) W (h.keep V).base.disk) h Z;generalize A:bP (X.temp tn)=y at*;generalize z:bP (X.name tn)=By at*;go_enter func46,ntmps46;go_wp2_with(first|(go_at_call 74;refine Q.aQ ?_;rintro P Y;have x:=G P Y;obtain⟨-,-,v,-,-⟩:=F P Y)|(go_at_call 79;refine(E _ Y).aQ ?_;rintro u B)|fail);go_ret;exact xG.disk D C Y B
theorem aiI(Y:Js K M oP X d f i tb N ⟨th,tn,5,td⟩)(h:uw w K M jg mb SD d f oP):Calls prog 46 #[aY M.fg,aY (some (aH tb (i*4)))] w (xG w K M jg mb SD oP f i ⟨th,tn,5,td⟩ (eG X d f ⟨th,tn,5,td⟩)):=by
 obtain⟨Q,P,O,L,J⟩:=h.Dt Y;dsimp only at Q P O L J;obtain⟨U,T,I,H⟩:=Y.temp;dsimp only at U T I H;have S:=ay (yU (n:=tn) Y.ch Y.hn Y.SH h);rw[U,T]at S;obtain⟨G,F,E,D,C⟩:=rG (fun W (V:aP w W)=>(h.keep V).base.yG) (fun W (V:aP w W)=>(h.keep V).Dt Y) (fun W (V:aP w W)=>JC W (h.keep V).base.disk) h Y;generalize A:bP (X.temp tn)=y at*;generalize z:bP (X.name tn)=By at*;go_enter func46,ntmps46;go_wp2_with(first|(go_at_call 74;refine S.aQ ?_;rintro R Z;have x:=G R Z;obtain⟨-,-,v,-,-⟩:=F R Z)|(go_at_call 80;refine(E _ Z).aQ ?_;rintro u B)|fail);go_ret;exact xG.disk D C Z B
theorem aiJ(Z:Js K M oP X d f i tb N ⟨th,tn,2,td⟩)(h:uw w K M jg mb SD d f oP):Calls prog 46 #[aY M.fg,aY (some (aH tb (i*4)))] w (xG w K M jg mb SD oP f i ⟨th,tn,2,td⟩ (eG X d f ⟨th,tn,2,td⟩)):=by
 obtain⟨D,t,s,C,Q⟩:=h.Dt Z;dsimp only at D t s C Q;obtain⟨O,L,J,B⟩:=Z.temp;dsimp only at O L J B;have z:=ay (yU (n:=tn) Z.ch Z.hn Z.SH h);rw[O,L]at z;obtain⟨y,I⟩:=aV (fun S (V:aP w S)=>(h.keep V).base.yG) (fun S (V:aP w S)=>(h.keep V).Dt Z);have R:=Z.le;dsimp only at R;have v:=ay (fun S (V:aP w S)=>LW (x:=X.temp tn) J Z.lt Z.fit aj (Q.keep V).cap S (h.keep V).base.disk (Q.keep V).lb (fun j r=>h.base.sT i Z.hi j r));generalize F:bP (X.temp tn)=e at*;generalize E:bP (X.name tn)=By at*;obtain⟨m,H⟩:∃m,m=M.ms.getD i yT:=⟨_,rfl⟩;obtain⟨G,U⟩:∃G,G=td.length:=⟨_,rfl⟩;rw[←U,←H]at v I;change Hid _ at h Z U H;clear O L J B D C Q F E R;go_enter func46,ntmps46;go_upto_region 8 with(go_at_call 74;refine z.aQ ?_;rintro P T;have q:=y P T;obtain⟨-,-,b,p,-⟩:=I P T)
 have Y:=T.drew;have o:=y P.drew Y;obtain⟨-,-,-,l,-⟩:=I P.drew Y
 go_region_held3(fun W=>aN W M.fg 0 (aY M.dg)∧aN W tb (i*4+3) (aG m.A G m.c))
  (first|with_reducible exact⟨q,p⟩|with_reducible exact⟨o,l⟩|with_reducible exact⟨k,g⟩|fail)
  (first
    |(go_at_call 77;refine(v _ Y).aQ ?_;rintro a u;obtain⟨k,g⟩:=Js.after h Z Y u H U)
    |fail)
 go_wp2;go_ret;exact xG.disk h Z Y u
end
section
open Go.Shelf
def lays110_ren:Go.Shelf.Ren:=⟨fun|110=>86|109=>129|n=>n,fun|31=>121|9=>9|4=>4|3=>3|0=>0|n=>n,fun|n=>n⟩
theorem lays110:Go.Proofs.Lays.n110 prog lays110_ren:={
 mixed:=aW
 f109:=func129.trans (bf some aW)
 f110:=func86.trans (bf some aW)
 t0:=underlying0
 a0:=Tryz.isAgg0
 z0:=Tryz.sizeOf0
 v0:=Tryz.zeroValue0
 t3:=underlying3
 a3:=Tryz.isAgg3
 z3:=Tryz.sizeOf3
 v3:=Tryz.zeroValue3
 t4:=underlying4
 a4:=Tryz.isAgg4
 z4:=Tryz.sizeOf4
 v4:=Tryz.zeroValue4
 t9:=underlying9
 a9:=Tryz.isAgg9
 z9:=Tryz.sizeOf9
 v9:=Tryz.zeroValue9
 t31:=underlying121
 a31:=Tryz.isAgg121
 z31:=Tryz.sizeOf121
 v31:=Tryz.zeroValue121}
def lays99_ren:Go.Shelf.Ren:=⟨fun|99=>234|206=>262|n=>n,fun|9=>9|4=>4|3=>3|n=>n,fun|n=>n⟩
theorem lays99:Go.Proofs.Lays.n99 prog lays99_ren:={
 mixed:=aW
 f99:=func234.trans (bf some aW)
 f206:=func262.trans (bf some aW)
 t3:=underlying3
 a3:=Tryz.isAgg3
 z3:=Tryz.sizeOf3
 v3:=Tryz.zeroValue3
 t4:=underlying4
 a4:=Tryz.isAgg4
 z4:=Tryz.sizeOf4
 v4:=Tryz.zeroValue4
 t9:=underlying9
 a9:=Tryz.isAgg9
 z9:=Tryz.sizeOf9
 v9:=Tryz.zeroValue9}
theorem al2:∀x,x<36→Lib.hasPrefix (bP x).data.toList [116,46]=decide (x%2=1∧4≤x):=bn
theorem agr(hx:x<36)(w:World):Calls prog 234 #[.string (bP x),.string ⟨#[116,46]⟩] w fun e Z=>e= .returned (.bool (decide (x%2=1∧4≤x)))∧w=Z:=by
 refine(Any.strings_HasPrefix lays99 (bP x) ⟨#[116,46]⟩ w).aQ ?_;rintro Z rfl;exact⟨by rw[←al2 x hx],rfl⟩
theorem Jo(x:Nat):(bP x).toList=wV x:=by rw[rP];rfl
theorem al3:∀x,x<36→¬(x%2=1∧4≤x)→(wV x== [106,111,98,46,116,109,112]||wV x== [111,117,116,46,116,109,112])=decide (x%2=1):=bn
theorem aaj(hx:x<36)(w:World):Calls prog 185 #[.string (bP x)] w fun e X=>e= .returned (.bool (decide (x%2=1)))∧w=X:=by
 have Z:=ay (agr hx w)
 by_cases Y:x%2=1∧4≤x
 ·rw[su Y]at Z
  rw[su Y.1];generalize bP x=s at*;go_enter func185,ntmps185;go_wp2_with(go_at_call 234;refine Z.aQ ?_;rintro W rfl);go_ret;exact⟨rfl,rfl⟩
 ·rw[vH Y]at Z
  rw[←al3 x hx Y,←Jo];generalize bP x=s at*;go_enter func185,ntmps185;go_wp2_with(go_at_call 234;refine Z.aQ ?_;rintro W rfl)
  all_goals(go_ret;exact⟨by simp[*],rfl⟩)
theorem Hq{d:aI}{l:List Nat}(h:NmR w base d A n c l)(hx:x<36):Calls prog 86 #[.slice A n c,.string (bP x)] w fun e Z=>e= .returned (.bool (d.names x).isSome)∧w=Z:=by
 have T:=h.row.len;have W:=h.names.mem x
 by_cases S:n=0
 ·subst S
  obtain rfl:=sG T
  have e:(d.names x).isSome=false:=by
   cases k:(d.names x).isSome with
   |false=>rfl
   |true=>exact absurd (W.2 k) bK
  rw[e];exact(Any.slices_Contains_string_empty lays110 A c _ w).mono fun e Z k=>⟨k.1,k.2.symm⟩
 ·obtain⟨b,o,rfl,-⟩:=h.row.ls.at_ (i:=0) aj
  have Y:∀j,j<(l.map bP).length→w.cell? ⟨b,o+j,none⟩=some (.string ((l.map bP).getD j ByteArray.empty)):=fun j V=>by
   rw[fJ]at V;obtain⟨O,N,X,Y⟩:=h.row.ls.at_ (i:=j) aj;injection X with X
   injection X with R Q
   subst R Q;have:=Y 0 _ rfl;rw[show o+j*aaf.k+0=o+j by show o+j*1+0=_;omega]at this;rw[this,dG,gX,fP V];rfl
  have k:=Any.slices_Contains_string lays110 b o n c (l.map bP) (bP x) w (by rw[fJ];omega) (by have:=h.len;omega) Y;rw[wO (by rw[fJ];omega)]at k
  have e:Lib.containsS (l.map bP) (bP x)=(d.names x).isSome:=by
   rw[Bool.eq_iff_iff,Lib.containsS_iff,←W];constructor
   ·intro k
    obtain⟨y,U,e⟩:=FH.1 k
    have P:wV y=wV x:=by
     have:=bf (fun b:ByteArray=>b.data.toList) e;exact this
    rw[←EJ y (h.lt y U) x hx P];exact U
   ·exact fun k=>List.mem_map_of_mem k
  rw[e]at k;exact k.mono fun e Z k=>⟨k.1,k.2.symm⟩
theorem abU:∀{a b:List Int},dV a→dV b→(a.map fun n=>UInt8.ofNat n.toNat)=(b.map fun n=>UInt8.ofNat n.toNat)→a=b
 | [],[],_,_,_=>rfl
 | [],_::_,_,_,h=>by cases h
 |_::_,[],_,_,h=>by cases h
 |x::a,y::b,X,W,h=>by
  rw[oq,oq]at h;injection h with Z V
  have Z:=bf UInt8.toNat Z;rw[UInt8.toNat_ofNat',UInt8.toNat_ofNat']at Z;have U:=X x bK;have T:=W y bK;rw[abU (fun v Y=>X v (by simp[Y])) (fun v Y=>W v (by simp[Y])) V,show x=y by omega]
theorem WM(b:List Int):(strOf b).toList=b.map fun n=>UInt8.ofNat n.toNat:=by
 have h:∀(b:List Int) (r:ByteArray),(b.foldl (fun r n=>r.push (UInt8.ofNat n.toNat)) r).data.toList=r.data.toList++b.map fun n=>UInt8.ofNat n.toNat:=by
  intro b
  induction b with
  |nil=>intro r;simp
  |cons x b Z=>intro r;rw[List.foldl_cons,Z,show(r.push (UInt8.ofNat x.toNat)).data=r.data.push (UInt8.ofNat x.toNat)from rfl,Array.toList_push,oq,wQ];rfl
 rw[rP];unfold strOf;rw[h];rfl
theorem str_eq{a:List Int}(Z:dV a)(Y:dV b):((strOf a).toList==(strOf b).toList)=decide (a=b):=by
 rw[WM,WM]
 by_cases e:a=b
 ·subst e;simp
 ·rw[vH e,oO]
  exact fun k=>e (abU Z Y k)
section
variable{A B:Option Addr}{n m c d:Nat}{a b:List Int}
theorem akn(Z:dV a)(Y:dV b)(w:World)(h1:Lb w A n a)(h2:Lb w B m b):Calls prog 236 #[.slice A n c,.slice B m d] w fun e X=>e= .returned (.bool (decide (a=b)))∧w=X:=by
 have W:=UO (c:=c) w h1.rd;have V:=UO (c:=d) w h2.rd;rw[h1.len]at W;rw[h2.len]at V;rw[←str_eq Z Y];go_enter func236,ntmps236;go_wp2;go_ret;exact⟨rfl,rfl⟩
theorem UW(Z:dV a)(Y:dV b)(w:World)(h1:Lb w A n a)(h2:Lb w B m b):Calls prog 11 #[.slice A n c,.slice B m d] w fun e X=>e= .returned (.bool (decide (a=b)))∧w=X:=by
 have W:=UO (c:=c) w h1.rd;have V:=UO (c:=d) w h2.rd;rw[h1.len]at W;rw[h2.len]at V;rw[←str_eq Z Y];go_enter func11,ntmps11;go_wp2;go_ret;exact⟨rfl,rfl⟩
end
end
section
variable{w:aK}{K:Cn}{M:xW}{SD:Nat→Prop}{d:aI}{ts:List aX}{made:aO}{down:Bool}{oP:Option fG}{X:bI}
theorem MN.cfg(h:MN w K M SD d ts made down oP):w.cell? (aH M.fg 1)=some (aB K.qn)∧w.cell? (aH M.fg 2)=some (aB K.qx)∧w.cell? (aH M.fg 3)=some (aB K.re)∧w.cell? (aH M.fg 4)=some (aB K.cu)∧w.cell? (aH M.fg 5)=some (aB K.go)∧w.cell? (aH M.fg 6)=some (aB K.ra)∧w.cell? (aH M.fg 7)=some (aB K.ro)∧w.cell? (aH M.fg 8)=some (aB K.fi)∧w.cell? (aH M.fg 9)=some M.p0∧w.cell? (aH M.fg 10)=some M.p1∧w.cell? (aH M.fg 11)=some M.p2∧w.cell? (aH M.fg 12)=some M.p3∧w.cell? (aH M.fg 13)=some M.p4:=by
 have Z:=fun k (v:cO) (e:(fmA K M ts made down)[k]? =some v)=>show w.cell? (aH M.fg k)=some v by rw[h.box.cell];exact e
 exact⟨Z 1 _ rfl,Z 2 _ rfl,Z 3 _ rfl,Z 4 _ rfl,Z 5 _ rfl,Z 6 _ rfl,Z 7 _ rfl,Z 8 _ rfl,Z 9 _ rfl,Z 10 _ rfl,Z 11 _ rfl,Z 12 _ rfl,Z 13 _ rfl⟩
theorem abV(hx:x<36)(J:fZ d)(W:aZ d N)(I:dV b)(h:MN w K M SD d ts made down oP)(H:Lb w B m b):Calls prog 192 #[aY M.fg,.string (bP x),aG B m c] w (Val w (.bool (d.same x b))):=by
 have U:=ay (WL hx J W w h.disk);have y:=h.yG;have G:=ay (fun F (E:aP w F)=>H.keep E);have S:=(W.DZ (d.at_ x)).2.2;have R:dV (d.file x).data:=S;unfold aI.same;generalize(d.file x).data=L at*;generalize z:bP x=v at*
 by_cases V:d.CX x=0
 ·rw[su V,Bool.true_and]
  rw[V]at U;obtain⟨Q,P⟩:=aV I R;go_enter func192,ntmps192;go_upto_region 2 with(go_at_call 169;refine U.mono ?_;rintro e T ⟨Z,Y,-⟩;obtain⟨u,D,rfl,C⟩:=Y rfl)
  have A:=ay (akn (c:=D) (d:=c) P Q T C.lb (G T Z));go_wp2_with(go_at_call 236;refine A.aQ ?_;rintro t rfl);go_ret;exact⟨rfl,Z⟩
 ·rw[vH V,Bool.false_and]
  have O:=ay V;go_enter func192,ntmps192;go_upto_region 2 with(go_at_call 169;refine U.mono ?_;rintro e T ⟨Z,-,Y⟩;obtain rfl:=Y O;rw[pz O])
  go_wp2;go_ret;exact⟨rfl,Z⟩
theorem ags(I:Of K oP X)(hb:X.bad=0)(h:MN w K M SD d ts made down oP):Calls prog 194 #[BG M.fg] w (OH w X.out X.out):=by
 obtain⟨P,l,k,hM,-,-,J⟩:=I.plan hb;rw[J];obtain⟨HC,F,H⟩:=dB (fun V (T:aP w V)=>agb I.may k V ((h.keep T).plan P l)) (fun V Y A c (T:aP w V) hl=>SE (base:=Y) (A:=A) (c:=c) I.may k hM V ((h.keep T).plan P l) hl) (fun V (T:aP w V)=>(h.keep T).cfg);obtain⟨a1,a2,a3,a4,a5,a6,a7,a8,a9,E,D,B,z⟩:=h.cfg;obtain⟨b1,b2,G,b4,b5,b6,b7,b8,b9,y,x,v,u⟩:=(h.keep (aU _ _).drew).cfg;have U:=(aU w w).drew;unfold Cn.C at*;generalize rX ⟨K.qn,K.qx,K.re,K.cu,K.go,K.ra,K.ro,K.fi⟩ P=qa at*;generalize fF ⟨K.qn,K.qx,K.re,K.cu,K.go,K.ra,K.ro,K.fi⟩ P P.gs=qe at*;generalize P.gs=NG at*;go_enter func194,ntmps194;go_upto_region 1 with(fail)
 go_region_held3(fun W=>aN W M.fg 1 (aB K.qn)∧aN W M.fg 2 (aB K.qx)∧aN W M.fg 3 (aB K.re)∧aN W M.fg 4 (aB K.cu)∧aN W M.fg 5 (aB K.go)∧aN W M.fg 6 (aB K.ra)∧aN W M.fg 7 (aB K.ro)∧aN W M.fg 8 (aB K.fi)∧aN W M.fg 9 M.p0∧aN W M.fg 10 M.p1∧aN W M.fg 11 M.p2∧aN W M.fg 12 M.p3∧aN W M.fg 13 M.p4)
  (first|with_reducible exact⟨a1,a2,a3,a4,a5,a6,a7,a8,a9,E,D,B,z⟩|with_reducible exact⟨b1,b2,G,b4,b5,b6,b7,b8,b9,y,x,v,u⟩|with_reducible exact⟨j,i,g,f,b,a,v7,v8,v9,R,Q,O,N⟩|fail)
  (first
    |(go_at_call 237;refine(HC w.drew U).mono ?_;rintro e S ⟨Bq,bq,rfl,t,s⟩;have hk:=U.trans (s.mono U.size);obtain⟨j,i,g,f,b,a,v7,v8,v9,R,Q,O,N⟩:=H S hk)
    |fail)
 have Z:=hk.drew;obtain⟨d1,d2,d3,d4,d5,d6,d7,d8,d9,r,q,p,o⟩:=H S.drew Z;have n:=ay (t.keep (aU S S).drew);go_upto_region 4 with(fail)
 go_region_held3(fun W=>aN W M.fg 1 (aB K.qn)∧aN W M.fg 2 (aB K.qx)∧aN W M.fg 3 (aB K.re)∧aN W M.fg 4 (aB K.cu)∧aN W M.fg 5 (aB K.go)∧aN W M.fg 6 (aB K.ra)∧aN W M.fg 7 (aB K.ro)∧aN W M.fg 8 (aB K.fi)∧aN W M.fg 9 M.p0∧aN W M.fg 10 M.p1∧aN W M.fg 11 M.p2∧aN W M.fg 12 M.p3∧aN W M.fg 13 M.p4)
  (first|with_reducible exact⟨j,i,g,f,b,a,v7,v8,v9,R,Q,O,N⟩|with_reducible exact⟨d1,d2,d3,d4,d5,d6,d7,d8,d9,r,q,p,o⟩|with_reducible exact⟨u1,u2,u3,u4,u5,u6,u7,u8,u9,u10,u11,u12,u13⟩|fail)
  (first
    |(go_at_call 61;refine(F S.drew _ _ _ Z n).mono ?_;rintro e w3 ⟨B3,G,rfl,o3,m⟩;have L:=Z.trans (m.mono Z.size);obtain⟨u1,u2,u3,u4,u5,u6,u7,u8,u9,u10,u11,u12,u13⟩:=H w3 L)
    |fail)
 go_wp2;go_ret2;exact⟨B3,G,rfl,o3.lower Z.size,L⟩
end
section
variable{w:aK}{K:Cn}{M:xW}{SD:Nat→Prop}{d:aI}{f:bZ}{oP:Option fG}{jg mb N:Nat}{X:bI}
theorem adG(hO:Of K oP X)(hb:X.bad=0)(o:f.job.chunks=X.chunks)(hF:fZ d)(qh:aZ d N)(I:∀k,k<X.chunks→d.CX (iR k)=0∧(d.file (iR k)).data=X.pk k)(h:uw w K M jg mb SD d f oP):
  Calls prog 118 #[BG M.fg] w (OH w X.out X.out):=by
 obtain⟨P,hp,hP,hM,qi,qj,z⟩:=hO.plan hb;rw[z];have qk:=hO.ok.ch;have T:=hO.may;rw[qi]at I o qk;have l:=ay (En h.job);rw[o]at l;have zb:=h.xM;obtain⟨ql,HG,HD,qm⟩:=jH (fun R y A c (r:aP w R) hl=>SE (base:=y) (A:=A) (c:=c) T hP hM R ((h.keep r).base.plan P hp) hl) (fun R (r:aP w R)=>(h.keep r).base.cfg) (fun R (r:aP w R)=>(h.keep r).base.yG) (fun j (J:j<P.gs.length) R=>Wq (n:=j) aj R)
 have qo:=ay (fun j (J:j<P.gs.length) R (r:aP w R)=>show Calls prog 169 #[aY M.dg,.string (bP (iR j))] R (WJ R 0 (vF (kK K.C P j))) by
  have k:=WL (x:=iR j) (by unfold iR;omega) hF qh R (h.keep r).base.disk;rw[(I j J).1,(I j J).2,qj j J]at k;exact k)
 obtain⟨qq,qr⟩:=aV (fun j (J:j<P.gs.length)=>(tK (C:=K.C) T hP J).good) (fun j (J:j<P.gs.length)=>(WB (tK (C:=K.C) T hP J).good).2);have zc:=h.base.box.lt;clear I qj z h hp hM hb hO hF qh o qi;unfold Cn.C at*;obtain⟨m,hm⟩:=kF (P.gs.length);rw[←hm]at qk l ql qm qo qq qr;clear hm T hP;go_enter func118,ntmps118;go_wp2_with(go_at_call 72;refine l.aQ ?_;rintro w1 rfl)
 go_loopg [4,5,6,7,8,14] m (fun kk v4 v5 v6 v7 v8 qF wr=>∃(j:Nat) (B:dK) (b:Nat),j+kk=m∧qF=j∧v4=aG B j b∧OB wr w B j b (fF ⟨K.qn,K.qx,K.re,K.cu,K.go,K.ra,K.ro,K.fi⟩ P j)∧aP w wr)
 case atStart=>exact⟨0,none,0,aj,rfl,rfl,OB.nil _ _,aU _ _⟩
 case round=>
  obtain⟨j,B,b,J,rfl,rfl,H,V⟩:=hrel
  by_cases G:j<m
  ·have za:(j:Int)<(m:Int):=aj
   obtain⟨u,qG⟩:=aV V H;have Y:=V.drew;have a0:=HD wr V;have b0:=HD wr.drew Y;obtain⟨qs,g,qt⟩:=dB (qm j G wr.drew) (qo j G) (qq j G);have qu:=qr j G;clear V H;obtain⟨Z,a⟩:=kF (kK ⟨K.qn,K.qx,K.re,K.cu,K.go,K.ra,K.ro,K.fi⟩ P j);rw[←a]at g qt qu;obtain⟨LN,qa⟩:=kF ((vF Z).length);rw[←qa]at qu;obtain⟨qH,qD⟩:=aV qa a;obtain⟨s1,qv⟩:=kF (bP (iR j));rw[←qv]at qs g;clear qa a qv;go_upto_region 5 with(fail)
   go_region_held3(fun W=>aN W M.fg 0 (aY M.dg))
    (first|with_reducible exact a0|with_reducible exact b0|with_reducible exact v0|with_reducible exact u0|fail)
    (first
      |(go_at_call 169;refine(g w2 U).mono ?_;rintro e w3 ⟨Q,qw,-⟩;obtain⟨A3,c3,rfl,o3⟩:=qw rfl;rw[←qH]at o3 ⊢;have O:=U.trans (Q.mono U.size);have u0:=HD w3 O)
      |(go_at_call 117;refine qs.aQ ?_;rintro w2 F;have U:=Y.trans (F.mono Y.size);have v0:=HD w2 U)
      |fail)
   obtain⟨qI,qE,qy⟩:=dB (Parse_ok (c:=c3) qt aj o3.cap w3 o3.lb) O ((((aU wr wr).drew).trans F).trans (Q.mono (by have:=F.size;exact this)));clear o3 qw Q F U O v0 u0 a0 b0 Y;go_upto_region 9 with(go_at_call 170;refine qI.mono ?_;rintro e q ⟨B5,p,rfl,qz,qe⟩)
   obtain⟨W6,E⟩:=kF (q.alloc (aS (CQ Z.num Z.first Z.count B5 Z.count p) 192));have L:aP q W6:=by rw[E];exact aJ q _
   have X6:bF W6 q 192 (CQ Z.num Z.first Z.count B5 Z.count p):=by rw[E];exact bF.new q _ _
   change Code.wp _ _ _ _ (q.alloc _);rw[←E];clear E;have t:=qe.trans (L.mono qe.size);have qf:=qy.trans (t.mono qy.size);obtain⟨ms,m1,m2,m3⟩:=qG.keep qf;obtain⟨qJ,D⟩:=aV ((qz.keep L).lower qE.size) (u.trans (qf.mono u.size));obtain⟨q0,q1,q2,q3⟩:=X6.s4;change Hid _ at m1 m2 m3;clear qz qf qe L X6 t
   go_wp2_with(first
    |(at_builtin;refine BA ckR (v:=⟨Z.num,Z.first,Z.count,B5,Z.count,p⟩) rfl _ _ rfl rfl (m1.alloc _) rfl (lV _ _) (by show(_+1)*48≤_;omega) (by have:=D.size;simp;omega) aj ?_;intro B7 b7 w7 o7 qK qg qL)
    |fail)
   have qA:dX ckR (W6.alloc (aS (CQ Z.num Z.first Z.count B5 Z.count p) 192)) w B j b ms:=m1.alloc _
   have qB:OB w7 w B7 (j+1) b7 (fF ⟨K.qn,K.qx,K.re,K.cu,K.go,K.ra,K.ro,K.fi⟩ P j++ [Z]):=
    aex qA m2 (fun i hi=>(m3 i hi).dH (bQ.of_below (S:=fun _=>False) (aJ W6 _)) (fun _ h=>h.elim)) ⟨rfl,rfl,rfl,qJ.keep (aJ W6 _)⟩ o7 qg
   have s:=eH (D.alloc D.size (aS (CQ Z.num Z.first Z.count B5 Z.count p) 192)) qg (by have:=D.size;simp;omega) (fun i hi=>(m1.dN hi).1);have qM:Hid (fF ⟨K.qn,K.qx,K.re,K.cu,K.go,K.ra,K.ro,K.fi⟩ P (j+1)=fF ⟨K.qn,K.qx,K.re,K.cu,K.go,K.ra,K.ro,K.fi⟩ P j++ [Z]):=ay (by rw[qD];unfold fF;rw[jk,gG];rfl);change Hid _ at s qB;clear qA o7 qK qg qL q0 q1 q2 q3;go_roundg(gk-1)
   case measure=>omega
   case rel=>exact⟨j+1,B7,b7,aj,fA,rfl,by rw[qM];exact qB,s⟩
  ·obtain rfl:j=m:=aj
   have Y:=V.drew;have qN:=ay (H.keep (aU wr wr).drew);obtain⟨a1,a2,a3,a4,a5,a6,a7,a8,a9,qO,qP,qQ,qR⟩:=HG wr V;obtain⟨b1,b2,b3,b4,p,b6,b7,b8,b9,qS,qT,qU,qV⟩:=HG wr.drew Y;clear H;go_upto_region 13 with(fail)
   go_region_held3(fun W=>aN W M.fg 1 (aB K.qn)∧aN W M.fg 2 (aB K.qx)∧aN W M.fg 3 (aB K.re)∧aN W M.fg 4 (aB K.cu)∧aN W M.fg 5 (aB K.go)∧aN W M.fg 6 (aB K.ra)∧aN W M.fg 7 (aB K.ro)∧aN W M.fg 8 (aB K.fi)∧aN W M.fg 9 M.p0∧aN W M.fg 10 M.p1∧aN W M.fg 11 M.p2∧aN W M.fg 12 M.p3∧aN W M.fg 13 M.p4)
    (first|with_reducible exact⟨a1,a2,a3,a4,a5,a6,a7,a8,a9,qO,qP,qQ,qR⟩|with_reducible exact⟨b1,b2,b3,b4,p,b6,b7,b8,b9,qS,qT,qU,qV⟩|with_reducible exact⟨v1,v2,v3,v4,v5,v6,v7,v8,v9,qW,qX,qY,qZ⟩|fail)
    (first
      |(go_at_call 61;refine(ql wr.drew _ _ _ Y qN).mono ?_;rintro e w3 ⟨B3,b3,rfl,o3,Q⟩;have qC:=Y.trans (Q.mono Y.size);obtain⟨v1,v2,v3,v4,v5,v6,v7,v8,v9,qW,qX,qY,qZ⟩:=HG w3 qC)
      |fail)
   go_wp2_with fail;go_ret2;exact⟨B3,b3,rfl,o3.lower Y.size,qC⟩
end
abbrev ckZ:Obj:=.cells #[aB 0,aB 0,aB 0,bU] 192
theorem al4(X:bF w g t cs)(Y:cs.size=4)(a b c d:cO):bF ((((w.setCell ⟨g,0,none⟩ a).setCell ⟨g,1,none⟩ b).setCell ⟨g,2,none⟩ c).setCell ⟨g,3,none⟩ d) g t #[a,b,c,d]:=by
 have Z:=(((X.store 0 a).store 1 b).store 2 c).store 3 d
 have e:(((cs.setIfInBounds 0 a).setIfInBounds 1 b).setIfInBounds 2 c).setIfInBounds 3 d=#[a,b,c,d]:=by
  rcases cs with⟨l⟩
  match l,Y with
  | [_,_,_,_],_=>rfl
 rw[←e];exact Z
theorem ako(w:aK)(g:Nat)(a b c d:cO):bQ (fun t=>t=g) w ((((w.setCell ⟨g,0,none⟩ a).setCell ⟨g,1,none⟩ b).setCell ⟨g,2,none⟩ c).setCell ⟨g,3,none⟩ d):=
 ((((bQ.refl (fun t=>t=g) w).setCell (fun _=>rfl) a).setCell (fun _=>rfl) b).setCell (fun _=>rfl) c).setCell (fun _=>rfl) d
section
variable{w:aK}{K:Cn}{M:xW}{SD:Nat→Prop}{d:aI}{f:bZ}{oP:Option fG}{jg mb:Nat}{ts:List aX}{made:aO}{down:Bool}
theorem aeF{P:fG}(v:oP=some P)(T:jo K.qn K.qx K.re K.cu K.go K.ra K.ro K.fi=true)(z:P.ok)(hi:i<P.gs)(h:MN w K M SD d ts made down oP):
  Calls prog 119 #[BG M.fg,aB i] w (OH w (vF (kK K.C P i)) (vF (kK K.C P i))):=by
 have N:=ay (fun S (O:aP w S)=>af9 T z hi S ((h.keep O).plan P v));obtain⟨a1,a2,a3,a4,a5,a6,a7,a8,a9,j,qa,qe,qf⟩:=h.cfg;obtain⟨u,F⟩:=aV (tK (C:=K.C) T z hi) (fun S (O:aP w S)=>(h.keep O).cfg);go_enter func119,ntmps119;go_upto_region 1 with(fail)
 have Y:=aJ w ckZ;have L:=Y.drew;have s:=ay (show bF (w.alloc (aS #[aB 0,aB 0,aB 0,bU] 192)).drew w 192 #[aB 0,aB 0,aB 0,bU]from bF.new w _ _);have J:=(aU w w).drew;go_cut [6,7] (fun r q I=>∃g B b,r= BG g∧q=iI∧bF I g 192 (CQ i (P.g i).1 (P.g i).2 B (P.g i).2 b)∧ML I w B (P.g i).2 b (kK K.C P i).CP∧aP w I)
 case first=>
  go_region_held3(fun W=>aN W M.fg 1 (aB K.qn)∧aN W M.fg 2 (aB K.qx)∧aN W M.fg 3 (aB K.re)∧aN W M.fg 4 (aB K.cu)∧aN W M.fg 5 (aB K.go)∧aN W M.fg 6 (aB K.ra)∧aN W M.fg 7 (aB K.ro)∧aN W M.fg 8 (aB K.fi)∧aN W M.fg 9 M.p0∧aN W M.fg 10 M.p1∧aN W M.fg 11 M.p2∧aN W M.fg 12 M.p3∧aN W M.fg 13 M.p4)
   ((refine F _ ?_;first|with_reducible exact y _ _ _ _|with_reducible exact R|with_reducible exact J|with_reducible exact L|with_reducible exact(R.alloc R.size _)|with_reducible exact aU _ _))
   (first
     |(go_at_call 171;refine(N w.drew (aU _ _).drew).mono ?_;rintro e U ⟨H,b2,rfl,Z,V⟩;have R:aP w U:=((aU _ _).drew).trans V;have x:=Z.keep (aJ U ckZ))
     |(go_at_call 171;refine(N (w.alloc ckZ).drew Y.drew).mono ?_;rintro e U ⟨H,b2,rfl,Z,V⟩;have R:aP w U:=(Y.drew).trans (V.mono Y.drew.size);have Q:=(s).keep V;obtain⟨y0,y1,y2,y3⟩:=Gh Q;have g0:=Q.frozen 0;have g1:=Q.frozen 1;have g2:=Q.frozen 2;have g3:=Q.frozen 3;have y:=fun a b c d=>(((R.setCell (p:=⟨w,0,none⟩) (bC _) a).setCell (p:=⟨w,1,none⟩) (bC _) b).setCell (p:=⟨w,2,none⟩) (bC _) c).setCell (p:=⟨w,3,none⟩) (bC _) d)
     |fail)
  all_goals(go_wp2;go_meet)
  ·exact⟨U,H,b2,rfl,rfl,bF.new U _ _,(Z.keep (aJ U _)).lower (bC _),R.alloc R.size _⟩
  ·exact⟨w,H,b2,rfl,rfl,al4 Q rfl _ _ _ _,(Z.dH (ako U w _ _ _ _) (fun t o=>.inl (by subst o;show w.heap.size<(w.alloc ckZ);simp))).lower Y.size,y _ _ _ _⟩
 case rest=>
  obtain⟨g,B,b,rfl,rfl,X,Z,n⟩:=hcut;have E:=ay (fun S (O:ML S w B (P.g i).2 b (kK K.C P i).CP)=>ahW u.good S O);obtain⟨x0,x1,x2,x3⟩:=Gh X;obtain⟨D,G⟩:=aV (E _ Z) n;go_wp2_with(go_at_call 172;refine D.mono ?_;rintro e w3 ⟨m,l,rfl,k,A⟩);go_ret2;exact⟨m,l,rfl,k.lower G.size,G.trans (A.mono G.size)⟩
end
section
variable{w:aK}{K:Cn}{M:xW}{SD:Nat→Prop}{X:bI}{d:aI}{f:bZ}{oP:Option fG}{jg mb i tb N tn ch:Nat}{th:Bool}{td:aO}
theorem abW(W:f.job.chunks=ch)(h:uw w K M jg mb SD d f oP)(q:Nat):Calls prog 72 #[aY jg] (w.drewN q) fun e Z=>e=bM ch∧∃m,Z=w.drewN m:=by
 have:=En (h.job.keep (jM (aU _ _) q));rw[W]at this;exact this.mono fun e Z Y=>⟨Y.1,q,Y.2.symm⟩
theorem aiK(Y:Js K M oP X d f i tb N ⟨th,X.chunks,0,td⟩)(R:∀k,k<X.chunks→d.CX (iR k)=0∧(d.file (iR k)).data=X.pk k)(h:uw w K M jg mb SD d f oP):
  Calls prog 75 #[aY M.fg,aY (some (aH tb (i*4)))] w (xG w K M jg mb SD oP f i ⟨th,X.chunks,0,td⟩ (eG X d f ⟨th,X.chunks,0,td⟩)):=by
 obtain⟨A,z,y,x,v⟩:=h.Dt Y;have D:=h.xM;obtain⟨I,Q,P,O,T⟩:=rG (fun q=>abW Y.ch h q) (fun W (U:aP w W)=>adG Y.of Y.bad Y.ch Y.lt Y.fit R (h.keep U)) (fun W (U:aP w W)=>(h.keep U).Oy Y (i*4+3)) (fun W (U:aP w W)=>((h.keep U).Dt Y).2.2.2.1) (fun W B b (U:aP w W) o=>kD.data (w':=W) (B:=B) (b:=b) (l:=X.out) h Y U o);unfold eG bI.file;rw[aF rfl,aF rfl];generalize X.chunks=ch at*;generalize X=C at*;go_enter func75,ntmps75;go_upto_region 2 with(fail)
 go_quiet((go_at_call 72;exact I _))
 revert nq
 intro H;have V:=jM (aU w w) H;have L:=ay (Q _ V);go_wp2_with(go_at_call 118;refine L.mono ?_;rintro e S ⟨G,F,rfl,E,J⟩;have Z:=V.trans (J.mono V.size);have u:=P S Z;have t:=O S Z);go_ret;exact⟨rfl,T S G F Z (E.lower V.size)⟩
theorem aiL(V:Js K M oP X d f i tb N ⟨th,tn,0,td⟩)(hn:tn<X.chunks)(s:f.made.length≤900000)(h:uw w K M jg mb SD d f oP):
  Calls prog 75 #[aY M.fg,aY (some (aH tb (i*4)))] w (xG w K M jg mb SD oP f i ⟨th,tn,0,td⟩ (eG X d f ⟨th,tn,0,td⟩)):=by
 obtain⟨t0,t1,t2,t3,t⟩:=h.Dt V;have r:=h.xM;have HC:=ay (fun q=>abW V.ch h q);obtain⟨P,hp,hP,hM,p,E,-⟩:=V.of.plan V.bad
 have n:=ay (fun Y (T:aP w Y)=>show Calls prog 119 #[aY M.fg,tn] Y (OH Y (X.pk tn) (X.pk tn)) by
  rw[E tn aj];exact aeF hp V.of.may hP aj (h.keep T).base)
 obtain⟨m,j,Q,g,D,HA⟩:=MP (fun Y (T:aP w Y)=>(h.keep T).Oy V (i*4+3)) (fun Y B b (T:aP w Y) o=>uw.data (w':=Y) (B:=B) (b:=b) (l:=X.pk tn) h V T o) (fun Y J A a B b (T:aP w Y) o ho hc hB=>kD.made (w':=Y) (w4:=J) (A:=A) (B:=B) (a:=a) (b:=b) (l:=X.pk tn) (made':=f.made++ [(tn:Int)]) h V T o ho hc hB) (fun Y (T:aP w Y)=>((h.keep T).Dt V).2.2.2.1) (fun Y (T:aP w Y)=>((h.keep T).Dt V).2.1) V.hA;have O:(f.made++ [(tn:Int)]).length=f.made+1:=bK
 rw[O]at Q;unfold eG bI.file;have e2:((tn:Int)==(X.chunks:Int))=false:=by rw[oO];omega
 have e3:¬(tn:Int)=(X.chunks:Int):=aj
 rw[au (show¬tn=X.chunks by omega),au (show¬tn=X.chunks by omega)];have qj:f.made.length≤900000:=s;generalize X.chunks=ch at*;generalize X.pk tn=L at*;clear t0 t2 t3 t V hn E hM hP p hp O;have ql:=h.base.box.lt;change Hid _ at h;go_enter func75,ntmps75;go_upto_region 2 with(fail)
 go_quiet((go_at_call 72;exact HC _))
 revert nq
 intro na;have S:=jM (aU w w) na;have c:=ay (n _ S);have qa:=D _ S;go_upto_region 7 with(go_at_call 119;refine c.mono ?_;rintro e R ⟨I,H,rfl,o3,C⟩;have Z:=S.trans (C.mono S.size);have z3:=m R Z;have y3:=g R Z)
 obtain⟨z,qk⟩:=aV (o3.lower S.size) Z;obtain⟨U,W⟩:=kF (R.setCell ⟨tb,i*4+3,none⟩ (aG I L H));change Code.wp _ _ _ _ (R.setCell ⟨tb,i*4+3,none⟩ (aG I L H));rw[←W];have G:=j R I H Z z;rw[←W]at G;have qe:=ay W;have qf:Hid (U.heap.size=R):=ay (by rw[W];simp);have F:=G.base.box;have y:=F.c16;have qm:=F.frozen 16
 have y1:aN U tb (i*4+1) (aB tn):=by
  rw[W];exact J8 (D R Z) (by intro e;injection e with _ e;omega)
 obtain⟨HO,qg⟩:=aV (show dX Ib U 0 M.B f.made M.b f.made from G.base.made) F;have qh:=uq G.base.made F bn;have qo:∀o,aN (U.alloc o) M.fg 16 (aG M.B f.made M.b):=fun o=>aC y (aJ U o)
 have qq:∀o,aN ((U.alloc o).drew) M.fg 16 (aG M.B f.made M.b):=fun o=>aC y (aJ U o).drew
 have l1:∀o,aN (U.alloc o) tb (i*4+1) (aB tn):=fun o=>aC y1 (aJ U o)
 have m1:∀o,aN ((U.alloc o).drew) tb (i*4+1) (aB tn):=fun o=>aC y1 (aJ U o).drew
 clear G F t1 qa z3 y3 o3 W r C
 go_region_law(first|(refine RX Ib (v:=(tn:Int)) kE (.tmp 43) (.tmp 48) kE kE ((HO.alloc _).drew) kE (lV _ _) (by show(_+1)*8≤_;omega) bK aj ?_;intro B1 b1 J o1 qr x u;have X4:=((qg.alloc (aS #[tn] 3)).drew).dH x qh;have f4:=X4.frozen 16;have d4:aN J M.fg 16 (aG M.B f.made M.b):=(X4.at rfl))|fail)
 all_goals(
  go_wp2;go_ret;refine⟨rfl,?_⟩;have qi:bQ (In M.B) (R.setCell ⟨tb,i*4+3,none⟩ (aG I L H)) J:=by rw[←qe];exact(((bQ.refl (In M.B) U).alloc (aS #[tn] 3)).drew).trans x
  exact Q R J I H B1 b1 Z z o1 qi (fun k t=>(u k t).imp id (fun e=>by have:=qf.out;simp at e;omega)))
end
end Go.Proofs.YtiaeohgghaaciaaGreatDoor
