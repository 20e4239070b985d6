import Derived.RegionTactic
import Derived.Test.YtiaeohgghaaciaaGreatDoorB13
namespace Go.Proofs.YtiaeohgghaaciaaGreatDoor
open Go Go.Maps Go.RowKit Go.Extern.Stop Go.Stop Go.Extern Go.Proofs.Tryz
set_option linter.all false
set_option maxRecDepth 100000
set_option maxHeartbeats 4000000
variable{b s:List Int}{base c cap g hi i j k lo m n:Nat}{S:Nat→Prop}{A:Option Addr}{V a' v:Value}{u w w' w1 wr:World}
theorem ady{l:List jL}(hn:n≤1000)(p:∀i,i<n→(l.getD i ⟨0,[]⟩).b.length≤1000000)(w:aK)(F:ML w base A n c l):
  Calls prog 155 #[aG A n c] w fun e J=>∃B b,e=bM (aG B n b)∧Own J w B n b (l.map (fun W=>(W.b.length:Int)+8))∧aP w J:=by
 obtain⟨a,P⟩:=aV (fun J (h:aP w J)=>F.keep h) F.len;change Hid _ at p;clear F;go_enter func155,ntmps155;go_wp2
 go_loopg [3,8] n (fun k v3 v8 wr=>∃(j:Nat) (B:dK) (b:Nat),j+k=n∧v8=j∧v3=aG B j b∧dX Ib wr w B j b ((l.map (fun W=>(W.b.length:Int)+8)).take j)∧aP w wr)
 case atStart=>exact⟨0,none,0,aj,rfl,rfl,dX.nil _ _,aU _ _⟩
 case round=>
  obtain⟨j,B,b,hj,rfl,rfl,own,Z⟩:=hrel;have m:=ay own;change Hid _ at Z;clear own
  by_cases V:j<n
  ·have d:(j:Int)<(n:Int):=aj
   obtain⟨q,o,I,Y,H,rfl,c0,c1,g⟩:=(a _ Z).at_ V;have X:=g.len;have D:=p j V;have U:j<l:=by rw[P];exact V
   have O:(l.map (fun W:jL=>(W.b.length:Int)+8)).take j++ [(Y:Int)+8]=(l.map (fun W=>(W.b.length:Int)+8)).take (j+1):=by
    rw[BH (by simpa using U),uN,←X,dG,fP U];rfl
   generalize(l.getD j ⟨0,[]⟩).k=G at*;have T:=aJ wr (aS #[G,aG I Y H] 257);obtain⟨x0,x1⟩:=EG (bF.new wr 257 #[G,aG I Y H]);obtain⟨C,N,z⟩:=dB (abe (k:=G) (n:=Y) (c:=H) (A:=I) aj (wr.alloc (aS #[G,aG I Y H] 257))) (Z.trans (T.mono Z.size)) (m.keep T);change Hid _ at O;clear X D U T g;go_wp2_with fail;refine C.aQ ?_;rintro E S;have R:=ay (N.trans (S.mono N.size));have Q:=aJ E (aS #[aB ((Y:Int)+8)] 3);have y:=ay ((z.keep S).keep Q);have M:=bF.new E 3 #[aB ((Y:Int)+8)];have L:w.heap.size≤(E.alloc (aS #[aB ((Y:Int)+8)] 3)):=by have:=R.size;simp;omega
   have x:=ay (R.trans (Q.mono R.size));change Hid _ at M L;clear S Q c0 c1 x0 x1;go_wp2_with(at_builtin;refine BA Ib (v:=(Y:Int)+8) rfl _ _ rfl rfl y rfl M (by show(_+1)*8≤_;omega) L aj ?_;intro B7 b7 w7 f K u t);have s:=ay (x.trans K);change Hid _ at f;clear K u t;go_wp2;go_roundg(gk-1)
   case measure=>omega
   case rel=>exact⟨j+1,B7,b7,aj,fA,rfl,by rw[←O];exact f,s⟩
  ·obtain rfl:j=n:=aj
   have own:=m.out;rw[wO (by simp[P.out])]at own;have r:=ay own.own;clear own;go_wp2;go_ret;exact⟨B,b,rfl,r,Z⟩
theorem alq{k:Int}{p:cO}(most:Int)(w:aK)(h:¬(0≤k∧k≤15)):
  Calls prog 111 #[p,k,most] w fun e U=>e=bM (eP #[aB 0,.agg #[aB 3,bU]])∧Below w w U:=by
 by_cases S:k<0
 ·clear h
  go_enter func111,ntmps111;go_wp2_with fail;refine(Jh _ _).aQ ?_;rintro T Z;obtain⟨Y,X,W,V⟩:=Kq ((bF.new w 79 #[aB 0,bU]).keep Z);go_wp2;refine aT (v:=eP #[aB 0,.agg #[aB 3,bU]]) (by simp[results,results111,go_sem,Y,X]) rfl ⟨rfl,?_⟩;exact((((aU _ _).alloc (bC _) _).trans (Z.mono bK)).setCell bK _).setCell bK _
 ·have R:15<k:=aj
  go_enter func111,ntmps111;go_wp2_with fail;refine(Jh _ _).aQ ?_;rintro T Z;obtain⟨Y,X,W,V⟩:=Kq ((bF.new w 79 #[aB 0,bU]).keep Z);go_wp2;refine aT (v:=eP #[aB 0,.agg #[aB 3,bU]]) (by simp[results,results111,go_sem,Y,X]) rfl ⟨rfl,?_⟩;exact((((aU _ _).alloc (bC _) _).trans (Z.mono bK)).setCell bK _).setCell bK _
theorem aat{p:Nat}(most:Int)(hk:k≤15)(hb:b.length≤1000000000)(w:aK)(u:hi≤w)(h:yB 145 lo hi w g b p):
  Calls prog 111 #[aY g,k,most] w (alp lo hi w g b (Co.xJ b (8*b.length) p k most)):=by
 have t:=h.lt;have z:=bF.new w 79 #[aB 0,bU];have qj:Below w w (w.alloc (aS #[aB 0,bU] 79)):=(aU _ _).alloc (bC _) _;have H:Hid (uj 145 lo hi w g b p (w.alloc (aS #[aB 0,bU] 79))):=⟨h.keep qj,bQ.of_below qj⟩;have qs:=ay z;clear h z qj;have qv:0≤(k:Int):=aj
 have qw:(k:Int)≤15:=aj
 obtain⟨qy,qz⟩:=ahK (n:=k) aj
 have qA:(2:Int)^k≤32768:=by
  have:(2:Int)^k≤2^15:=Co.JZ hk;have e:(2:Int)^15=32768:=bn
  omega
 obtain⟨R,hR⟩:∃R,Co.xJ b (8*b.length) p k most=R:=⟨_,rfl⟩;rw[hR];change Hid _ at hR;obtain⟨Z,hZ⟩:∃Z,Co.ones b (8*b.length) p 24 0=Z:=⟨_,rfl⟩;change Hid _ at hZ;go_enter func111,ntmps111;go_wp2
 go_loopg [8] 24 (fun m vn wr=>∃n:Nat,n+m=24∧vn=n∧Hid (Co.ones b (8*b.length) p m n=Z)∧uj 145 lo hi w g b (p+n) wr∧Hid (bF wr w 79 #[aB 0,bU]))
 case atStart=>exact⟨0,aj,rfl,hZ,H,qs⟩
 case round=>
  obtain⟨n,hn,rfl,HZ,qi,HB⟩:=hrel;have HO:=ay qi;have qB:=HB.lt;have qo:hi≤wr:=aj
  clear qi;cases gk with
  |zero=>
   obtain rfl:n=24:=aj
   have z:=HZ.out;simp only[Co.ones]at z;have hr:=hR.out;rw[Le (hZ.trans z.symm),ahL]at hr;clear z hR HZ;go_wp2_with fail;rcases(aj:8*b.length<p+24+31∨p+24+31≤8*b.length)with hs|hs
   ·have Q:=hr
    rw[aF hs]at Q;subst Q;refine(Ld (n:=31) hb aj hs _ HO.1).mono ?_;rintro e J ⟨A,T,rfl,s,G,F⟩;obtain⟨W4,E⟩:∃W,W=(J.alloc (aS #[aB 1,aG A 1 T] 79)).alloc (aS #[aB 1,aG A 1 T] 79):=⟨_,rfl⟩;have U:=F.alloc F.size (aS #[aB 1,aG A 1 T] 79);have O:Below wr wr W4:=by rw[E];exact U.alloc U.size _
    have V:=(s.alloc (aS #[aB 1,aG A 1 T] 79)).alloc (aS #[aB 1,aG A 1 T] 79);rw[←E]at V;obtain⟨I,qa⟩:=aV V (HO.below O);obtain⟨d0,d1,f0,f1⟩:=og (HB.keep O);obtain⟨c0,c1,_,_⟩:=og (show bF W4 J 79 #[aB 1,aG A 1 T] by rw[E];exact(bF.new _ _ _).alloc _);have Y:∀a,A=some a→w.heap.size+1≤a.block:=fun a X=>by have:=G a X;omega
    have P:=ay Y;go_wp2_with fail;refine(EW 1 _ _).aQ ?_;rintro w' rfl;rw[←E];clear E s V G Y F O U;go_wp2_with fail
    go_region
    all_goals(
     go_wp2_with fail;refine aT (v:=eP #[aB 0,.agg #[aB 1,aG A 1 T]]) (by simp[results,results111,go_sem,d0,d1]) rfl ?_;exact⟨A,T,rfl,(I.far (fun a X=>by have:=P a X;simp;omega) _).far (fun a X=>by have:=P a X;simp;omega) _,fun a X=>by have:=P a X;omega,(qa.LX u t _ _).drew⟩)
   ·have Q:=hr
    rw[au aj]at Q;have qg:=Bi.IW b (p+24) 31;refine(QL (n:=31) hb aj hs _ qo HO.1).mono ?_;obtain⟨N,hN⟩:∃N,Bi.num b (p+24) 31=N:=⟨_,rfl⟩;rw[hN]at qg Q ⊢;change Hid _ at Q;clear hN;rintro e J ⟨rfl,L⟩;obtain⟨W5,y⟩:∃W,W=(J.alloc (aS #[aB 0,bU] 79)).alloc (aS #[aB 0,bU] 79):=⟨_,rfl⟩;have U:Below J J W5:=by rw[y];exact((aU _ _).alloc (bC _) _).alloc bK _
    obtain⟨D,C⟩:=aV ((HO.then_ L).below U) ((HB.dH L.2 aj).keep U);have f:bF W5 J 79 #[aB 0,bU]:=by rw[y];exact(bF.new _ _ _).alloc _
    have H6:=ay f;go_wp2_with fail;refine(EW 0 _ _).aQ ?_;rintro w' rfl;rw[←y];clear y U L f;obtain⟨d0,d1,f0,f1⟩:=og C;obtain⟨c0,c1,_,_⟩:=og H6;have qC:0≤N/2^k:=kJ qg.1 aj
    by_cases h1:N>most
    ·skip
     have V:=Q.out;rw[aF (.inl h1)]at V;subst V;have q:=D.place;go_wp2_with fail;refine(DK RU _ (c:=3) aj _).mono ?_;rintro e w5 ⟨r,d,rfl,B,S,K⟩;obtain⟨o,l,qk,ql⟩:=og (C.keep K);have qm:=C.lt;have Y:∀a,r=some a→w.heap.size+1≤a.block:=fun a X=>by have:=S a X;omega
     obtain⟨P,I,j⟩:=dB Y B (D.below K);clear B S K Y q;go_wp2_with fail;refine aT (v:=eP #[aB 0,.agg #[aB 3,aG r 1 d]]) (by simp[results,results111,go_sem,o,l]) rfl ?_;exact⟨r,d,rfl,(I.far (fun a X=>by have:=P a X;simp;omega) _).far (fun a X=>by have:=P a X;simp;omega) _,fun a X=>by have:=P a X;omega,j.LX u t _ _⟩
    ·by_cases h2:N>1073741824
     ·skip
      have V:=Q.out;rw[aF (.inr (.inl h2))]at V;subst V;have q:=D.place;go_wp2_with fail;refine(DK RU _ (c:=3) aj _).mono ?_;rintro e w5 ⟨r,d,rfl,B,S,K⟩;obtain⟨o,l,qk,ql⟩:=og (C.keep K);have qm:=C.lt;have Y:∀a,r=some a→w.heap.size+1≤a.block:=fun a X=>by have:=S a X;omega
      obtain⟨P,I,j⟩:=dB Y B (D.below K);clear B S K Y q;go_wp2_with fail;refine aT (v:=eP #[aB 0,.agg #[aB 3,aG r 1 d]]) (by simp[results,results111,go_sem,o,l]) rfl ?_;exact⟨r,d,rfl,(I.far (fun a X=>by have:=P a X;simp;omega) _).far (fun a X=>by have:=P a X;simp;omega) _,fun a X=>by have:=P a X;omega,j.LX u t _ _⟩
     ·by_cases h3:N/2^k<24
      ·skip
       have V:=Q.out;rw[aF (.inr (.inr h3))]at V;subst V;have q:=D.place;go_wp2_with fail;refine(DK RU _ (c:=3) aj _).mono ?_;rintro e w5 ⟨r,d,rfl,B,S,K⟩;obtain⟨o,l,qk,ql⟩:=og (C.keep K);have qm:=C.lt;have Y:∀a,r=some a→w.heap.size+1≤a.block:=fun a X=>by have:=S a X;omega
       obtain⟨P,I,j⟩:=dB Y B (D.below K);clear B S K Y q;go_wp2_with fail;refine aT (v:=eP #[aB 0,.agg #[aB 3,aG r 1 d]]) (by simp[results,results111,go_sem,o,l]) rfl ?_;exact⟨r,d,rfl,(I.far (fun a X=>by have:=P a X;simp;omega) _).far (fun a X=>by have:=P a X;simp;omega) _,fun a X=>by have:=P a X;omega,j.LX u t _ _⟩
      ·skip
       have V:=Q.out;rw[au (fun h=>by rcases h with h|h|h<;>omega)]at V;subst V;go_wp2_with fail
       go_region
       all_goals(
        go_wp2_with fail;refine aT (v:=eP #[N,.agg #[aB 0,bU]]) (by simp[results,results111,go_sem,d0,d1]) rfl ?_;exact⟨none,0,rfl,Rd.nil,(fun a X=>by cases X),(D.LX u t _ _).drew⟩)
  |succ m=>
   rcases(aj:8*b.length≤p+n∨(p+n<8*b.length))with hT|hT
   ·have z:=HZ.out
    simp only[Co.ones]at z;rw[aF hT]at z;have hr:=hR.out;rw[OQ (hZ.trans z.symm)]at hr;subst hr;clear z hR HZ;go_wp2_with fail;refine(Ld (n:=1) hb aj aj _ HO.1).mono ?_;rintro e J ⟨A,T,rfl,s,G,F⟩;obtain⟨W2,qe⟩:∃W,W=(J.alloc (aS #[aB 1,aG A 1 T] 79)).alloc (aS #[aB 1,aG A 1 T] 79):=⟨_,rfl⟩;have U:=F.alloc F.size (aS #[aB 1,aG A 1 T] 79);have O:Below wr wr W2:=by rw[qe];exact U.alloc U.size _
    have V:=(s.alloc (aS #[aB 1,aG A 1 T] 79)).alloc (aS #[aB 1,aG A 1 T] 79);rw[←qe]at V;obtain⟨I,qa⟩:=aV V (HO.below O);obtain⟨d0,d1,f0,f1⟩:=og (HB.keep O);obtain⟨c0,c1,_,_⟩:=og (show bF W2 J 79 #[aB 1,aG A 1 T] by rw[qe];exact(bF.new _ _ _).alloc _);have Y:∀a,A=some a→w.heap.size+1≤a.block:=fun a X=>by have:=G a X;omega
    have P:=ay Y;go_wp2_with fail;refine(EW 1 _ _).aQ ?_;rintro w' rfl;rw[←qe];clear qe s V G Y F O U;go_wp2_with fail
    go_region
    all_goals(
     go_wp2_with fail;refine aT (v:=eP #[aB 0,.agg #[aB 1,aG A 1 T]]) (by simp[results,results111,go_sem,d0,d1]) rfl ?_;exact⟨A,T,rfl,(I.far (fun a X=>by have:=P a X;simp;omega) _).far (fun a X=>by have:=P a X;simp;omega) _,fun a X=>by have:=P a X;omega,(qa.LX u t _ _).drew⟩)
   ·have P:=ay (QL (n:=1) hb aj aj _ qo HO.1)
    rw[UN]at P;have O:=Bi.Pj b (p+n);obtain⟨x,hx⟩:∃x,Bi.bit b (p+n)=x:=⟨_,rfl⟩;rw[hx]at P O;have z:=HZ.out;simp only[Co.ones]at z;rw[au aj,hx]at z;clear hx HZ;rcases(aj:x=1∨x=0)with rfl|rfl
    ·rw[au aj]at z
     have HZ:=ay z;clear z O;go_wp2_with fail;refine P.aQ ?_;rintro J L;obtain⟨W2,y⟩:∃W,W=(J.alloc (aS #[aB 0,bU] 79)).alloc (aS #[aB 0,bU] 79):=⟨_,rfl⟩;have U:Below J J W2:=by rw[y];exact((aU _ _).alloc (bC _) _).alloc bK _
     obtain⟨i,qf⟩:=aV ((HO.then_ L).below U) ((HB.dH L.2 aj).keep U);have f:bF W2 J 79 #[aB 0,bU]:=by rw[y];exact(bF.new _ _ _).alloc _
     have H6:=ay f;go_wp2_with fail;refine(EW 0 _ _).aQ ?_;rintro w' rfl;rw[←y];clear y U L f;go_wp2_with fail;go_roundg m
     case measure=>omega
     case rel=>exact⟨n+1,aj,fA,HZ,i,qf⟩
    ·rw[aF rfl]at z
     have qr:n<24:=aj
     have hr:=hR.out;rw[Le (hZ.trans z.symm),ahM qr]at hr;have qq:=ay hr;clear O hr z hR;go_wp2_with fail;refine P.aQ ?_;rintro J L;obtain⟨W2,y⟩:∃W,W=(J.alloc (aS #[aB 0,bU] 79)).alloc (aS #[aB 0,bU] 79):=⟨_,rfl⟩;have U:Below J J W2:=by rw[y];exact((aU _ _).alloc (bC _) _).alloc bK _
     obtain⟨i,qf⟩:=aV ((HO.then_ L).below U) ((HB.dH L.2 aj).keep U);have f:bF W2 J 79 #[aB 0,bU]:=by rw[y];exact(bF.new _ _ _).alloc _
     have H6:=ay f;go_wp2_with fail;refine(EW 0 _ _).aQ ?_;rintro w' rfl;rw[←y];clear y U L f;have qD:=qf.lt;have qt:hi≤W2:=aj
     clear P H6
     have qu:(0:Int)≤n*2^k∧(n:Int)*2^k≤24*32768:=by
      refine⟨pI aj aj,?_⟩;have h1:(n:Int)*2^k≤24*2^k:=mM aj aj;omega
     go_wp2_with fail;rcases(aj:8*b.length<p+n+1+k∨p+n+1+k≤8*b.length)with hs|hs
     ·have Q:=qq.out
      rw[aF hs]at Q;subst Q;refine(Ld (n:=k) hb aj hs _ i.1).mono ?_;rintro e J ⟨A,T,rfl,s,G,F⟩;obtain⟨W4,E⟩:∃W,W=(J.alloc (aS #[aB 1,aG A 1 T] 79)).alloc (aS #[aB 1,aG A 1 T] 79):=⟨_,rfl⟩;have U:=F.alloc F.size (aS #[aB 1,aG A 1 T] 79);have O:Below W2 W2 W4:=by rw[E];exact U.alloc U.size _
      have V:=(s.alloc (aS #[aB 1,aG A 1 T] 79)).alloc (aS #[aB 1,aG A 1 T] 79);rw[←E]at V;obtain⟨I,qa⟩:=aV V (i.below O);obtain⟨d0,d1,f0,f1⟩:=og (qf.keep O);obtain⟨c0,c1,_,_⟩:=og (show bF W4 J 79 #[aB 1,aG A 1 T] by rw[E];exact(bF.new _ _ _).alloc _);have Y:∀a,A=some a→w.heap.size+1≤a.block:=fun a X=>by have:=G a X;omega
      have P:=ay Y;go_wp2_with fail;refine(EW 1 _ _).aQ ?_;rintro w' rfl;rw[←E];clear E s V G Y F O U;go_wp2_with fail
      go_region
      all_goals(
       go_wp2_with fail;refine aT (v:=eP #[aB 0,.agg #[aB 1,aG A 1 T]]) (by simp[results,results111,go_sem,d0,d1]) rfl ?_;exact⟨A,T,rfl,(I.far (fun a X=>by have:=P a X;simp;omega) _).far (fun a X=>by have:=P a X;simp;omega) _,fun a X=>by have:=P a X;omega,(qa.LX u t _ _).drew⟩)
     ·have Q:=qq.out
      rw[au aj]at Q;have qg:=Bi.IW b (p+n+1) k;refine(QL (n:=k) hb aj hs _ qt i.1).mono ?_;obtain⟨N,hN⟩:∃N,Bi.num b (p+n+1) k=N:=⟨_,rfl⟩;rw[hN]at qg Q ⊢;have qh:=ay Q;clear hN Q;rintro e J ⟨rfl,L⟩;obtain⟨W5,y⟩:∃W,W=(J.alloc (aS #[aB 0,bU] 79)).alloc (aS #[aB 0,bU] 79):=⟨_,rfl⟩;have U:Below J J W5:=by rw[y];exact((aU _ _).alloc (bC _) _).alloc bK _
      obtain⟨D,C⟩:=aV ((i.then_ L).below U) ((qf.dH L.2 aj).keep U);have f:bF W5 J 79 #[aB 0,bU]:=by rw[y];exact(bF.new _ _ _).alloc _
      have H6:=ay f;go_wp2_with fail;refine(EW 0 _ _).aQ ?_;rintro w' rfl;rw[←y];clear y U L f;obtain⟨d0,d1,f0,f1⟩:=og C;obtain⟨c0,c1,_,_⟩:=og H6;obtain⟨M,hM⟩:∃M,(n:Int)*2^k=M:=⟨_,rfl⟩;rw[hM]at qu qh;rw[Int.add_comm N M]at qh
      by_cases h1:M+N>most
      ·skip
       have V:=qh.out;rw[aF (.inl h1)]at V;subst V;have q:=D.place;go_wp2_with fail;refine(DK RU _ (c:=3) aj _).mono ?_;rintro e w5 ⟨r,d,rfl,B,S,K⟩;obtain⟨o,l,qk,ql⟩:=og (C.keep K);have qm:=C.lt;have Y:∀a,r=some a→w.heap.size+1≤a.block:=fun a X=>by have:=S a X;omega
       obtain⟨P,I,j⟩:=dB Y B (D.below K);clear B S K Y q;go_wp2_with fail;refine aT (v:=eP #[aB 0,.agg #[aB 3,aG r 1 d]]) (by simp[results,results111,go_sem,o,l]) rfl ?_;exact⟨r,d,rfl,(I.far (fun a X=>by have:=P a X;simp;omega) _).far (fun a X=>by have:=P a X;simp;omega) _,fun a X=>by have:=P a X;omega,j.LX u t _ _⟩
      ·have h2:¬M+N>1073741824:=aj
       have V:=qh.out;rw[au (fun h=>by rcases h with h|h<;>omega)]at V;subst V;go_wp2_with fail
       go_region
       all_goals(
        go_wp2_with fail;refine aT (v:=eP #[aB (M+N),.agg #[aB 0,bU]]) (by simp[results,results111,go_sem,d0,d1]) rfl ?_;exact⟨none,0,rfl,Rd.nil,(fun a X=>by cases X),(D.LX u t _ _).drew⟩)
theorem CO(c:Int)(s:cO)(w:aK):Calls prog 42 #[.agg #[c,s]] w fun e Z=>e=bM (.bool (c==0))∧Below w w Z:=
 (EW c s w).mono fun _ _ ⟨Y,X⟩=>⟨Y,X▸(aU _ _).alloc (bC _) _⟩
def aja(B:Nat)(W V:Nat)(fr:So.Fr)(a b c:Int)(v:cO)(A:dK)(n cap:Nat)(w':aK):Prop:=
 (∃Z Y X,fr= .ok Z∧a=W∧b=V∧v=aG Y Z.length X∧w'.ownsRow B 3 1 (aG Y Z.length X) Z.length (Z.map (Value.int .i64))∧c=0∧A=none∧n=0∧cap=0)∨
 (Bad fr∧v=bU∧c=frC fr∧n=(frP fr).length∧Rd w' 2 A n (wH (frP fr))∧∀x,A=some x→B≤x.block)
def Xa(lo hi:Nat)(w:aK)(g:Nat)(x:aO)(Y X:Nat)(r:So.Fr × Nat)(e:Ending)(w':aK):Prop:=
 ∃(a b c:Int) (v:cO) (A:dK) (n Z:Nat),e=bM (eP #[.agg #[aB a,aB b,v],.agg #[aB c,aG A n Z]])∧aja w.heap.size Y X r.1 a b c v A n Z w'∧uj 145 lo hi w g x r.2 w'
structure RFm(lo hi g:Nat)(x:List Int)(fw fh:Nat)(w:World)(e9:Array Value)(z9 z10:Nat)(q:Nat)(vP:Value)(wr:World):Prop where
 f6:bF wr w.heap.size 90 #[aB 0,aB 0,bU]
 f7:bF wr (w.heap.size+1) 79 #[aB 0,bU]
 f9:bF wr z9 79 e9
 f10:bF wr z10 90 #[aB fw,aB fh,vP]
 rd:yB 145 lo hi wr g x q
 ch:bQ (fun i=>i=g) w wr
 h9:w.heap.size+1<z9
 h10:w.heap.size+1<z10
 hg:g<w.heap.size
 hhi:hi≤w.heap.size
section
variable{lo hi g:Nat}{x:aO}{fw fh:Nat}{w:aK}{e9:Array cO}{z9 z10:Nat}{q q':Nat}{vP:cO}{wr w':aK}
theorem RFm.below(h:RFm lo hi g x fw fh w e9 z9 z10 q vP wr)(Z:Below wr wr w'):RFm lo hi g x fw fh w e9 z9 z10 q vP w':=
 ⟨h.f6.keep Z,h.f7.keep Z,h.f9.keep Z,h.f10.keep Z,h.rd.keep Z,h.ch.trans (bQ.of_below Z),h.h9,h.h10,h.hg,h.hhi⟩
theorem RFm.read(h:RFm lo hi g x fw fh w e9 z9 z10 q vP wr)(Z:uj 145 lo hi wr g x q' w'):RFm lo hi g x fw fh w e9 z9 z10 q' vP w':=by
 have X:=h.hg;have W:=h.h9;have Y:=h.h10;exact⟨h.f6.dH Z.2 aj,h.f7.dH Z.2 aj,h.f9.dH Z.2 aj,h.f10.dH Z.2 aj,Z.1,h.ch.trans Z.2,h.h9,h.h10,h.hg,h.hhi⟩
theorem RFm.push{Q:List cO}(h:RFm lo hi g x fw fh w e9 z9 z10 q vP wr)(X:wr.ownsRow w 3 1 V n Q)(o:Obj)(U:(wr.alloc o).grownBy u V.ownBlock):
  RFm lo hi g x fw fh w e9 z9 z10 q vP u:=by
 have R:Below wr wr (wr.alloc o):=(aU _ _).alloc (bC _) _;have Z:=h.below R;have Y:=oH X R;have T:=bQ.xB U (fun i _ e=>e.symm);have W:∀i,V.ownBlock=some i→w≤i:=fun i hi=>(X.lt i hi).1
 have O:=h.hhi;obtain⟨_,_,N,M,S,_⟩:=Z.rd
 exact⟨Z.f6.dH T (dP Y Z.f6 bn),Z.f7.dH T (dP Y Z.f7 bn),Z.f9.dH T (dP Y Z.f9 bn),Z.f10.dH T (dP Y Z.f10 bn),
  Z.rd.dH T (dP Y S bn) (fun i _ P e=>by have:=W i e;omega),Z.ch.step T (fun i P e=>by have:=W i e;omega),h.h9,h.h10,h.hg,h.hhi⟩
theorem RFm.put(h:RFm lo hi g x fw fh w e9 z9 z10 q vP wr)(Y:z9≠z10)(v:cO):RFm lo hi g x fw fh w e9 z9 z10 q v (wr.setCell ⟨z10,2,none⟩ v):=by
 have W:=h.h10;have U:=h.hg;have V:=h.hhi;have Z:=(bQ.refl (fun i=>i=z10) wr).setCell (p:=(aH z10 2)) (fun _=>rfl) v;refine⟨h.f6.dH Z aj,h.f7.dH Z aj,h.f9.dH Z Y,?_,h.rd.dH Z aj (fun i _ X=>aj),h.ch.step Z (fun i T X=>aj),h.h9,h.h10,h.hg,h.hhi⟩;have:=h.f10.store 2 v;simpa using this
theorem RFm.out(h:RFm lo hi g x fw fh w e9 z9 z10 q vP wr)(Z:bQ (fun i=>i=w∨i=w+1) wr w'):uj 145 lo hi w g x q w':=by
 have V:=h.hg;have W:=h.hhi;exact⟨h.rd.dH Z aj (fun i Y X=>aj),h.ch.step Z (fun i Y X=>aj)⟩
end
theorem U0{a b b' v' c s c' s':cO}(W:bF wr w 90 #[a,b,v])(V:bF wr (w.heap.size+1) 79 #[c,s]):
  bQ (fun i=>i=w∨i=w+1) wr (((((wr.setCell ⟨w,0,none⟩ a').setCell ⟨w,1,none⟩ b').setCell ⟨w,2,none⟩ v').setCell ⟨w.heap.size+1,0,none⟩ c').setCell ⟨w.heap.size+1,1,none⟩ s')∧
  bF (((((wr.setCell ⟨w,0,none⟩ a').setCell ⟨w,1,none⟩ b').setCell ⟨w,2,none⟩ v').setCell ⟨w.heap.size+1,0,none⟩ c').setCell ⟨w.heap.size+1,1,none⟩ s') w 90 #[a',b',v']∧
  bF (((((wr.setCell ⟨w,0,none⟩ a').setCell ⟨w,1,none⟩ b').setCell ⟨w,2,none⟩ v').setCell ⟨w.heap.size+1,0,none⟩ c').setCell ⟨w.heap.size+1,1,none⟩ s') (w.heap.size+1) 79 #[c',s']:=by
 obtain⟨Y,U⟩:=Eh (a':=a') (b':=b') (c':=v') W;have Z:=V.dH Y (show¬w.heap.size+1=w.heap.size by omega);obtain⟨X,b2⟩:=Gj (a':=c') (b':=s') Z;exact⟨(Y.mono (fun i _ h=>Or.inl h)).trans (X.mono (fun i _ h=>Or.inr h)),U.dH X (show¬w.heap.size=w+1 by omega),b2⟩
theorem aau{p:Nat}(f:b.length≤1000000000)(d:8*b.length<p+3)(w:aK)(A:hi≤w)(h:yB 145 lo hi w g b p):
  Calls prog 68 #[aY g,i,j] w (Xa lo hi w g b i j (.bits (.short p),p)):=by
 have c:=h.lt;have Q:Below w w (w.alloc (aS #[aB 0,aB 0,bU] 90)):=(aU _ _).alloc (bC _) _;have P:=Q.alloc Q.size (aS #[aB 0,bU] 79);have L:=(bF.new w 90 #[aB 0,aB 0,bU]).alloc (aS #[aB 0,bU] 79);have K:=bF.new1 w (aS #[aB 0,aB 0,bU] 90) 79 #[aB 0,bU];obtain⟨l,J,z,y,x⟩:=rG (Ld (n:=3) f aj d _ (h.keep P)) P L K h;clear h Q P L K;go_enter func68,ntmps68;go_wp2_with fail;refine l.mono ?_;unfold amO;rintro e X ⟨W,Z,rfl,U,S,V⟩;have u:=V.size;simp only[World.alloc,Array.size_push]at u;have T:=J.trans (V.mono J.size);have N:Below X X ((X.alloc (aS #[aB 1,aG W 1 Z] 79)).alloc (aS #[i,j,bU] 90)):=((aU _ _).alloc (bC _) _).alloc bK _
 have HF:Hid (RFm lo hi g b i j w #[aB 1,aG W 1 Z] X (X.heap.size+1) p (bU) ((X.alloc (aS #[aB 1,aG W 1 Z] 79)).alloc (aS #[i,j,bU] 90))):=
  ay ⟨(z.keep V).keep N,(y.keep V).keep N,(bF.new X 79 #[aB 1,aG W 1 Z]).alloc _,bF.new1 _ _ _ _,(x.keep T).keep N,(bQ.of_below T).trans (bQ.of_below N),aj,aj,c,A⟩
 have t:=ay (show Rd X 2 W 1 (wH [(Ii,(p:Int))])from U)
 have R:Hid (∀a,W=some a→w.heap.size+2≤a.block∧a.block<X):=ay fun a M=>⟨by have:=S a M;simpa using this,by
  obtain⟨b',o',C,hc⟩:=U.2 bK;have h1:=lt_of_cell (hc 0 (.string Ii) rfl);rw[M]at C;injection C with C
  subst C;exact h1⟩
 change Hid _ at N;clear U S V T l;go_wp2
 go_loopg [11] (0:Nat) (fun k s wr=>s= aB 0∧RFm lo hi g b i j w #[aB 1,aG W 1 Z] X (X.heap.size+1) p (bU) wr∧Rd wr 2 W 1 (wH [(Ii,(p:Int))]))
 case atStart=>exact⟨rfl,HF,t.keep N⟩
 case round=>
  obtain⟨rfl,B,I⟩:=hrel;obtain⟨r,q⟩:=aV B I;obtain⟨⟨r0,r1⟩,-⟩:=iW B.f9;clear B I;go_wp2_with fail;refine(CO _ _ _).aQ ?_;rintro w5 O;have Y:=r.below O;have H:=q.keep O;obtain⟨⟨t0,t1⟩,-⟩:=iW Y.f9;obtain⟨⟨y0,y1,y2⟩,-⟩:=jT Y.f10;obtain⟨⟨u0,u1,u2⟩,g0,g1,g2⟩:=jT Y.f6;obtain⟨⟨x0,x1⟩,g3,g4⟩:=iW Y.f7;obtain⟨G,F,E⟩:=U0 (a':=aB i) (b':=aB j) (v':=bU) (c':=aB 1) (s':=aG W 1 Z) Y.f6 Y.f7;obtain⟨⟨s0,s1,s2⟩,-⟩:=jT F;obtain⟨⟨s3,s4⟩,-⟩:=iW E;obtain⟨o,D,m⟩:=dB Y G H;clear Y G F E H O r0 r1;go_wp2_with fail
  go_region
  all_goals
   go_wp2_with fail;refine aT (v:=eP #[.agg #[i,j,bU],.agg #[aB 1,aG W 1 Z]]) (by simp[results,results68,go_sem,s0,s1,s2,s3,s4]) rfl ?_;exact⟨i,j,1,bU,W,1,Z,rfl,.inr ⟨.inl ⟨p,rfl⟩,rfl,rfl,rfl,(m.out.dH D.out (fun a M=>by have:=(R.out a M).1;omega)).drew,fun a M=>by have:=(R.out a M).1;omega⟩,o.out.out D.out.drew⟩
theorem acd{p o E:Nat}(hb:b.length≤1000000000)(qW:8≤o∧o≤32)(qX:8≤E∧E≤32)(hs:¬8*b.length<p+3)(w:aK)(qF:hi≤w)(h:yB 145 lo hi w g b p):
  Calls prog 68 #[aY g,o,E] w (Xa lo hi w g b o E (So.frame b (8*b.length) o (o*E) p)):=by
 obtain⟨i0,qY,qZ,za,zb⟩:=iq Ij;have hg:=h.lt;obtain⟨n,hn⟩:∃n,o*E=n:=⟨_,rfl⟩;have zL:n≤1024:=by rw[←hn];exact fC qW.2 qX.2
 have qG:(o:Int)*(E:Int)=(n:Int):=by rw[←hn];simp
 have zc:Hid (IntKind.i64.wrap ((o:Int)*(E:Int))=n):=ay (by rw[qG];exact iE _ aj);rw[hn];have qv:=Bi.IW b p 3;obtain⟨K,hK⟩:∃K:Nat,Bi.num b p 3=K:=⟨(Bi.num b p 3).toNat,aj⟩;rw[hK]at qv;have zM:K≤7:=by have:=qv.2;simp only[Int.reducePow]at this;omega
 have ze:Hid (So.frame b (8*b.length) o n p=So.samples b (8*b.length) K o n [] (p+3)):=ay (by unfold So.frame;rw[au hs,hK];rfl);have zf:p+3≤8*b.length:=aj
 have qw:Below w w (w.alloc (aS #[aB 0,aB 0,bU] 90)):=(aU _ _).alloc (bC _) _;have qi:=qw.alloc qw.size (aS #[aB 0,bU] 79);have qH:=(bF.new w 90 #[aB 0,aB 0,bU]).alloc (aS #[aB 0,bU] 79);have qI:=bF.new1 w (aS #[aB 0,aB 0,bU] 90) 79 #[aB 0,bU];have CS:=ay (QL (n:=3) hb aj zf _ (dD qF qi.size) (h.keep qi));rw[hK]at CS;obtain⟨zg,zh,zi⟩:=dB qi qH qI;clear h qw qi qH qI hn qG qv hK hs;go_enter func68,ntmps68;go_wp2_with fail;refine CS.aQ ?_;rintro w3 ⟨qo,I⟩;have zj:=I.size;simp only[World.alloc,Array.size_push]at zj;have al:Below w3 w3 ((w3.alloc (aS #[aB 0,bU] 79)).alloc (aS #[o,E,bU] 90)):=((aU _ _).alloc (bC _) _).alloc bK _
 have HF:Hid (RFm lo hi g b o E w #[aB 0,bU] w3 (w3.heap.size+1) (p+3) (bU) ((w3.alloc (aS #[aB 0,bU] 79)).alloc (aS #[o,E,bU] 90))):=
  ay ⟨(zh.dH I (show¬w.heap.size=g by omega)).keep al,(zi.dH I (show¬w.heap.size+1=g by omega)).keep al,(bF.new w3 79 #[aB 0,bU]).alloc _,bF.new1 _ _ _ _,qo.keep al,((bQ.of_below zg).trans I).trans (bQ.of_below al),aj,aj,hg,qF⟩
 obtain⟨Z,hZ⟩:∃Z,w3.heap.size=Z:=⟨_,rfl⟩;rw[hZ]at HF;have zN:w.heap.size+2≤Z:=aj
 clear qo I al CS;go_wp2_with fail;clear hZ
 go_loopg [11] n (fun k zk wr=>∃(j q:Nat) (P:aO) (AP:dK) (cP:Nat),j+k=n∧zk=j∧Hid (P.length=j)∧Hid (∀v∈P,0≤v∧v≤255)∧
  Hid (So.frame b (8*b.length) o n p=So.samples b (8*b.length) K o k P q)∧RFm lo hi g b o E w #[aB 0,bU] Z (Z+1) q (aG AP j cP) wr∧
  wr.ownsRow w 3 1 (aG AP j cP) j (P.map (Value.int .i64)))
 case atStart=>exact⟨0,p+3,[],none,0,aj,rfl,ay rfl,ay (fun v hv=>by cases hv),ze,HF,⟨rfl,.inl ⟨rfl,rfl⟩⟩⟩
 case round=>
  obtain⟨j,q,P,AP,cP,hj,rfl,N,qy,qh,hf,qq⟩:=hrel;obtain⟨⟨r0,r1⟩,-⟩:=iW hf.f9;have zO:=zc.out;change Hid _ at hf qq;go_wp2_with fail;refine(CO _ _ _).aQ ?_;rintro w5 qz;have Y:=hf.below qz;obtain⟨D,qa⟩:=aV Y (oH qq qz);obtain⟨⟨t0,t1⟩,-⟩:=iW Y.f9;clear Y qz r0 r1
  by_cases zl:j<n
  ·obtain⟨m,rfl⟩:∃m,gk=m+1:=⟨gk-1,aj⟩
   have zE:(j:Int)<(n:Int):=aj
   go_wp2_with fail;refine(aat 510 aj hb _ (by have:=D.ch.size;omega) D.rd).mono ?_;obtain⟨⟨G1,G2⟩,hG⟩:∃G,Co.xJ b (8*b.length) q K 510=G:=⟨_,rfl⟩;rw[hG];unfold alp;rintro e w6 ⟨A6,X,rfl,H,B,l⟩;simp only at H l
   by_cases F:∃u,G1= .num u
   ·obtain⟨u,rfl⟩:=F
    dsimp only[ajT,JJ,QM];simp only[vK];have f:=D.read l;have zm:Hid (w6.ownsRow w 3 1 (aG AP j cP) j (P.map (Value.int .i64))):=ay (mO qa l.2 (fun i hi=>show¬i=g by have:=(qa.lt i hi).1;omega));obtain⟨qJ,_,zP,_,_,_⟩:=Co.UF hG
    have zn: -255≤Co.unfold' u∧Co.unfold' u≤255:=by
     rcases(aj:u%2=1∨u%2=0)with h|h
     ·rw[Co.Va qJ aj h];omega
     ·rw[Co.Tf qJ aj h];omega
    have W:Hid (So.frame b (8*b.length) o n p=if 0≤So.guess P o j+Co.unfold' u∧So.guess P o j+Co.unfold' u≤255 then So.samples b (8*b.length) K o m (P++ [So.guess P o j+Co.unfold' u]) G2 else(.sample,G2)):=ay (by
     rw[qh.out];simp only[So.samples,hG];rw[N.out])
    have zo:=So.IX qy.out o j;obtain⟨R,hR⟩:∃R,j%o=R:=⟨_,rfl⟩;obtain⟨Q,hQ⟩:∃Q,j/o=Q:=⟨_,rfl⟩;have qA:Q*o+R=j:=by rw[←hQ,←hR];exact Nat.div_add_mod' j o
    have qK:R<o:=by rw[←hR];exact Nat.mod_lt _ aj
    have zq:Q≤j:=by rw[←hQ];exact Nat.div_le_self _ _
    obtain⟨gs,qB⟩:∃gs,So.guess P o j=gs:=⟨_,rfl⟩;obtain⟨y,hy⟩:∃y,Co.unfold' u=y:=⟨_,rfl⟩;have C:Below w6 w6 (w6.alloc (aS #[aB 0,aG A6 0 X] 79)):=(aU _ _).alloc (bC _) _;obtain⟨qC,zr⟩:=aV (f.below C) (oH zm.out C);rw[qB]at W zo;rw[hy]at W zn;change Hid _ at f;clear H B l C t0 t1;go_wp2_with fail;refine(CO _ _ _).aQ ?_;rintro w7 S;have V:=qC.below S;have qj:=oH zr S;obtain⟨⟨_,_,t2⟩,-⟩:=jT V.f10
    have qL:yK .i64 w7 AP P:=by
     rw[←N.out]at qj;exact(yK.ER qj).1
    have CG:∀r,Below w7 w7 r→Calls prog 112 #[aG AP j cP,o,R,Q] r fun e qe=>e=bM gs∧Below r r qe:=fun r zt=>by
     have h:=ac8 (L:=P) (w:=o) (x:=R) (y:=Q) (c:=cP) aj qK (by rw[qA,N.out];exact bC _) (by rw[N.out];omega) qy.out aj aj r (qL.keep zt);rw[qA,N.out,qB]at h;exact h.mono fun e qe ⟨he,m,hm⟩=>⟨he,hm▸jM (aU _ _) m⟩
    have CU:∀r,Below w7 w7 r→Calls prog 113 #[u] r fun e qe=>e=bM y∧Below r r qe:=fun r _=>by
     rw[←hy];exact(aaV u aj r).mono fun e qe h=>⟨h.1,h.2▸aU _ _⟩
    have zF:¬o=0:=aj
    have zD:¬(o:Int)=0:=aj
    have qP:Int.tmod (j:Int) (o:Int)=(R:Int):=by rw[←hR];rfl
    have qQ:IntKind.i64.wrap ((j:Int)/(o:Int))=(Q:Int):=by rw[show(j:Int)/(o:Int)=(Q:Int) by rw[←hQ];rfl];exact iE _ aj
    have qR:IntKind.i64.wrap (gs+y)=gs+y:=iE _ aj;obtain⟨C1,C2⟩:=aV (Calls.grown CG) (Calls.grown CU);have zu:=fun p:Go.Regrown=>Go.cell_regrown t2 p.d p.os
    change Hid _ at V qj;clear hG S hR hQ qA qK zq qL CG CU qB hy;go_wp2_with fail
    (refine AQ aW aW ?_;(repeat(refine DV (fun K hK=>?_);go_simp;first|(refine hK _ ?_;clear hK K)|(apply Exists.intro;refine⟨fun _=>?_,hK _ ?_⟩;(focus(with_reducible first|exact C1.out _|exact C2.out _));clear hK K)));(refine Hy ?_))
    intro wq qM;have qD:=qM.below;have qf:=V.below qD;obtain⟨qN,qO⟩:=aV qf (oH qj qD);obtain⟨z,hz⟩:∃z,gs+y=z:=⟨_,rfl⟩;rw[hz]at W qR;clear C1 C2 zu t2 qD qM qP qQ
    by_cases qg:0≤z∧z≤255
    ·have O:=ay (W.out.trans (aF qg))
     have zG:¬z<0:=aj
     have zH:¬255<z:=aj
     obtain⟨⟨_,_,t2⟩,-⟩:=jT qf.f10;have zQ:w.heap.size≤wq:=qf.ch.size;change Hid _ at qg;clear qf;go_wp2_with(at_builtin;refine iy _ rfl (.tmp 67) (.tmp 69) _ rfl w 3 i0 _ 1 8 underlying34 qY qZ za zb rfl aj (aG AP j cP) j _ rfl (qO.alloc _) (aH wq 0) 1 1 [z] rfl rfl (fH (cs:=#[z]) (t:=3) (fr:=(0,0)) (lV wq _)) (by simp[Value.oneCell']) aj (by unfold maxLen;omega) aj jy _ rfl ?_;intro gb qE w9 A s qS zI;have qk:=qN.push qO _ s;obtain⟨⟨-,-,v2⟩,-,-,zv⟩:=jT qk.f10);obtain⟨zw,zx⟩:=aV (qk.put (aj:Z≠Z+1) (aG gb (j+1) qE)) (mO A ((bQ.refl (fun i=>i=Z+1) w9).setCell (p:=(aH (Z+1) 2)) (fun _=>rfl) (aG gb (j+1) qE)) (fun i hi e=>dP A qk.f10 bn (by rw[hi,e])));have qr:P.map (Value.int .i64)++ [Value.int .i64 z]=(P++ [z]).map (Value.int .i64):=bK
     change Hid _ at qr;clear A s qS qk v2 zv t2;go_roundg m
     case measure=>omega
     case rel=>
      exact⟨j+1,G2,P++ [z],some (aH gb 0),qE,aj,fA,ay (by simp[N.out]),ay (fun v hv=>by
       rcases rH.1 hv with h|h
       ·exact qy.out v h
       ·simp only[iw]at h;subst h;exact qg),O,zw,by rw[←qr];exact zx⟩
    ·have O:=ay (W.out.trans (au qg))
     have hd:(z<0)∨(¬z<0∧255<z):=aj
     clear qg qf;rcases hd with hd|⟨zR,zS⟩
     all_goals
      go_wp2_with fail;refine(Jh 3 _).aQ ?_;rintro zT qs;have T:=qN.below qs;obtain⟨⟨u0,u1,u2⟩,g0,g1,g2⟩:=jT T.f6;obtain⟨⟨x0,x1⟩,g3,g4⟩:=iW T.f7;obtain⟨U,M,J⟩:=U0 (a':=aB 0) (b':=aB 0) (v':=bU) (c':=aB 3) (s':=bU) T.f6 T.f7;obtain⟨⟨s0,s1,s2⟩,-⟩:=jT M;obtain⟨⟨s3,s4⟩,-⟩:=iW J;change Hid _ at T U;clear M J qs;go_wp2_with fail;refine aT (v:=eP #[.agg #[aB 0,aB 0,bU],.agg #[aB 3,bU]]) (by simp[results,results68,go_sem,s0,s1,s2,s3,s4]) rfl ?_;rw[O.out];exact⟨0,0,3,bU,none,0,0,rfl,.inr ⟨.inr (.inr rfl),rfl,rfl,rfl,Rd.nil,fun a ha=>by cases ha⟩,T.out.out U.out⟩
   ·have qt:Bad (.bits G1):=by
     rcases G1 with u|a|a
     ·exact absurd ⟨u,rfl⟩ F
     ·exact .inl ⟨a,rfl⟩
     ·exact .inr (.inl ⟨a,rfl⟩)
    have zy:(JJ G1==0)=false:=by
     rcases G1 with u|a|a
     ·exact absurd ⟨u,rfl⟩ F
     ·rfl
     ·rfl
    have qT:Hid (So.frame b (8*b.length) o n p=(.bits G1,G2)):=ay (by
     rw[qh.out];simp only[So.samples,hG];rcases G1 with u|a|a
     ·exact absurd ⟨u,rfl⟩ F
     ·rfl
     ·rfl)
    have f:=D.read l;have zJ:w.heap.size+1<w6.heap.size:=f.f7.lt;have zK:w.heap.size+1<w5.heap.size:=D.f7.lt;obtain⟨c9,ql⟩:∃c9,JJ G1=c9:=⟨_,rfl⟩;obtain⟨L9,qm⟩:∃L9,(QM G1).length=L9:=⟨_,rfl⟩;dsimp only;rw[qm]at H;rw[ql]at zy;have C:Below w6 w6 (w6.alloc (aS #[c9,aG A6 L9 X] 79)):=(aU _ _).alloc (bC _) _;obtain⟨qC,qU,zA,qu⟩:=jH (f.below C) (bF.new w6 79 #[c9,aG A6 L9 X]) (show Rd (w6.alloc (aS #[c9,aG A6 L9 X] 79)) 2 A6 L9 (wH (QM G1))from H.keep C) (fun a (ha:A6=some a)=>(show w.heap.size+2≤a.block by have:=B a ha;omega));rw[ql,qm];change Hid _ at qt ql qm;clear f H B l C t0 t1 hG F;go_wp2_with fail;refine(CO _ _ _).aQ ?_;rintro w7 S;have V:=qC.below S;obtain⟨⟨v0,v1⟩,-⟩:=iW (qU.keep S);obtain⟨⟨u0,u1,u2⟩,g0,g1,g2⟩:=jT V.f6;obtain⟨⟨x0,x1⟩,g3,g4⟩:=iW V.f7;obtain⟨U,M,J⟩:=U0 (a':=aB 0) (b':=aB 0) (v':=bU) (c':=aB c9) (s':=aG A6 L9 X) V.f6 V.f7;obtain⟨⟨s0,s1,s2⟩,-⟩:=jT M;obtain⟨⟨s3,s4⟩,-⟩:=iW J;have zB:=ay (zA.keep S);have zU:w6.heap.size<w7:=by have:=S.size;simp at this;omega
    change Hid _ at V U;clear M J S;go_wp2_with fail
    go_region
    all_goals
     go_wp2_with fail;refine aT (v:=eP #[.agg #[aB 0,aB 0,bU],.agg #[c9,aG A6 L9 X]]) (by simp[results,results68,go_sem,s0,s1,s2,s3,s4]) rfl ?_;rw[qT.out];exact⟨0,0,c9,bU,A6,L9,X,rfl,.inr ⟨qt.out,rfl,ql.out.symm,qm.out.symm,(zB.out.dH U.out (fun a ha=>by have:=qu.out a ha;omega)).drew,fun a ha=>by have:=qu.out a ha;omega⟩,V.out.out U.out.drew⟩
  ·obtain rfl:j=n:=aj
   obtain rfl:gk=0:=aj
   have qV:Hid (So.frame b (8*b.length) o j p=(.ok P,q)):=ay (by rw[qh.out];rfl);have Y:=D.out;obtain⟨⟨y0,y1,y2⟩,-⟩:=jT Y.f10;obtain⟨⟨u0,u1,u2⟩,g0,g1,g2⟩:=jT Y.f6;obtain⟨⟨x0,x1⟩,g3,g4⟩:=iW Y.f7;obtain⟨U,M,J⟩:=U0 (a':=aB o) (b':=aB E) (v':=aG AP j cP) (c':=aB 0) (s':=bU) Y.f6 Y.f7;obtain⟨⟨s0,s1,s2⟩,-⟩:=jT M;obtain⟨⟨s3,s4⟩,-⟩:=iW J
   have zC:=ay (mO qa U (fun i hi e=>by
    rcases e with e|e
    ·exact dP qa Y.f6 bn (by rw[hi,e])
    ·exact dP qa Y.f7 bn (by rw[hi,e])))
   change Hid _ at U;clear Y M J zl;go_wp2_with fail
   go_region
   all_goals
    go_wp2_with fail;refine aT (v:=eP #[.agg #[o,E,aG AP j cP],.agg #[aB 0,bU]]) (by simp[results,results68,go_sem,s0,s1,s2,s3,s4]) rfl ?_;rw[qV.out];exact⟨o,E,0,aG AP j cP,none,0,0,rfl,.inl ⟨P,AP,cP,rfl,rfl,rfl,by rw[N.out],by rw[N.out];exact oH zC.out ((aU _ _).drew),rfl,rfl,rfl,rfl⟩,D.out.out U.out.drew⟩
theorem adP{p:Nat}(V:b.length≤1000000000)(X:8≤i∧i≤32)(W:8≤j∧j≤32)(w:aK)(Z:hi≤w)(h:yB 145 lo hi w g b p):
  Calls prog 68 #[aY g,i,j] w (Xa lo hi w g b i j (So.frame b (8*b.length) i (i*j) p)):=by
 by_cases Y:8*b.length<p+3
 ·have U:So.frame b (8*b.length) i (i*j) p=(.bits (.short p),p):=by unfold So.frame;rw[aF Y]
  rw[U];exact aau V Y w Z h
 ·exact acd V X W Y w Z h
def vG(w:aK)(b:aO)(e:Ending)(w':aK):Prop:=
 (match Dh b with
  | .ok X=>∃A c l W V,e= .returned (.tuple #[.slice A l.length c,.agg #[.int .i64 0,.slice W 0 V]])∧RdF w' A l∧l.map Ji.Du=X∧∀f∈l,f.w=RV b∧f.h=TP b
  | .error Z=>∃A Y,e= .returned (.tuple #[.slice none 0 0,.agg #[.int .i64 Z.2,.slice A Z.1.length Y]])∧Rd w' 2 A Z.1.length (wH Z.1))∧
 Below w.heap.size w w'
theorem vG.err{W:aK}{path:List (ByteArray × Int)}{k:Int}(hd:Dh b= .error (path,k))(V:bF w1 w 79 #[aB 0,bU])
  (Q:w.heap.size<W) (Z:Below w w W) (U:Rd w1 2 A path (wH path)) (T:∀a,A=some a→W≤a.block) (S:Below W W w1):
  vG w b (bM (eP #[bU,.agg #[k,aG A path cap]])) ((w1.setCell ⟨w,0,none⟩ k).setCell ⟨w,1,none⟩ (aG A path cap)):=by
 obtain⟨X,-⟩:=Gj V;have Y:=Z.trans (S.mono Z.size);unfold vG;rw[hd];exact⟨⟨A,cap,rfl,U.dH X (fun a R e=>by have:=T a R;omega)⟩,Y.trans (X.below Y.size (fun i e=>aj))⟩
theorem agD(Q:b.length<5)(w:aK):
  Calls prog 41 #[aG A b c] w (vG w b):=by
 have P:=ay (Ak (by unfold yQ;rw[aF Q]) bn);have W:Below w w (w.alloc (aS #[aB 0,bU] 79)):=(aU _ _).alloc (bC _) _;obtain⟨V,U⟩:=aV W (bF.new w 79 #[aB 0,bU]);go_enter func41,ntmps41;go_wp2_with fail;refine(DK _ _ bn _).mono ?_;unfold abh;rintro e K ⟨R,Z,rfl,T,S,X⟩;have Y:=U.keep X;obtain⟨⟨J,I⟩,H,G⟩:=iW Y;obtain⟨-,O⟩:=Gj (a':=aB 1) (b':=aG R 1 Z) Y;obtain⟨⟨N,M⟩,-⟩:=iW O;have L:=ay (vG.err (cap:=Z) P.out Y bK V T S X);go_wp2;refine aT (v:=eP #[bU,.agg #[aB 1,aG R 1 Z]]) (by simp[results,results41,go_sem,N,M]) rfl ?_;exact L
theorem agE(L:5≤b.length)(U:∀x∈b,0≤x∧x≤255)(h2:¬(b.getD 0 0=75∧b.getD 1 0=83))(w:aK)(K:yK .u8 w A b):
  Calls prog 41 #[aG A b c] w (vG w b):=by
 have J:=ay (Ak (b:=b) (c:=2) (by unfold yQ;rw[au aj,aF h2]) bn);obtain⟨q,o,V,I,u,t,s,rfl,N,⟨z,y,-⟩,H,G,-⟩:=F6 K L U;rw[N.1,N.2.1]at h2;have T:Below w w (w.alloc (aS #[aB 0,bU] 79)):=(aU _ _).alloc (bC _) _;obtain⟨S,R⟩:=aV T (bF.new w 79 #[aB 0,bU])
 have F:(V=75∧((I:Int)!= 83)=true)∨((V:Int)!= 75)=true:=by
  by_cases X:V=75
  ·refine .inl ⟨X,?_⟩
   rw[bne_iff_ne];intro e;exact h2 ⟨by rw[X];rfl,e⟩
  ·exact .inr (by rw[bne_iff_ne];omega)
 have r:=aC H ((aU w w).alloc (bC _) (aS #[aB 0,bU] 79));have j1:=aC G ((aU w w).alloc (bC _) (aS #[aB 0,bU] 79));rcases F with⟨rfl,Q⟩|Q
 all_goals
  go_enter func41,ntmps41;go_wp2_with fail;refine(DK _ _ bn _).mono ?_;unfold abh;rintro e p ⟨M,Z,rfl,P,O,W⟩;have Y:=R.keep W;obtain⟨⟨n,m⟩,l,k⟩:=iW Y;obtain⟨-,E⟩:=Gj (a':=aB 2) (b':=aG M 1 Z) Y;obtain⟨⟨D,C⟩,-⟩:=iW E;have B:=ay (vG.err (cap:=Z) J.out Y bK S P O W);go_wp2;refine aT (v:=eP #[bU,.agg #[aB 2,aG M 1 Z]]) (by simp[results,results41,go_sem,D,C]) rfl ?_;exact B
theorem agF(B:5≤b.length)(Q:∀x∈b,0≤x∧x≤255)(h2:b.getD 0 0=75∧b.getD 1 0=83)
  (M:¬((1≤b.getD 2 0∧b.getD 2 0≤4)∧(1≤b.getD 3 0∧b.getD 3 0≤4)∧1≤b.getD 4 0∧b.getD 4 0≤16)) (w:aK) (J:yK .u8 w A b):
  Calls prog 41 #[aG A b c] w (vG w b):=by
 have z:=ay (Ak (b:=b) (c:=3) (by unfold yQ;rw[au aj,au (by simp only[h2,and_self,not_true_eq_false,not_false_eq_true]),aF M]) bn);obtain⟨q,o,y,u,Z,V,L,rfl,t,⟨f,d,a,qa,qe⟩,s,r,p,n,m⟩:=F6 J B Q;obtain⟨I,H,G,F,E⟩:=t;rw[I,H]at h2;rw[G,F,E]at M;obtain rfl:y=75:=aj
 obtain rfl:u=83:=aj
 have U:Below w w (w.alloc (aS #[aB 0,bU] 79)):=(aU _ _).alloc (bC _) _;have K:=ay (bF.new w 79 #[aB 0,bU]);have R:=U;have j0:=aC s R;have j1:=aC r R;have j2:=aC p R;have j3:=aC n R;have j4:=aC m R;change Hid _ at U;clear h2 Q J I H G F E R
 have l:((Z:Int)<1)∨(¬(Z:Int)<1∧4<(Z:Int))∨(¬(Z:Int)<1∧¬4<(Z:Int)∧(V:Int)<1)∨(¬(Z:Int)<1∧¬4<(Z:Int)∧¬(V:Int)<1∧4<(V:Int))∨
   (¬(Z:Int)<1∧¬4<(Z:Int)∧¬(V:Int)<1∧¬4<(V:Int)∧(L:Int)<1)∨(¬(Z:Int)<1∧¬4<(Z:Int)∧¬(V:Int)<1∧¬4<(V:Int)∧¬(L:Int)<1∧16<(L:Int)):=aj
 clear M;rcases l with h|⟨h,N⟩|⟨h,N,T⟩|⟨h,N,T,W⟩|⟨h,N,T,W,k⟩|⟨h,N,T,W,k,qf⟩
 all_goals
  go_enter func41,ntmps41;go_wp2_with fail;refine(DK _ _ bn _).mono ?_;unfold abh;rintro e w1 ⟨D,Y,rfl,P,O,S⟩;have X:=K.keep S;obtain⟨⟨r0,r1⟩,f0,f1⟩:=iW X;obtain⟨-,C⟩:=Gj (a':=aB 3) (b':=aG D 1 Y) X;obtain⟨⟨j,i⟩,-⟩:=iW C;have g:=ay (vG.err (cap:=Y) z.out X bK U P O S);clear P O S X C;go_wp2;refine aT (v:=eP #[bU,.agg #[aB 3,aG D 1 Y]]) (by simp[results,results41,go_sem,j,i]) rfl ?_;exact g
theorem akZ{p:Addr}(h:w.cell? p=some v)(o:Obj):(w.alloc o).cell? p=some v:=aC h ((aU _ _).alloc (bC _) _)
theorem ak0{p:Addr}(h:w.cell? p=some v):w.drew.cell? p=some v:=h
theorem aeM{p q:Addr}{u:Value}(h:w.cell? p=some v)(Z:p.block≠q.block):(w.setCell q u).cell? p=some v:=
 bG h ((bQ.refl (fun i=>i=q.block) w).setCell (fun _=>rfl) u) Z
theorem ajb(h:w.heap.size=n)(t:TypeId)(cs:Array Value):bF (w.alloc (.cells cs t)) n t cs:=by
 subst h;exact bF.new w t cs
theorem Oz{a b b' v' c s c' s':Value}(V:bF wr j 90 #[a,b,v])(U:bF wr k 79 #[c,s])(Z:j≠k):
  bQ (fun i=>i=j∨i=k) wr (((((wr.setCell ⟨j,0,none⟩ a').setCell ⟨j,1,none⟩ b').setCell ⟨j,2,none⟩ v').setCell ⟨k,0,none⟩ c').setCell ⟨k,1,none⟩ s')∧
  bF (((((wr.setCell ⟨j,0,none⟩ a').setCell ⟨j,1,none⟩ b').setCell ⟨j,2,none⟩ v').setCell ⟨k,0,none⟩ c').setCell ⟨k,1,none⟩ s') j 90 #[a',b',v']∧
  bF (((((wr.setCell ⟨j,0,none⟩ a').setCell ⟨j,1,none⟩ b').setCell ⟨j,2,none⟩ v').setCell ⟨k,0,none⟩ c').setCell ⟨k,1,none⟩ s') k 79 #[c',s']:=by
 obtain⟨X,T⟩:=Eh (a':=a') (b':=b') (c':=v') V;have Y:=U.dH X (show¬k=j from fun e=>Z e.symm);obtain⟨W,b2⟩:=Gj (a':=c') (b':=s') Y;exact⟨(X.mono (fun i _ h=>Or.inl h)).trans (W.mono (fun i _ h=>Or.inr h)),T.dH W Z,b2⟩
theorem agG{B:Nat}{T S:Option Addr}{l:List Ji}
  (X:w.ownsRow base 90 3 (.slice T l.length j) l.length (Dn l)) (V:Ux w B l) (U:w.ownsRow B 3 1 (.slice S s.length k) s.length (s.map (Value.int .i64)))
  (R Q:Int) (o:Obj) (Z:(w.alloc o).grownBy u (Value.slice T l.length j).ownBlock):Ux u B (l++ [⟨R,Q,S,s,k⟩]):=by
 have W:Below w.heap.size w (w.alloc o):=(aU _ _).alloc (bC _) _;have P:=bQ.xB Z (fun i _ e=>e.symm);intro f O
 have Y:∀f:Ji,w.ownsRow B 3 1 (.slice f.A f.Du.length f.c) f.Du.length (f.Du.map (Value.int .i64))→u.ownsRow B 3 1 (.slice f.A f.Du.length f.c) f.Du.length (f.Du.map (Value.int .i64)):=
  fun f h=>mO (oH h W) P (fun i N e=>EZ (oH h W) (oH X W) bn i N e)
 rcases rH.1 O with h|h
 ·exact Y f (V f h)
 ·simp at h;subst h;exact Y _ U
theorem aja.dH{B:Nat}{fr:So.Fr}{a b c:Int}{z:World}(h:aja B k m fr a b c v A n cap w)(P:bQ S w z)(O:∀i,S i→i<B∨w.heap.size≤i):
  aja B k m fr a b c v A n cap z:=by
 rcases h with⟨R,K,J,V,U,T,X,Y,W⟩|⟨V,Q,U,T,X,Y⟩
 ·refine .inl ⟨R,K,J,V,U,T,X,mO Y P (fun i I e=>?_),W⟩
  have N:=Y.lt i I;have M:=O i e;omega
 ·refine .inr ⟨V,Q,U,T,?_,Y⟩
  refine⟨X.1,fun H=>?_⟩;obtain⟨G,F,L,Z⟩:=X.2 H;refine⟨G,F,L,fun j u E=>?_⟩;have W:=Z j u E;refine bG W P (fun e=>?_);have N:=lt_of_cell W;have M:=O _ e;have D:=Y _ L;simp only at N M D;omega
def adQ(lo hi:Nat)(w:World)(g:Nat)(x:List Int)(V U:Nat)(r:So.Fr × Nat)(e:Ending)(w':World):Prop:=
 ∃(a b c:Int) (Y:Option Addr) (X W:Nat) (A:Option Addr) (n Z:Nat),e= .returned (.tuple #[.agg #[.int .i64 a,.int .i64 b,.slice Y X W],.agg #[.int .i64 c,.slice A n Z]])∧aja w.heap.size V U r.1 a b c (.slice Y X W) A n Z w'∧uj 145 lo hi w g x r.2 w'
theorem Xa.cut{x:List Int}{r:So.Fr × Nat}{e:Ending}(h:Xa lo hi w g x i j r e w'):adQ lo hi w g x i j r e w':=by
 obtain⟨a,b,c,v,A,n,Z,U,Q,T⟩:=h;rcases Q with⟨Y,S,R,X,W,V,P,O⟩|⟨X,W,V⟩
 ·subst P
  exact⟨a,b,c,S,Y.length,R,A,n,Z,U,.inl ⟨Y,S,R,X,W,V,rfl,O⟩,T⟩
 ·subst W
  exact⟨a,b,c,none,0,0,A,n,Z,U,.inr ⟨X,rfl,V⟩,T⟩
structure RDm(g:Nat)(x:List Int)(w:World)(p:Nat)(AL:Option Addr)(cL:Nat)(l:List Ji)(wr:World):Prop where
 f3:bF wr w.heap.size 79 #[.int .i64 0,.slice none 0 0]
 rd:yB 145 0 w.heap.size wr g x p
 row:wr.ownsRow w.heap.size 90 3 (.slice AL l.length cL) l.length (Dn l)
 of:Ux wr w.heap.size l
 be:Below w.heap.size w wr
 hg:w.heap.size<g
section
variable{g:Nat}{x:List Int}{w:World}{p p2:Nat}{AL:Option Addr}{cL:Nat}{l:List Ji}{wr W0 w8 W9 w9 w':World}
theorem RDm.below(h:RDm g x w p AL cL l wr)(Z:Below wr.heap.size wr w'):RDm g x w p AL cL l w':=
 ⟨h.f3.keep Z,h.rd.keep Z,oH h.row Z,fun f Y=>oH (h.of f Y) Z,h.be.trans (Z.mono h.be.size),h.hg⟩
theorem RDm.read(h:RDm g x w p AL cL l wr)(Z:uj 145 0 w.heap.size wr g x p2 w8):RDm g x w p2 AL cL l w8:=by
 have V:=h.hg;obtain⟨_,_,U,T,Y,_⟩:=h.rd
 exact⟨h.f3.dH Z.2 aj,Z.1,mO h.row Z.2 (fun i X e=>dP h.row Y bn (by rw[X,e])),fun f W=>mO (h.of f W) Z.2 (fun i X e=>dP (h.of f W) Y bn (by rw[X,e])),
  h.be.trans (Z.2.below h.be.size (fun i e=>aj)),h.hg⟩
theorem RDm.put(h:RDm g x w p AL cL l w8)(Z:bQ S w8 W9)(Y:∀i,S i→i≠w.heap.size∧i≠g∧w.heap.size≤i)(W:∀i,(Value.slice AL l.length cL).ownBlock=some i→¬S i)(V:∀f∈l,∀i,(Value.slice f.A f.Du.length f.c).ownBlock=some i→¬S i):RDm g x w p AL cL l W9:=
 ⟨h.f3.dH Z (fun e=>(Y _ e).1 rfl),h.rd.dH Z (fun e=>(Y _ e).2.1 rfl) (fun i _ U e=>by have:=(Y _ e).2.2;omega),mO h.row Z W,fun f X=>mO (h.of f X) Z (V f X),h.be.trans (Z.below h.be.size (fun i e=>(Y _ e).2.2)),h.hg⟩
theorem RDm.step(h:RDm g x w p AL cL l wr)(X:Below wr.heap.size wr W0)(W:uj 145 0 w.heap.size W0 g x p2 w8)(V:bQ S w8 W9)(Z:∀i,S i→wr.heap.size≤i):RDm g x w p2 AL cL l W9:=by
 have T:=h.f3.lt;have R:=h.rd.lt;exact((h.below X).read W).put V (fun i e=>by have:=Z i e;omega) (fun i Y e=>by have:=Z i e;have:=(h.row.lt i Y).2;omega) (fun f U i Y e=>by have:=Z i e;have:=((h.of f U).lt i Y).2;omega)
theorem RDm.push(h:RDm g x w p AL cL l wr)(S:wr.ownsRow w.heap.size 3 1 (.slice A s.length j) s.length (s.map (Value.int .i64)))
  (W V:Int) (Z:(wr.alloc (.cells #[.int .i64 W,.int .i64 V,.slice A s.length j] 90)).grownBy w9 (Value.slice AL l.length cL).ownBlock)
  (U:w9.ownsRow w.heap.size 90 3 (.slice (some ⟨k,0,none⟩) (l++ [(⟨W,V,A,s,j⟩:Ji)]).length cap) (l++ [(⟨W,V,A,s,j⟩:Ji)]).length (Dn (l++ [⟨W,V,A,s,j⟩]))):
  RDm g x w p (some ⟨k,0,none⟩) cap (l++ [⟨W,V,A,s,j⟩]) w9:=by
 have Q:Below wr.heap.size wr (wr.alloc (.cells #[.int .i64 W,.int .i64 V,.slice A s.length j] 90)):=(aU _ _).alloc (bC _) _;have Y:=h.below Q;have T:=bQ.xB Z (fun i _ e=>e.symm);have X:∀i,(Value.slice AL l.length cL).ownBlock=some i→w.heap.size≤i:=fun i P=>(h.row.lt i P).1
 obtain⟨_,_,O,N,R,_⟩:=Y.rd
 exact⟨Y.f3.dH T (dP Y.row Y.f3 bn),Y.rd.dH T (dP Y.row R bn) (fun i _ M e=>by have:=X i e;omega),U,agG h.row h.of S W V _ Z,
  Y.be.trans (T.below Y.be.size (fun i e=>X i e)),h.hg⟩
end
theorem ajc{x:List Int}{A5:Option Addr}{c5:Nat}(V:x.length=i)(Z:∀v∈x,0≤v∧v≤255)(hx:yK .u8 w A5 x)(Y:∀p,A5=some p→p.block<w.heap.size):
  RDm (w.heap.size+1) x w 0 none 0 [] ((w.alloc (.cells #[.int .i64 0,.slice none 0 0] 79)).alloc (.cells #[.slice A5 i c5,.int .i64 0] 145)):=by
 subst V;have X:Below w.heap.size w ((w.alloc (.cells #[.int .i64 0,.slice none 0 0] 79)).alloc (.cells #[.slice A5 x.length c5,.int .i64 0] 145)):=((aU _ _).alloc (bC _) _).alloc bK _;exact⟨(bF.new w _ _).alloc _,⟨aj,Z,A5,c5,bF.new1 _ _ _ _,hx.keep X,fun p W _=>⟨dS _,Y p W,by have:=Y p W;omega⟩⟩,⟨rfl,.inl ⟨rfl,rfl⟩⟩,fun f U=>(by cases U),X,aj⟩
theorem aav(hbl:b.length≤1000000000)(xe:b.length≤c)(qB:∀x∈b,0≤x∧x≤255)(h0:yQ b=0)(w:World)(ha:yK .u8 w A b):
  Calls prog 41 #[.slice A b c] w (vG w b):=by
 obtain⟨i0,hi,xk,xl,xn⟩:=iq Yy;obtain⟨h5,zH,zI,h2,h3,h4⟩:=Kr h0;obtain⟨q,o,n0,n1,n2,n3,n4,hA,HN,-,k0,k1,k2,k3,k4⟩:=F6 ha h5 qB;obtain⟨e0,e1,e2,e3,e4⟩:=HN;rw[e0]at zH;rw[e1]at zI;rw[e2]at h2;rw[e3]at h3;rw[e4]at h4;obtain rfl:n0=75:=aj
 obtain rfl:n1=83:=aj
 have a1:¬(n2:Int)<1:=aj
 have a2:¬4<(n2:Int):=aj
 have a3:¬(n3:Int)<1:=aj
 have a4:¬4<(n3:Int):=aj
 have a5:¬(n4:Int)<1:=aj
 have a6:¬16<(n4:Int):=aj
 have hd:Hid (Dh b=Yw (b.drop 5) (8*n2) (8*n2*(8*n3)) n4):=ay (by
  unfold Dh RV TP nOf;rw[aF h0,e2,e3,e4];rfl)
 have zj:Hid (RV b=8*n2∧TP b=8*n3):=ay (by unfold RV TP;rw[e2,e3];exact⟨rfl,rfl⟩)
 have hx:yK .u8 w (if c=5 then A else A.map (·.add (5*1))) (b.drop 5):=by
  have:=Rd.cut (k:=5) ha xe;unfold yK;rw[Hw,List.map_drop];exact this
 have zk:Hid (∀x∈b.drop 5,0≤x∧x≤255):=ay fun x hx=>qB x (gZ hx)
 have zJ:(b.drop 5).length=b.length-5:=Hw;have zl:=ay zJ;have qW:(b.drop 5).length≤1000000000:=aj
 subst hA;have zK:Hid (c=5→yK .u8 w (some ⟨q,o,none⟩) (b.drop 5)):=ay fun h=>by rw[aF h]at hx;exact hx
 have zL:Hid (¬c=5→yK .u8 w (some ⟨q,o+5,none⟩) (b.drop 5)):=ay fun h=>by
  rw[au h]at hx;simpa[add_lit]using hx
 obtain⟨x,zM⟩:∃x,b.drop 5=x:=⟨_,rfl⟩;rw[zM]at hd zk zK zL zl qW;obtain⟨fw,zm⟩:∃fw,8*n2=fw:=⟨_,rfl⟩;obtain⟨fh,zn⟩:∃fh,8*n3=fh:=⟨_,rfl⟩;rw[zm,zn]at hd;rw[zm,zn]at zj;have zN:8≤fw∧fw≤32:=aj
 have zO:8≤fh∧fh≤32:=aj
 have xp:Hid (IntKind.i64.wrap (8*(n2:Int))=fw):=ay (by rw[show 8*(n2:Int)=(fw:Int) by omega];exact iE _ aj);have xq:Hid (IntKind.i64.wrap (8*(n3:Int))=fh):=ay (by rw[show 8*(n3:Int)=(fh:Int) by omega];exact iE _ aj)
 have qB:Hid (Dh b=match So.frames x (8*x.length) fw (fw*fh) n4 [] 0 with
  |(.error (i,fr),_)=>.error ((wz,(i:Int))::frP fr,frC fr)
  |(.ok fs,p)=>VP x n4 fs p):=ay hd.out
 have zP:q<w.heap.size:=by have:=lt_of_cell k2;exact this
 have al:Below w w (w.alloc (.cells #[.int .i64 0,.slice none 0 0] 79)):=(aU _ _).alloc (bC _) _;have j0:=aC k0 al;have j1:=aC k1 al;have j2:=aC k2 al;have j3:=aC k3 al;have j4:=aC k4 al;obtain⟨K2,K3,K4,HAL⟩:=jH k2 k3 k4 al;clear ha hx zJ h0 e0 e1 e2 e3 e4 zH zI zM zm zn hd k0 k1 k2 k3 k4 al;go_enter func41,ntmps41;go_wp2_with fail
 all_goals
  first
   |(have zQ:=ay (ajc (w:=w) (x:=x) (A5:=some ⟨q,o,none⟩) (c5:=0) zl zk (zK (by assumption)) (fun p hp=>by injection hp with hp;subst hp;exact zP)))
   |(have zQ:=ay (ajc (w:=w) (x:=x) (A5:=some ⟨q,o+5,none⟩) (c5:=c-5) zl zk (zL (by assumption)) (fun p hp=>by injection hp with hp;subst hp;exact zP)))
 all_goals
  clear j0 j1 j2 j3 j4
  go_loopg [5,7] n4 (fun k v5 v7 wr=>∃(j p:Nat) (AL:Option Addr) (cL:Nat) (l:List Ji),j+k=n4∧v7= .int .i64 j∧Hid (l.length=j)∧v5= .slice AL l cL∧
   RDm (w.heap.size+1) x w p AL cL l wr∧Hid (∀f∈l,f.w=fw∧f.h=fh∧f.Du.length≤9223372036854775807)∧
   Hid (So.frames x (8*x.length) fw (fw*fh) n4 [] 0=So.frames x (8*x.length) fw (fw*fh) k (l.map Ji.Du) p))
  case atStart=>exact⟨0,0,none,0,[],aj,rfl,ay rfl,rfl,zQ.out,ay (fun f hf=>by cases hf),ay rfl⟩
  case round=>
   obtain⟨j,p,AL,cL,l,hj,rfl,zo,rfl,hD,qX,qJ⟩:=hrel;have HD:=ay hD;have hsr:w.heap.size+1<wr.heap.size:=hD.rd.lt;clear hD
   by_cases xf:j<n4
   ·obtain⟨m,rfl⟩:∃m,gk=m+1:=⟨gk-1,aj⟩
    have apk:(j:Int)<(n4:Int):=aj
    have zR:=xp.out;have zS:=xq.out;have qw:IntKind.i64.wrap (n2:Int)=n2:=iE _ aj;have qy:IntKind.i64.wrap (n3:Int)=n3:=iE _ aj;have h2l:(2:Int)<(b.length:Int):=aj
    have h3l:(3:Int)<(b.length:Int):=aj
    have qh:=aC K2.out HD.out.be;have qi:=aC K3.out HD.out.be;have qg:¬q=w.heap.size+1:=aj
    have xr:q≠wr.heap.size:=aj
    have xt:q≠wr.heap.size+1:=aj
    cases zq:So.frame x (8*x.length) fw (fw*fh) p with
    |mk fr p2=>
    have CF:Hid (∀W,Below wr wr W→Calls prog 68 #[.pointer (some ⟨w.heap.size+1,0,none⟩),.int .i64 fw,.int .i64 fh] W (adQ 0 w W (w.heap.size+1) x fw fh (fr,p2))):=ay fun W hW=>by
     have h:=adP qW zN zO W (by have:=hW.size;omega) (HD.out.rd.keep hW);rw[zq]at h;exact h.mono fun e w' h=>h.cut
    have B1:Below wr wr wr.drew:=(aU _ _).drew;have B2:Below wr wr (wr.alloc (.cells #[.int .i64 0,.int .i64 0,.slice none 0 0] 90)).drew:=((aU _ _).alloc (bC _) _).drew;have B3:Below wr wr (wr.alloc (.cells #[.int .i64 0,.slice none 0 0] 79)).drew:=((aU _ _).alloc (bC _) _).drew;have B4:Below wr wr ((wr.alloc (.cells #[.int .i64 0,.int .i64 0,.slice none 0 0] 90)).alloc (.cells #[.int .i64 0,.slice none 0 0] 79)).drew:=(((aU _ _).alloc (bC _) _).alloc bK _).drew;have B5:Below wr wr ((wr.alloc (.cells #[.int .i64 0,.slice none 0 0] 79)).alloc (.cells #[.int .i64 0,.int .i64 0,.slice none 0 0] 90)).drew:=(((aU _ _).alloc (bC _) _).alloc bK _).drew;obtain⟨zr,zt,qK,qL,qM,qN,zu⟩:=U2 ((bF.new wr 90 #[.int .i64 0,.int .i64 0,.slice none 0 0]).drew) ((bF.new wr 79 #[.int .i64 0,.slice none 0 0]).drew) (((bF.new wr 90 #[.int .i64 0,.int .i64 0,.slice none 0 0]).alloc (.cells #[.int .i64 0,.slice none 0 0] 79)).drew) ((bF.new1 wr (.cells #[.int .i64 0,.int .i64 0,.slice none 0 0] 90) 79 #[.int .i64 0,.slice none 0 0]).drew) (((bF.new wr 79 #[.int .i64 0,.slice none 0 0]).alloc (.cells #[.int .i64 0,.int .i64 0,.slice none 0 0] 90)).drew) ((bF.new1 wr (.cells #[.int .i64 0,.slice none 0 0] 79) 90 #[.int .i64 0,.int .i64 0,.slice none 0 0]).drew) zq;clear zq;go_wp2_with fail
    go_region_held3(fun W=>W.cell? ⟨q,o+2,none⟩=some (.int .u8 n2)∧W.cell? ⟨q,o+3,none⟩=some (.int .u8 n3))
     ((refine⟨?_,?_⟩<;>(with_reducible(repeat(first|exact qh|exact qi|exact qj.1|exact qj.2|refine ak0 ?_|refine akZ ?_ _|refine aeM ?_ xr|refine aeM ?_ xt)))))
     (first
       |(go_at_call 68;(with_reducible refine(CF.out _ B4).mono ?_);unfold adQ;rintro e Q ⟨F,E,D,Y,U,X,C,B,Z,rfl,r,V⟩;have qj:=And.intro (bG (aC qh B4) V.2 qg) (bG (aC qi B4) V.2 qg);have N:=B4;have u:=qK.out.dH V.2 (show¬wr.heap.size=w.heap.size+1 by omega);have J:=qL.out.dH V.2 (show¬wr.heap.size+1=w.heap.size+1 by omega);obtain⟨⟨p0,p1,zT⟩,p3,p4,p5⟩:=jT u;obtain⟨⟨p6,p7⟩,p8,p9⟩:=iW J;have qz:((wr.alloc (.cells #[.int .i64 0,.int .i64 0,.slice none 0 0] 90)).alloc (.cells #[.int .i64 0,.slice none 0 0] 79)).drew.heap.size=wr.heap.size+1+1:=bK)
       |(go_at_call 68;(with_reducible refine(CF.out _ B5).mono ?_);unfold adQ;rintro e Q ⟨F,E,D,Y,U,X,C,B,Z,rfl,r,V⟩;have qj:=And.intro (bG (aC qh B5) V.2 qg) (bG (aC qi B5) V.2 qg);have N:=B5;have J:=qM.out.dH V.2 (show¬wr.heap.size=w.heap.size+1 by omega);have u:=qN.out.dH V.2 (show¬wr.heap.size+1=w.heap.size+1 by omega);obtain⟨⟨p0,p1,zT⟩,p3,p4,p5⟩:=jT u;obtain⟨⟨p6,p7⟩,p8,p9⟩:=iW J;have qz:((wr.alloc (.cells #[.int .i64 0,.slice none 0 0] 79)).alloc (.cells #[.int .i64 0,.int .i64 0,.slice none 0 0] 90)).drew.heap.size=wr.heap.size+1+1:=bK)
       |(go_at_call 68;(with_reducible refine(CF.out _ B2).mono ?_);unfold adQ;rintro e Q ⟨F,E,D,Y,U,X,C,B,Z,rfl,r,V⟩;have qj:=And.intro (bG (aC qh B2) V.2 qg) (bG (aC qi B2) V.2 qg);have N:=B2;have u:=zr.out.dH V.2 (show¬wr.heap.size=w.heap.size+1 by omega);obtain⟨⟨p0,p1,zT⟩,p3,p4,p5⟩:=jT u;have hl8:=u.lt;have qz:(wr.alloc (.cells #[.int .i64 0,.int .i64 0,.slice none 0 0] 90)).drew.heap.size=wr.heap.size+1:=bK)
       |(go_at_call 68;(with_reducible refine(CF.out _ B3).mono ?_);unfold adQ;rintro e Q ⟨F,E,D,Y,U,X,C,B,Z,rfl,r,V⟩;have qj:=And.intro (bG (aC qh B3) V.2 qg) (bG (aC qi B3) V.2 qg);have N:=B3;have J:=zt.out.dH V.2 (show¬wr.heap.size=w.heap.size+1 by omega);obtain⟨⟨p6,p7⟩,p8,p9⟩:=iW J;have hl9:=J.lt;have qz:(wr.alloc (.cells #[.int .i64 0,.slice none 0 0] 79)).drew.heap.size=wr.heap.size+1:=bK)
       |(go_at_call 68;(with_reducible refine(CF.out _ B1).mono ?_);unfold adQ;rintro e Q ⟨F,E,D,Y,U,X,C,B,Z,rfl,r,V⟩;have qj:=And.intro (bG (aC qh B1) V.2 qg) (bG (aC qi B1) V.2 qg);have N:=B1;have qz:wr.drew.heap.size=wr.heap.size:=rfl)
       |fail)
    all_goals
     first
       |(have I:bQ (fun i=>i=wr.heap.size∨i=wr.heap.size+1) Q (((((Q.setCell ⟨wr,0,none⟩ (.int .i64 F)).setCell ⟨wr,1,none⟩ (.int .i64 E)).setCell ⟨wr,2,none⟩ (.slice Y U X)).setCell ⟨wr.heap.size+1,0,none⟩ (.int .i64 D)).setCell ⟨wr.heap.size+1,1,none⟩ (.slice C B Z)):=(Oz u J aj).1
         have L:bF (((((Q.setCell ⟨wr,0,none⟩ (.int .i64 F)).setCell ⟨wr,1,none⟩ (.int .i64 E)).setCell ⟨wr,2,none⟩ (.slice Y U X)).setCell ⟨wr.heap.size+1,0,none⟩ (.int .i64 D)).setCell ⟨wr.heap.size+1,1,none⟩ (.slice C B Z)) (wr.heap.size) 90 #[.int .i64 F,.int .i64 E,.slice Y U X]:=(Oz u J aj).2.1;have O:bF (((((Q.setCell ⟨wr,0,none⟩ (.int .i64 F)).setCell ⟨wr,1,none⟩ (.int .i64 E)).setCell ⟨wr,2,none⟩ (.slice Y U X)).setCell ⟨wr.heap.size+1,0,none⟩ (.int .i64 D)).setCell ⟨wr.heap.size+1,1,none⟩ (.slice C B Z)) (wr.heap.size+1) 79 #[.int .i64 D,.slice C B Z]:=(Oz u J aj).2.2;have hD:=HD.out.step N V I (fun i e=>by have:=N.size;have:=V.2.size;rcases e with e|e<;>omega);have n:=r.dH I (fun i e=>by have:=N.size;have:=V.2.size;rcases e with e|e<;>omega);obtain⟨W9,T⟩:∃W9,(((((Q.setCell ⟨wr,0,none⟩ (.int .i64 F)).setCell ⟨wr,1,none⟩ (.int .i64 E)).setCell ⟨wr,2,none⟩ (.slice Y U X)).setCell ⟨wr.heap.size+1,0,none⟩ (.int .i64 D)).setCell ⟨wr.heap.size+1,1,none⟩ (.slice C B Z))=W9:=⟨_,rfl⟩;obtain⟨z8,S⟩:∃z,wr.heap.size=z:=⟨_,rfl⟩;obtain⟨z9,R⟩:∃z,wr.heap.size+1=z:=⟨_,rfl⟩;rw[T]at hD n;rw[T,S]at L;rw[T,R]at O;rw[T,R,S])
       |(have I:bQ (fun i=>i=wr.heap.size+1∨i=wr.heap.size) Q (((((Q.setCell ⟨wr.heap.size+1,0,none⟩ (.int .i64 F)).setCell ⟨wr.heap.size+1,1,none⟩ (.int .i64 E)).setCell ⟨wr.heap.size+1,2,none⟩ (.slice Y U X)).setCell ⟨wr,0,none⟩ (.int .i64 D)).setCell ⟨wr,1,none⟩ (.slice C B Z)):=(Oz u J aj).1
         have L:bF (((((Q.setCell ⟨wr.heap.size+1,0,none⟩ (.int .i64 F)).setCell ⟨wr.heap.size+1,1,none⟩ (.int .i64 E)).setCell ⟨wr.heap.size+1,2,none⟩ (.slice Y U X)).setCell ⟨wr,0,none⟩ (.int .i64 D)).setCell ⟨wr,1,none⟩ (.slice C B Z)) (wr.heap.size+1) 90 #[.int .i64 F,.int .i64 E,.slice Y U X]:=(Oz u J aj).2.1;have O:bF (((((Q.setCell ⟨wr.heap.size+1,0,none⟩ (.int .i64 F)).setCell ⟨wr.heap.size+1,1,none⟩ (.int .i64 E)).setCell ⟨wr.heap.size+1,2,none⟩ (.slice Y U X)).setCell ⟨wr,0,none⟩ (.int .i64 D)).setCell ⟨wr,1,none⟩ (.slice C B Z)) (wr.heap.size) 79 #[.int .i64 D,.slice C B Z]:=(Oz u J aj).2.2;have hD:=HD.out.step N V I (fun i e=>by have:=N.size;have:=V.2.size;rcases e with e|e<;>omega);have n:=r.dH I (fun i e=>by have:=N.size;have:=V.2.size;rcases e with e|e<;>omega);obtain⟨W9,T⟩:∃W9,(((((Q.setCell ⟨wr.heap.size+1,0,none⟩ (.int .i64 F)).setCell ⟨wr.heap.size+1,1,none⟩ (.int .i64 E)).setCell ⟨wr.heap.size+1,2,none⟩ (.slice Y U X)).setCell ⟨wr,0,none⟩ (.int .i64 D)).setCell ⟨wr,1,none⟩ (.slice C B Z))=W9:=⟨_,rfl⟩;obtain⟨z8,S⟩:∃z,wr.heap.size+1=z:=⟨_,rfl⟩;obtain⟨z9,R⟩:∃z,wr.heap.size=z:=⟨_,rfl⟩;rw[T]at hD n;rw[T,S]at L;rw[T,R]at O;rw[T,S,R])
       |(have I:bQ (fun i=>i=wr.heap.size∨i=Q.heap.size) Q ((((Q.setCell ⟨wr,0,none⟩ (.int .i64 F)).setCell ⟨wr,1,none⟩ (.int .i64 E)).setCell ⟨wr,2,none⟩ (.slice Y U X)).alloc (.cells #[.int .i64 D,.slice C B Z] 79)):=((Eh u).1.mono (fun i _ h=>Or.inl h)).trans (bQ.of_below ((aU _ _).alloc (bC _) _))
         have L:bF ((((Q.setCell ⟨wr,0,none⟩ (.int .i64 F)).setCell ⟨wr,1,none⟩ (.int .i64 E)).setCell ⟨wr,2,none⟩ (.slice Y U X)).alloc (.cells #[.int .i64 D,.slice C B Z] 79)) (wr.heap.size) 90 #[.int .i64 F,.int .i64 E,.slice Y U X]:=(Eh u).2.alloc _;have O:bF ((((Q.setCell ⟨wr,0,none⟩ (.int .i64 F)).setCell ⟨wr,1,none⟩ (.int .i64 E)).setCell ⟨wr,2,none⟩ (.slice Y U X)).alloc (.cells #[.int .i64 D,.slice C B Z] 79)) (Q.heap.size) 79 #[.int .i64 D,.slice C B Z]:=ajb (by simp[World.setCell]) _ _;have hD:=HD.out.step N V I (fun i e=>by have:=N.size;have:=V.2.size;rcases e with e|e<;>omega);have n:=r.dH I (fun i e=>by have:=N.size;have:=V.2.size;rcases e with e|e<;>omega);obtain⟨W9,T⟩:∃W9,((((Q.setCell ⟨wr,0,none⟩ (.int .i64 F)).setCell ⟨wr,1,none⟩ (.int .i64 E)).setCell ⟨wr,2,none⟩ (.slice Y U X)).alloc (.cells #[.int .i64 D,.slice C B Z] 79))=W9:=⟨_,rfl⟩;obtain⟨z8,S⟩:∃z,wr.heap.size=z:=⟨_,rfl⟩;obtain⟨z9,R⟩:∃z,Q.heap.size=z:=⟨_,rfl⟩;rw[T]at hD n;rw[T,S]at L;rw[T,R]at O;rw[T,S,R])
       |(have I:bQ (fun i=>i=Q.heap.size∨i=wr.heap.size) Q (((Q.setCell ⟨wr,0,none⟩ (.int .i64 D)).setCell ⟨wr,1,none⟩ (.slice C B Z)).alloc (.cells #[.int .i64 F,.int .i64 E,.slice Y U X] 90)):=((Gj J).1.mono (fun i _ h=>Or.inr h)).trans (bQ.of_below ((aU _ _).alloc (bC _) _))
         have L:bF (((Q.setCell ⟨wr,0,none⟩ (.int .i64 D)).setCell ⟨wr,1,none⟩ (.slice C B Z)).alloc (.cells #[.int .i64 F,.int .i64 E,.slice Y U X] 90)) (Q.heap.size) 90 #[.int .i64 F,.int .i64 E,.slice Y U X]:=ajb (by simp[World.setCell]) _ _;have O:bF (((Q.setCell ⟨wr,0,none⟩ (.int .i64 D)).setCell ⟨wr,1,none⟩ (.slice C B Z)).alloc (.cells #[.int .i64 F,.int .i64 E,.slice Y U X] 90)) (wr.heap.size) 79 #[.int .i64 D,.slice C B Z]:=(Gj J).2.alloc _;have hD:=HD.out.step N V I (fun i e=>by have:=N.size;have:=V.2.size;rcases e with e|e<;>omega);have n:=r.dH I (fun i e=>by have:=N.size;have:=V.2.size;rcases e with e|e<;>omega);obtain⟨W9,T⟩:∃W9,(((Q.setCell ⟨wr,0,none⟩ (.int .i64 D)).setCell ⟨wr,1,none⟩ (.slice C B Z)).alloc (.cells #[.int .i64 F,.int .i64 E,.slice Y U X] 90))=W9:=⟨_,rfl⟩;obtain⟨z8,S⟩:∃z,Q.heap.size=z:=⟨_,rfl⟩;obtain⟨z9,R⟩:∃z,wr.heap.size=z:=⟨_,rfl⟩;rw[T]at hD n;rw[T,S]at L;rw[T,R]at O;rw[T,S,R])
       |(have I:bQ (fun i=>i=Q.heap.size∨i=Q.heap.size+1) Q ((Q.alloc (.cells #[.int .i64 F,.int .i64 E,.slice Y U X] 90)).alloc (.cells #[.int .i64 D,.slice C B Z] 79)):=bQ.of_below (((aU _ _).alloc (bC _) _).alloc bK _)
         have L:bF ((Q.alloc (.cells #[.int .i64 F,.int .i64 E,.slice Y U X] 90)).alloc (.cells #[.int .i64 D,.slice C B Z] 79)) (Q.heap.size) 90 #[.int .i64 F,.int .i64 E,.slice Y U X]:=(bF.new Q _ _).alloc _;have O:bF ((Q.alloc (.cells #[.int .i64 F,.int .i64 E,.slice Y U X] 90)).alloc (.cells #[.int .i64 D,.slice C B Z] 79)) (Q.heap.size+1) 79 #[.int .i64 D,.slice C B Z]:=bF.new1 _ _ _ _;have hD:=HD.out.step N V I (fun i e=>by have:=N.size;have:=V.2.size;rcases e with e|e<;>omega);have n:=r.dH I (fun i e=>by have:=N.size;have:=V.2.size;rcases e with e|e<;>omega);obtain⟨W9,T⟩:∃W9,((Q.alloc (.cells #[.int .i64 F,.int .i64 E,.slice Y U X] 90)).alloc (.cells #[.int .i64 D,.slice C B Z] 79))=W9:=⟨_,rfl⟩;obtain⟨z8,S⟩:∃z,Q.heap.size=z:=⟨_,rfl⟩;obtain⟨z9,R⟩:∃z,Q.heap.size+1=z:=⟨_,rfl⟩;rw[T]at hD n;rw[T,S]at L;rw[T,R]at O;rw[T,R,S])
       |(have I:bQ (fun i=>i=Q.heap.size+1∨i=Q.heap.size) Q ((Q.alloc (.cells #[.int .i64 D,.slice C B Z] 79)).alloc (.cells #[.int .i64 F,.int .i64 E,.slice Y U X] 90)):=bQ.of_below (((aU _ _).alloc (bC _) _).alloc bK _)
         have L:bF ((Q.alloc (.cells #[.int .i64 D,.slice C B Z] 79)).alloc (.cells #[.int .i64 F,.int .i64 E,.slice Y U X] 90)) (Q.heap.size+1) 90 #[.int .i64 F,.int .i64 E,.slice Y U X]:=bF.new1 _ _ _ _;have O:bF ((Q.alloc (.cells #[.int .i64 D,.slice C B Z] 79)).alloc (.cells #[.int .i64 F,.int .i64 E,.slice Y U X] 90)) (Q.heap.size) 79 #[.int .i64 D,.slice C B Z]:=(bF.new Q _ _).alloc _;have hD:=HD.out.step N V I (fun i e=>by have:=N.size;have:=V.2.size;rcases e with e|e<;>omega);have n:=r.dH I (fun i e=>by have:=N.size;have:=V.2.size;rcases e with e|e<;>omega);obtain⟨W9,T⟩:∃W9,((Q.alloc (.cells #[.int .i64 D,.slice C B Z] 79)).alloc (.cells #[.int .i64 F,.int .i64 E,.slice Y U X] 90))=W9:=⟨_,rfl⟩;obtain⟨z8,S⟩:∃z,Q.heap.size+1=z:=⟨_,rfl⟩;obtain⟨z9,R⟩:∃z,Q.heap.size=z:=⟨_,rfl⟩;rw[T]at hD n;rw[T,S]at L;rw[T,R]at O;rw[T,S,R])
    all_goals
     try dsimp only at hD n
     obtain⟨zU,HB8,zV⟩:=dB hD L O;have aqy:w.heap.size+1<W9.heap.size:=hD.rd.lt;rcases n with⟨qo,A',c',rfl,rfl,rfl,hv,ze,rfl,rfl,rfl,rfl⟩|⟨qO,hv,rfl,rfl,zW,xg⟩
     ·injection hv with zv qw qy
      subst zv qw qy;obtain⟨HPX,zE⟩:=aV (own_base ze (show w.heap.size≤_ by omega)) (qJ.out.trans (Yz zu.out))
      have zw:Hid (qo.length≤9223372036854775807):=ay (by
       have h1:=(So.Pm (b':=x) (bC _) (fun _ _=>rfl) zu.out).2.2.1;have h2:fw*fh≤32*32:=fC zN.2 zO.2;omega)
      obtain⟨⟨y0,y1⟩,-⟩:=iW O;clear hD ze L O I T S R qz r V qj N qh qi zR zS qw qy B1 B2 B3 B4 B5 zr zt qK qL qM qN;go_wp2_with fail;refine(CO _ _ _).mono ?_;rintro e qC ⟨rfl,y⟩;obtain⟨⟨x0,x1,x2⟩,-⟩:=jT (HB8.out.keep y);have s:=zU.out.below y;obtain⟨qf,xh⟩:=aV s (oH HPX.out y);have hlj:l.length≤16:=by have:=zo.out;omega
      have qS:w.heap.size≤qC.heap.size:=s.be.size;clear y s y0 y1;go_wp2_with(at_builtin;refine iy _ rfl (.tmp 98) (.tmp 100) _ rfl w 90 i0 _ 3 40 underlying85 hi xk xl xn rfl aj (.slice AL l cL) l _ rfl (qf.out.row.alloc _) ⟨qC,0,none⟩ 1 1 [.int .i64 fw,.int .i64 fh,.slice Y qo X] rfl rfl (fH (cs:=#[.int .i64 fw,.int .i64 fh,.slice Y qo X]) (t:=90) (fr:=(0,0)) (lV qC _)) (by simp[Value.oneCell']) aj (by unfold maxLen;omega) aj jy _ rfl ?_;intro gb qY zX qT qv xi qP);have zf:Dn (l++ [(⟨fw,fh,Y,qo,X⟩:Ji)])=Dn l++ [.int .i64 fw,.int .i64 fh,.slice Y qo X]:=by rw[Yu];rfl
      have zx:(l++ [(⟨fw,fh,Y,qo,X⟩:Ji)]).length=l.length+1:=bK
      obtain⟨HP,zY⟩:=aV (qf.out.push xh.out fw fh qv (by rw[zx,zf];exact qT)) zx;clear qT qv xi zf zx x0 x1 x2;go_roundg m
      case measure=>omega
      case rel=>
       exact⟨j+1,p2,some ⟨gb,0,none⟩,qY,l++ [⟨fw,fh,Y,qo,X⟩],aj,fA,ay (by rw[zY.out,zo.out]),by rw[zY.out],HP.out,
        ay (fun f hf=>by
         rcases rH.1 hf with h|h
         ·exact qX.out f h
         ·simp at h;subst h;exact⟨rfl,rfl,zw.out⟩),
        ay (by rw[zE.out,gG];rfl)⟩
     ·injection hv with zv qw qy
      subst zv qw qy
      have g:Hid (Dh b= .error ((wz,(j:Int))::frP fr,frC fr)):=ay (by
       rw[qB.out,qJ.out,YA zu.out qO];simp only[fJ];rw[zo.out])
      obtain⟨zZ,xa⟩:=qO.code;obtain⟨c0,zy⟩:∃c0,frC fr=c0:=⟨_,rfl⟩;rw[zy]at g zZ zV O;rw[zy];have hne:(c0==0)=false:=by rw[oO];omega
      have zg:c0≠0:=aj
      obtain⟨HNE,zw,HRP⟩:=dB zg xa zW;obtain⟨⟨y0,y1⟩,-⟩:=iW O;clear hD L O I T S R qz r V qj N qh qi zR zS qw qy B1 B2 B3 B4 B5 zr zt qK qL qM qN qO zZ xa zy zg zW xg;go_wp2_with fail;refine(CO _ _ _).mono ?_;rintro e qC ⟨rfl,y⟩;obtain⟨⟨x0,x1⟩,-⟩:=iW (zV.out.keep y);have s:=zU.out.below y;obtain⟨qf,zF⟩:=aV s (HRP.out.keep y);have qS:w.heap.size<qC.heap.size:=by have:=y.size;omega
      clear y s y0 y1;go_wp2_with fail;refine(QK wz (j:Int) (by have:=zw.out;omega) HNE.out _ zF.out).mono ?_;unfold abh;obtain⟨qZ,qu⟩:∃qZ,((wz,(j:Int))::frP fr).length=qZ:=⟨_,rfl⟩;rw[qu];rintro e xc ⟨qk,M,rfl,d,qa,G⟩;have K:=qf.out.f3.keep G;obtain⟨⟨r0,r1⟩,f0,f1⟩:=iW K;obtain⟨-,hs⟩:=Gj (a':=.int .i64 c0) (b':=.slice qk qZ M) K;obtain⟨⟨s0,s1⟩,-⟩:=iW hs;have hE:=vG.err (cap:=M) g.out K qS qf.out.be (by rw[qu];exact d) qa G;rw[qu]at hE;have HE:=ay hE;clear d qa G K hs x0 x1 hE qu;go_wp2_with fail;refine aT (v:=.tuple #[.slice none 0 0,.agg #[.int .i64 c0,.slice qk qZ M]]) (by simp[results,results41,go_sem,s0,s1]) rfl ?_;exact HE.out
   ·obtain rfl:j=n4:=aj
    obtain rfl:gk=0:=aj
    have zh:Hid (Dh b=VP x j (l.map Ji.Du) p):=ay (by rw[qB.out,qJ.out];rfl);have CA:=ay (adO qW _ aj HD.out.rd);obtain⟨fo,zA⟩:∃fo,iC x p (Af p)=fo:=⟨_,rfl⟩;unfold ai9 at CA;rw[zA]at CA;have xd:=ay zA;have HS:Hid (∀a,iC x p (Af p)=some a→Dh b= .error ([(wz,(j:Int)),(Ii,(a:Int))],2)):=ay (fun a h=>by rw[zh.out];unfold VP;rw[h]);have HN0:Hid (iC x p (Af p)=none→Dh b=if p+Af p<8*x.length then .error ([(wz,(j:Int))],5)else .ok (l.map Ji.Du)):=ay (fun h=>by rw[zh.out];unfold VP;rw[h]);clear zA xf;go_wp2_with fail;refine CA.out.mono ?_;rintro e w5 ⟨A5,qe,rfl,qm,qU,zB⟩;have qD:=HD.out.read zB;have qE:∀cs,Below w5 w5 (w5.alloc (.cells cs 79)):=fun cs=>(aU _ _).alloc (bC _) _
    have zC:w.heap.size+1<w5.heap.size:=qD.rd.lt;rcases fo with _|a
    ·dsimp only[RP,MK]
     simp only[vK];have qF:=qD.below (qE #[.int .i64 0,.slice A5 0 qe]);obtain⟨qG,qH,qt⟩:=dB qF (bF.new w5 79 #[.int .i64 0,.slice A5 0 qe]) (HN0.out xd.out);obtain⟨P,hP⟩:∃P,p+Af p=P:=⟨_,rfl⟩;rw[hP]at qt qG;have r:=qG.out.rd.1;obtain⟨z,hz⟩:∃z,w5.heap.size=z:=⟨_,rfl⟩;rw[hz]at qH zC;clear qD qF qm qU zB qE CA;go_wp2_with fail;clear hz hP;refine(CO _ _ _).mono ?_;rintro e w6 ⟨rfl,ql⟩;have zD:=qG.out.below ql;obtain⟨za,qI,CL⟩:=dB zD (qH.out.keep ql) (RQ qW _ zD.rd);clear ql zD
     by_cases qP:P<8*x.length
     ·have g:=ay (qt.out.trans (aF qP))
      go_wp2_with fail;refine CL.out.mono ?_;rintro e w7 ⟨rfl,nq,rfl⟩;obtain⟨qq,zb⟩:=aV (za.out.below (jM (aU _ w6) nq)) (qI.out.drewN nq);generalize w6.drewN nq=w7 at*;go_wp2_with fail;refine(Jh 5 _).mono ?_;rintro e w9 ⟨rfl,qr⟩;have J:=zb.out.keep qr;have H:=qq.out.below qr;obtain⟨⟨r0,r1⟩,f0,f1⟩:=iW J;obtain⟨qs,qA⟩:=Gj (a':=.int .i64 5) (b':=.slice none 0 0) J;have zG:=H.row;have s:=H.put qs (fun i e=>by have:=zC;omega) (fun i hi e=>dP H.row J bn (by rw[hi,e])) (fun f hf i hi e=>dP (H.of f hf) J bn (by rw[hi,e]));obtain⟨⟨s0,s1⟩,-⟩:=iW qA;obtain⟨qf,HR3⟩:=aV s qA;clear qr J H qs qA zG s;go_wp2_with fail;refine(CO _ _ _).mono ?_;rintro e zX ⟨rfl,qQ⟩;have qR:=ay (qf.out.below qQ);obtain⟨⟨t0,t1⟩,-⟩:=iW (HR3.out.keep qQ);have xj:w.heap.size<zX.heap.size:=qR.out.f3.lt;clear qQ s0 s1 r0 r1 f0 f1;go_wp2_with fail;refine(QK wz (j:Int) (path:=[]) bK bn _ Rd.nil).mono ?_;unfold abh;rintro e xc ⟨qk,M,rfl,d,qa,G⟩;have K:=qR.out.f3.keep G;obtain⟨⟨r0,r1⟩,f0,f1⟩:=iW K;obtain⟨-,hs⟩:=Gj (a':=.int .i64 5) (b':=.slice qk 1 M) K;obtain⟨⟨s0,s1⟩,-⟩:=iW hs;have HE:=ay (vG.err (cap:=M) g.out K xj qR.out.be d qa G);clear d qa G K hs t0 t1;go_wp2_with fail;refine aT (v:=.tuple #[.slice none 0 0,.agg #[.int .i64 5,.slice qk 1 M]]) (by simp[results,results41,go_sem,s0,s1]) rfl ?_;exact HE.out
     ·have g:=ay (qt.out.trans (au qP))
      go_wp2_with fail;refine CL.out.mono ?_;rintro e w7 ⟨rfl,nq,rfl⟩;obtain⟨qq,zb⟩:=aV (za.out.below (jM (aU _ w6) nq)) (qI.out.drewN nq);generalize w6.drewN nq=w7 at*;obtain⟨⟨t0,t1⟩,-⟩:=iW zb.out;go_wp2_with fail;refine(CO _ _ _).mono ?_;rintro e w9 ⟨rfl,qr⟩;have H:=qq.out.below qr;obtain⟨⟨v0,v1⟩,-⟩:=iW (zb.out.keep qr);obtain⟨⟨r0,r1⟩,f0,f1⟩:=iW H.f3;obtain⟨qs,qA⟩:=Gj (a':=.int .i64 0) (b':=.slice A5 0 qe) H.f3;obtain⟨⟨s0,s1⟩,-⟩:=iW qA;have qV:=mO H.row qs (fun i hi e=>dP H.row H.f3 bn (by rw[hi,e]));have zi:Ux _ w l:=fun f hf=>mO (H.of f hf) qs (fun i hi e=>dP (H.of f hf) H.f3 bn (by rw[hi,e]))
      obtain⟨HRF,HBE⟩:=aV (zi.rd qV (fun f hf=>(qX.out f hf).2.2)) (H.be.trans (qs.below H.be.size (fun i e=>aj)));have hzz:¬z=w.heap.size:=aj
      clear qr H qs qA qV zi t0 t1;go_wp2_with fail
      go_region
      all_goals
       go_wp2_with fail;refine aT (v:=.tuple #[.slice AL l cL,.agg #[.int .i64 0,.slice A5 0 qe]]) (by simp[results,results41,go_sem,s0,s1]) rfl ?_;unfold vG;rw[g.out,zj.out.1,zj.out.2];exact⟨⟨AL,cL,l,A5,qe,rfl,HRF.out.keep ((aU _ _).drew),rfl,fun f hf=>⟨(qX.out f hf).1,(qX.out f hf).2.1⟩⟩,HBE.out.drew⟩
    ·dsimp only[RP,MK]at qm ⊢
     simp only[xQ,vK,dI]at qm ⊢;have qF:=qD.below (qE #[.int .i64 2,.slice A5 1 qe]);obtain⟨qG,qH,HR6,g⟩:=jH qF (bF.new w5 79 #[.int .i64 2,.slice A5 1 qe]) (Rd.keep qm (qE #[.int .i64 2,.slice A5 1 qe])) (HS.out a xd.out);obtain⟨z,hz⟩:∃z,w5.heap.size=z:=⟨_,rfl⟩;rw[hz]at qH zC;clear qD qF qm qU zB qE CA;go_wp2_with fail;clear hz;refine(CO _ _ _).mono ?_;rintro e w6 ⟨rfl,ql⟩;obtain⟨za,qI,HR7⟩:=dB (qG.out.below ql) (qH.out.keep ql) (HR6.out.keep ql);obtain⟨⟨t0,t1⟩,-⟩:=iW qI.out;clear ql;go_wp2_with fail;refine(CO _ _ _).mono ?_;rintro e w7 ⟨rfl,zc⟩;obtain⟨qq,HR8⟩:=aV (za.out.below zc) (HR7.out.keep zc);obtain⟨⟨v0,v1⟩,-⟩:=iW (qI.out.keep zc);have hs7:w.heap.size<w7.heap.size:=qq.out.f3.lt;clear zc t0 t1;go_wp2_with fail;refine(QK wz (j:Int) (path:=[(Ii,(a:Int))]) bK bn _ HR8.out).mono ?_;unfold abh;rintro e xc ⟨qk,M,rfl,d,qa,G⟩;have K:=qq.out.f3.keep G;obtain⟨⟨r0,r1⟩,f0,f1⟩:=iW K;obtain⟨-,hs⟩:=Gj (a':=.int .i64 2) (b':=.slice qk 2 M) K;obtain⟨⟨s0,s1⟩,-⟩:=iW hs;have HE:=ay (vG.err (cap:=M) g.out K hs7 qq.out.be d qa G);clear d qa G K hs v0 v1;go_wp2_with fail;refine aT (v:=.tuple #[.slice none 0 0,.agg #[.int .i64 2,.slice qk 2 M]]) (by simp[results,results41,go_sem,s0,s1]) rfl ?_;exact HE.out
theorem acf(V:b.length≤1000000000)(Y:b.length≤c)(Z:∀x∈b,0≤x∧x≤255)(w:World)(X:yK .u8 w A b):
  Calls prog 41 #[.slice A b.length c] w (vG w b):=by
 by_cases U:b.length<5
 ·exact agD U w
 ·by_cases W:b.getD 0 0=75∧b.getD 1 0=83
  ·by_cases T:(1≤b.getD 2 0∧b.getD 2 0≤4)∧(1≤b.getD 3 0∧b.getD 3 0≤4)∧1≤b.getD 4 0∧b.getD 4 0≤16
   ·refine aav V Y Z ?_ w X
    unfold yQ;rw[au U,au (fun h=>h W),au (fun h=>h T)]
   ·exact agF aj Z W T w X
  ·exact agE aj Z W w X
end Go.Proofs.YtiaeohgghaaciaaGreatDoor
