import Derived.Test.YtiaeohgghaaciaaGreatDoorB17
import Derived.Test.YtiaeohgghaaciaaGreatDoorB18
namespace Go.Proofs.YtiaeohgghaaciaaGreatDoor
open Go Go.Maps Go.RowKit Go.Extern.Stop Go.Stop Go.Extern Go.Proofs.Tryz
set_option linter.all false
set_option maxRecDepth 100000
set_option maxHeartbeats 4000000
variable{cu fi go ra ro:Int}{b:List Int}{H N W base c g hi i j lo n qn qx r:Nat}{A:Option Addr}{v:Value}{w:World}
def KA(ks:List gQ)(j:Nat):List yJ:=(List.range j).map fun i=>⟨(dJ ks i).first,(dJ ks i).count,0,0⟩
theorem Wv(ks:List gQ)(j:Nat):KA ks (j+1)=KA ks j++ [⟨(dJ ks j).first,(dJ ks j).count,0,0⟩]:=by unfold KA;rw[jk,gG];rfl
theorem Wx(ks:List gQ)(j:Nat):jq ks (j+1)=jq ks j++(dJ ks j).CP.map fun Z:jL=>(Z.b.length:Int)+8:=by
 show jq ks j++(dJ ks j).CP.map (fun c=>(c.cost:Int))=_
 congr 1
 refine rQ fun c _=>?_
 unfold jL.cost;omega
theorem Wy{k:gQ}(h:i<k.CP):k.CP.getD i ⟨0,[]⟩∈k.CP:=by rw[dG,fP h];exact lS _
def nK(b:aO)(ks:List gQ)(g:aO)(i:Nat):List yJ:=(List.range ks.length).map fun t=>if t<i then Ot b ks g t else⟨(dJ ks t).first,(dJ ks t).count,0,0⟩
theorem WA(b:aO)(ks:List gQ)(g:aO):nK b ks g 0=KA ks ks:=by
 refine rQ fun t _=>au (vM t)
theorem XQ(b:aO)(ks:List gQ)(g:aO):nK b ks g ks=Ku b ks g:=by
 refine rQ fun t Z=>aF (yH.1 Z)
theorem XR(b:aO)(ks:List gQ)(g:aO)(i:Nat):(nK b ks g i).length=ks:=by simp[nK]
theorem Z9(b:aO)(ks:List gQ)(g:aO)(hi:i<(nK b ks g i)):(nK b ks g i)[i]=⟨(dJ ks i).first,(dJ ks i).count,0,0⟩:=by
 simp[nK]
theorem XT(b:aO)(ks:List gQ)(g:aO)(e:yJ):((nK b ks g i).set i e).set i (Ot b ks g i)=nK b ks g (i+1):=by
 rw[List.set_set];apply List.ext_getElem
 ·simp[nK]
 ·intro t Z Y
  rw[List.getElem_set];split
  ·rename_i e;subst e;simp[nK]
  ·rename_i e
   simp only[nK,uN,List.getElem_range]
   by_cases h:t<i
   ·rw[aF h,aF aj]
   ·rw[au h,au aj]
theorem JW{C:Ei}{ks:List gQ}{g:aO}(h:yj C ks g):∀j,j≤ks.length→∀v∈jq ks j,0≤v∧v≤16384
 |0,_,v,Z=>by cases Z
 |j+1,X,v,Z=>by
  rcases rH.1 Z with Z|Z
  ·exact JW h j aj v Z
  ·obtain⟨c,Y,rfl⟩:=FH.1 Z
   have:=h.cost (dJ ks j) (by unfold dJ;rw[dG,fP aj];exact lS _) c Y;omega
theorem YJ(b:aO)(k:gQ)(g:aO):∀f,b.length≤(yC b k g f)
 |0=>bC _
 |f+1=>by
  have:=YJ b k g f;simp only[yC,mG];omega
theorem O6{a b:Int}:∀{l:aO},(∀v∈l,a≤v∧v≤b)→sH a b l=true
 | [],_=>rfl
 |x::l,h=>by
  unfold sH;have:=h x bK;rw[O6 fun v Z=>h v (by simp[Z]),su this.1,su this.2];rfl
theorem abM{C:Ei}{ks:List gQ}{g:aO}(h:yj C ks g)(Z:ks=n):uY (jq ks n)=true:=by
 subst Z;unfold uY;have X:=yg ks ks;have W:=h.tot;rw[jU];refine⟨su aj,?_⟩;exact O6 fun v Y=>by have:=JW h _ (bC _) v Y;omega
theorem SC{C:Ei}{ks:List gQ}{g:aO}(h:yj C ks g):∀k∈ks,∀c∈k.CP,0≤c.k∧c.k≤255∧dV c.b∧c.b.length≤65536:=fun k Y c X=>by
 have Z:=(h.good k Y).cd c X;have Y:=Z.kind;exact⟨aj,aj,Z.Zv,Z.len⟩
theorem aac{C:Ei}{ks:List gQ}{g:aO}(h:yj C ks g)(i:Nat)(hi:i≤ks):(iQ (rF C W H ks) ks g i).length≤3000000:=by
 have V:=Jk (b:=rF C W H ks) (fills:=g) (m:=65536) (fun k Z c Y=>(SC h k Z c Y).2.2.2) (fun i=>by have:=h.fill i;omega) i hi;have e:(rF C W H ks).length=30:=by simp[rF,iG,Lm]
 have X:=h.tot;have U:=h.n;have T:=dD (Gw ks hi) X;omega
theorem adA{C:Ei}{ks:List gQ}{g hd:aO}(h:yj C ks g)(i:Nat)(hi:i≤ks.length)(T:(iQ hd ks g i).length≤3000000):∀f,f≤(dJ ks i).CP.length→(yC (iQ hd ks g i++nT i (dJ ks i)) (dJ ks i) g f).length≤6000000:=fun f Z=>by
 by_cases X:i<ks.length
 ·have Y:dJ ks i∈ks:=by unfold dJ;rw[dG,fP X];exact lS _
  have W:=Lj (b:=iQ hd ks g i++nT i (dJ ks i)) (fills:=g) (m:=65536) (fun c V=>(SC h _ Y c V).2.2.2) (fun i=>by have:=h.fill i;omega) f Z;have e:(nT i (dJ ks i)).length=11:=by simp[nT,iG]
  rw[mG,e]at W;have S:=(h.good _ Y).len;have R:=(h.good _ Y).count;omega
 ·obtain rfl:i=ks:=aj
  have U:dJ ks ks=⟨0,0,0,[]⟩:=by unfold dJ;rw[dG,IU (bC _)];rfl
  rw[U]at Z ⊢;obtain rfl:f=0:=Nat.le_zero.1 Z;have e:(nT ks (⟨0,0,0,[]⟩:gQ)).length=11:=by simp[nT,iG]
  show(iQ hd ks g ks++nT ks ⟨0,0,0,[]⟩).length≤_;rw[mG,e];omega
theorem KC{l:List yJ}{e:yJ}(P:dX Sz w base j n c l)(hi:i<l)(R:l[i]=e):(aN w j (i*4) (aB e.first)∧aN w j (i*4+1) (aB e.count)∧aN w j (i*4+2) (aB e.off)∧aN w j (i*4+3) (aB e.len))∧∀k,w.frozen? (aH j k)=false:=by
 have K:=P.len;obtain⟨M,L,Y,Z⟩:=P.ls.at_ (i:=i) aj;injection Y with Y
 injection Y with Q O
 subst Q O;rw[R]at Z;have V:=Z 0 _ rfl;have U:=Z 1 _ rfl;have T:=Z 2 _ rfl;have S:=Z 3 _ rfl;simp only[Sz,dW,dI]at V U T S;refine⟨⟨V,U,T,S⟩,fun k=>?_⟩;obtain⟨J,X,-,-,W⟩:=P.form aj;injection X with X
 injection X with N I
 rw[N];exact W _
theorem Ov{P:dK}{p:Nat}(X:bF w g 249 (SB W H N qn qx r cu go ra ro fi P n p)):aN w g 11 (aG P n p):=X.at rfl
theorem alY{ks:List gQ}{Z:aO}(qW:jo qn qx r cu go ra ro fi=true)(hW:yu W=true)(hH:yu H=true)(hM:yj ⟨qn,qx,r,cu,go,ra,ro,fi⟩ ks Z)(hn:ks=n)(w:aK)(h:OB w base A n c ks):
  Calls prog 106 #[.agg (jC qn qx r cu go ra ro fi),W,H,aG A n c] w (OH w (Fq ⟨qn,qx,r,cu,go,ra,ro,fi⟩ W H ks Z) (Fq ⟨qn,qx,r,cu,go,ra,ro,fi⟩ W H ks Z)):=by
 obtain⟨HCK,zY,HBC⟩:=dB (fun Q=>wu qW Q) (fun Q=>acZ (v:=0) hW hH aj Q) (fun Q (hw:aP w Q)=>abL (c:=c) hM hn Q (h.keep hw));have HKL:Hid (∀Q,aP w Q→OB Q base A n c ks):=ay (fun Q hw=>h.keep hw);obtain⟨hn1,hn16⟩:=hM.n;rw[hn]at hn1 hn16;have anT:Hid (∀j,j≤n→gY ks j≤16):=ay (fun j hj=>dD (Gw ks (by omega:j≤ks)) hM.tot);have zm:∀i,i<n→(ks.getD i MC).good:=fun i hi=>hM.good _ (by rw[dG,fP aj];exact lS _)
 obtain⟨HG,HM,zH,HSD,HN⟩:=rG zm hM qW (And.intro (GN hW).2 (GN hH).2) hn;obtain⟨W1,hW1,X0,hb⟩:=ES w 23 (jC qn qx r cu go ra ro fi);obtain⟨HW1,HX,HB⟩:=dB hW1 (fun Q (h:aP W1 Q)=>X0.keep h) hb;obtain⟨c0,c1,c2,c3,c4,c5,c6,c7⟩:=EL X0;clear hW1 zm hM hn h hb X0 qW hW hH;go_enter func106,ntmps106;go_upto_region 1 with(fail)
 change Code.wp _ _ _ _ (w.alloc (aS (jC qn qx r cu go ra ro fi) 23));rw[←HW1];go_upto_region 4 with(go_at_call 39;refine(HCK _).aQ ?_;rintro w2 zZ)
 clear c0 c1 c2 c3 c4 c5 c6 c7;go_upto_region 5 with(go_at_call 153;refine(zY _).mono ?_;rintro e w3 ⟨gfr,rfl,-,-,xa⟩)
 obtain⟨W4,xc⟩:∃W4:aK,W4=w3.alloc (aS #[W,H,aG gfr (W*H) (W*H)] 90):=⟨_,rfl⟩;have hb4:aP w3 W4:=by rw[xc];exact aJ w3 _
 change Code.wp _ _ _ _ (w3.alloc (aS #[W,H,aG gfr (W*H) (W*H)] 90));rw[←xc];have E:aP W1 W4:=zZ.trans ((xa.trans (hb4.mono xa.size)).mono zZ.size);obtain⟨xd,zI⟩:=aV (HB.trans (E.mono HB.size)) E;have HBK:=ay (HBC _ xd);clear zZ xa hb4 E xc;go_upto_region 10 with(first|(go_at_call 154;refine HBK.aQ ?_;rintro x xe)|fail)
 obtain⟨qy,HC5⟩:=aV (xd.trans (xe.mono xd.size)) (HX x (zI.trans (xe.mono zI.size)));obtain⟨c0,c1,c2,c3,c4,c5,c6,c7⟩:=EL HC5;clear xe;go_upto_region 11 with(fail)
 obtain⟨W6,qN⟩:∃W6:aK,W6=x.alloc (aS (SB W H 0 qn qx r cu go ra ro fi none 0 0) 249):=⟨_,rfl⟩;have hb6:aP x W6:=by rw[qN];exact aJ x _
 have I6:bF W6 x 249 (SB W H 0 qn qx r cu go ra ro fi none 0 0):=by rw[qN];exact bF.new x _ _
 have s6:W6.heap.size=x+1:=by rw[qN];simp
 change Code.wp _ _ _ _ (x.alloc (aS (SB W H 0 qn qx r cu go ra ro fi none 0 0) 249));rw[←qN];obtain⟨HI6,HB6,qz⟩:=dB I6 hb6 s6;clear hb6 I6 s6 qN c0 c1 c2 c3 c4 c5 c6 c7;go_wp2_with fail
 go_loopg [15,17,52] n (fun k v15 v17 v52 wr=>∃(j F:Nat) (S:dK) (s:Nat) (P:dK) (p:Nat),j+k=n∧v52=j∧v15=aG S F s∧F≤16∧dX Ib wr W6 S F s (jq ks j)∧
  bF wr x 249 (SB W H 0 qn qx r cu go ra ro fi P j p)∧dX Sz wr W6 P j p (KA ks j)∧aP x wr∧W6.heap.size≤wr)
 case atStart=>exact⟨0,0,none,0,none,0,aj,rfl,rfl,aj,dX.nil _ _,HI6,dX.nil _ _,HB6,bC _⟩
 case round=>
  obtain⟨j,F,S,s,P,p,hj,rfl,rfl,hNs,qA,hI,hP,qh,zr⟩:=hrel
  by_cases I:j<n
  ·have hlt':(j:Int)<(n:Int):=aj
   have qk:=qy.trans (qh.mono qy.size);obtain⟨b,o,B,m,d,rfl,c0,c1,c2,c3,ql⟩:=(HKL wr qk).at_ I;obtain⟨n1,n2,n3⟩:=HM.num j (by rw[HN];exact I);have n3:(ks.getD j MC).count=(ks.getD j MC).CP:=n3;have qL:=ql.len;have hnl:F=gY ks j:=by rw[←qA.len,yg]
   have hfn:gY ks (j+1)=gY ks j+(ks.getD j MC).CP:=rfl;have anU:=anT (j+1) aj;have hNm:F+m≤16:=aj
   obtain⟨HSN,HEN⟩:=aV (Wx ks j) (Wv ks j)
   have hcl:∀i,i<m→((ks.getD j MC).CP.getD i ⟨0,[]⟩).b.length≤1000000:=fun i hi=>by
    have:=((HG j I).cd _ (Wy (k:=ks.getD j MC) (i:=i) (by rw[qL];exact hi))).len;omega
   have qO:dJ ks j=ks.getD j MC:=rfl;rw[qO]at HSN HEN;generalize ks.getD j MC=K at*;obtain⟨qX,M,L,apM⟩:=K;dsimp only at*;clear qO n1 n2 n3 qL hnl hfn anU;go_upto_region 15 with(fail)
   obtain⟨W7,zt⟩:∃W7:aK,W7=wr.alloc (aS (CQ qX M L B m d) 192):=⟨_,rfl⟩;have qB:aP wr W7:=by rw[zt];exact aJ wr _
   have X7:bF W7 wr 192 (CQ qX M L B m d):=by rw[zt];exact bF.new wr _ _
   change Code.wp _ _ _ _ (wr.alloc (aS (CQ qX M L B m d) 192));rw[←zt];have x3:=X7.c3;obtain⟨HSZ,HS7,HI7,HP7,HX7,HB7⟩:=MP (ady (c:=d) aj hcl W7 (ql.keep qB)) (qA.keep qB) (hI.keep qB) (hP.keep qB) X7 (qh.trans (qB.mono qh.size));have anV:W6.heap.size≤W7:=dD zr qB.size;have hI5:x.heap.size<W6:=by have:=qz.out;omega
   clear hcl ql c0 c1 c2 c3 qB X7 qA hI hP qh zr qk zt;go_upto_region 16 with(first|(go_at_call 155;refine HSZ.mono ?_;rintro e w8 ⟨S8,s8,rfl,o8,qj⟩;have zu:=ay (HS7.keep qj);have HL8:=ay o8.e.ls;have zJ:=dD anV qj.size)|(at_builtin;refine aaY Ib rfl _ _ rfl rfl zu rfl HL8 (by show _*8≤_;omega) zJ aj ?_;intro S9 s9 w9 o9 xf qm hl9)|fail)
   have I9:=(HI7.keep qj).dH qm (fun e=>by have:=(zu.dN e).1;omega);have P9:=(HP7.keep qj).dH qm (D5 (HP7.keep qj) zu bn);have X9:=(HX7.keep qj).dH qm (uq zu (HX7.keep qj) bn);have x1:=X9.c1;have x2:=X9.c2;have zv:=Ov I9;have HB9:=ay ((HB7.trans (qj.mono HB7.size)).trans (xf.mono aj));have anW:W6.heap.size≤w9:=dD zJ xf.size;have qi:=aJ w9 (aS #[M,L,aB 0,aB 0] 252);obtain⟨zY,qY,zK⟩:=dB (bF.new w9 252 #[M,L,aB 0,aB 0]) (P9.keep qi) (o9.keep qi);have I10:=I9.keep qi;have anX:=ay I10;have qD:=dD anW qi.size;have anY:=ay (HB9.trans (qi.mono HB9.size));clear I9 I10 P9 X9 qi qj o8 xf qm hl9 o9 x3;go_upto_region 17 with(first|(at_builtin;refine BA Sz (v:=⟨M,L,0,0⟩) rfl _ _ rfl rfl qY rfl zY (by show(_+1)*32≤_;omega) qD aj ?_;intro qP qQ w11 xg qZ za anZ;have zw:=anX.dH za (fun e=>by have:=(qY.dN e).1;omega);have y12:=Ov zw;have f12:=zw.frozen 11)|fail)
   have Y:=(bQ.refl (fun i=>i=x) w11).setCell (p:=(aH x 11)) (fun _=>rfl) (aG qP (j+1) qQ);have I12:bF _ x 249 (SB W H 0 qn qx r cu go ra ro fi qP (j+1) qQ):=zw.store 11 (aG qP (j+1) qQ);have xh:=xg.dH Y (fun i hi e=>by have:=(xg.dN hi).1;omega);have xi:=zK.dH za (D5 zK qY bn);have xj:=xi.dH Y (fun i hi e=>by have:=(xi.dN hi).1;omega);rw[←HSN]at xj;rw[←HEN]at xh;have B12:=(anY.trans (qZ.mono aj)).setCell (p:=(aH x 11)) (bC _) (aG qP (j+1) qQ);have zL:=dD qD (dD qZ.size (Y.size));obtain⟨an0,an1,an2,an3,an4⟩:=rG I12 xh xj B12 zL;clear Y zw I12 xh xi xj B12 zL xg qZ za anZ qD;go_wp2_with fail;go_roundg(gk-1)
   case measure=>omega
   case rel=>exact⟨j+1,F+m,S9,s9,qP,qQ,aj,fA,rfl,hNm,an2,an0,an1,an3,an4⟩
  ·obtain rfl:j=n:=aj
   have qF:=qA.len;have qG:=(qh.setCell (p:=(aH x 2)) (bC _) F);have Y:=(bQ.refl (fun i=>i=x) wr).setCell (p:=(aH x 2)) (fun _=>rfl) F;have xk:bF _ x 249 (SB W H F qn qx r cu go ra ro fi P j p):=hI.store 2 F;have hI5:x.heap.size<W6:=by have:=qz.out;omega
   have xl:=hP.dH Y (fun i hi e=>by have:=(hP.dN hi).1;omega);have xn:=qA.dH Y (fun i hi e=>by have:=(qA.dN hi).1;omega);have y2:=hI.c2;have f2:=hI.frozen 2;obtain⟨qe,hW⟩:∃qe:aK,qe=wr.setCell ⟨x,2,none⟩ F:=⟨_,rfl⟩;rw[←hW]at qG Y xk xl xn;have HWE:=ay hW;have zM:W6.heap.size≤qe:=dD zr Y.size;obtain⟨c0,c1,c2,c3,c4,c5,c6,c7⟩:=EL (HC5.keep qG);have xp:Z=F:=by rw[←qF];exact CV (HN▸HM.vI.fills)
   have zx:=ay (show Calls prog 156 #[.agg (jC qn qx r cu go ra ro fi),aG S F s] qe (Ol qe (.ok Z)) by
    have hk:=afB (qn:=qn) (qx:=qx) (re:=r) (cu:=cu) (go:=go) (ra:=ra) (ro:=ro) (fi:=fi) (l:=jq ks j) (c:=s) aj qe xn.own.ls.rd;rw[qF,zH,abM HM HN,VI (HN▸HM.vI.fills)]at hk;exact hk)
   have zx:=ay (zx.mono (fun e Q (h:Ol qe (.ok Z) e Q)=>show∃GA gc,(∀q,GA=some q→qe.heap.size≤q.block)∧e=bM (eP #[aG GA F gc,iI])∧Ls Q GA F Z∧aP qe Q by
    obtain⟨GA,gc,⟨-,h1⟩,h2,h3,h4⟩:=h;rw[xp]at h2;exact⟨GA,gc,h1,h2,⟨xp,h3⟩,h4⟩))
   obtain⟨zN,an5,zO,apU,HLN⟩:=rG xl xk (qy.trans (qG.mono qy.size)) zM (show F=(jq ks ks) by rw[HN];exact qF.symm);go_upto_region 19 with(fail)
   change Code.wp _ _ _ _ (wr.setCell ⟨x,2,none⟩ F);rw[←HWE.vI];clear y2 f2 qF qG Y xk xl xn hW xp qA hI hP qh zr I zM;go_upto_region 22 with(first|(go_at_call 156;refine zx.mono ?_;rintro e X ⟨GA,gc,hgb,rfl,hgr,E⟩)|fail)
   clear c0 c1 c2 c3 c4 c5 c6 c7;have G:=an5.keep E;have P14:=zN.keep E;obtain⟨zP,g,zy⟩:=dB G P14 hgr;have HGB:Hid (∀q,GA=some q→¬In P q.block):=ay (fun q hq e=>by have:=(zN.dN e).2;have:=hgb q hq;omega);have U:=ay (zO.trans (E.mono zO.size));obtain⟨i0,i1,i2,i3,i4,i5,i6,i7,i8,i9,i10,i11⟩:=G.s12;obtain⟨hw1,hh1⟩:=HSD;obtain⟨HHE,HAD⟩:=aV (adx (W:=W) (H:=H) (N:=F) (qn:=qn) (qx:=qx) (r:=r) (n:=j) (p:=p) (cu:=cu) (go:=go) (ra:=ra) (ro:=ro) (fi:=fi) (P:=P) aj aj X) (fun Q (hw:aP X Q) B b (o:Lb Q B 22 (Di ⟨qn,qx,r,cu,go,ra,ro,fi⟩ W H F j))=>add_any (base:=X.heap.size) (k:=16) (c:=0) (d:=b) aj aj (TW _ _ _ _ _) aj Q (OwnB.nil Q X []) o hw.size);clear E G P14 hgr hgb;go_upto_region 23 with(first|(go_at_call 158;refine HHE.mono ?_;rintro e w15 ⟨B15,b15,rfl,o15,qH⟩)|(go_at_call 157;refine(HAD _ qH _ _ o15.lb).mono ?_;intro e w16 h16;obtain⟨B16,b16,rfl,zA,zQ⟩:=h16.fresh)|fail)
   have HFN:Hid (∀k,k<F→0≤Z.getD k 0):=ay (fun k hk=>by
    have hm:=tu zH;have:=(YE (HM.fills) (fun v hv=>(JW HM _ (bC _) v hv).1) (aj:fi≤ro) (aj:0≤ra) k (by rw[zy.len];exact hk)).1;rwa[dG,fP (by rw[zy.len];exact hk)])
   have qM:=HN.vI;have hdq: []++dQ 16 (Di ⟨qn,qx,r,cu,go,ra,ro,fi⟩ W H F j)=rF ⟨qn,qx,r,cu,go,ra,ro,fi⟩ W H ks:=by unfold rF;rw[←HLN,qM];rfl
   have zA:OwnB w16 X B16 30 b16 (rF ⟨qn,qx,r,cu,go,ra,ro,fi⟩ W H ks):=by rw[←hdq];exact zA
   have qE:aP X w16:=qH.trans (zQ.mono qH.size);obtain⟨an6,an7⟩:=aV zA (bQ.of_below (S:=In P) qE);have xq:=g.keep qE;rw[←qM,←WA (rF ⟨qn,qx,r,cu,go,ra,ro,fi⟩ W H ks) ks Z,qM]at xq;obtain⟨an8,HBY,xr⟩:=dB xq (VT (C:=⟨qn,qx,r,cu,go,ra,ro,fi⟩) (W:=W) (H:=H) (ks:=ks) (fills:=Z) (SC HM) HM.n.2) (fun i (hi:i≤j)=>aac HM (W:=W) (H:=H) i (by rw[qM];exact hi));have HMF:Hid (Fq ⟨qn,qx,r,cu,go,ra,ro,fi⟩ W H ks Z=wG ⟨qn,qx,r,cu,go,ra,ro,fi⟩ W H ks Z++dQ 19 (dY (uD ⟨qn,qx,r,cu,go,ra,ro,fi⟩ W H ks Z)++dY (jf (wG ⟨qn,qx,r,cu,go,ra,ro,fi⟩ W H ks Z)))):=ay rfl;have HMI:Hid (wG ⟨qn,qx,r,cu,go,ra,ro,fi⟩ W H ks Z=uD ⟨qn,qx,r,cu,go,ra,ro,fi⟩ W H ks Z++dQ 18 (wB (Ku (rF ⟨qn,qx,r,cu,go,ra,ro,fi⟩ W H ks) ks Z) j)):=ay (by unfold wG;rw[qM]);have HMB:Hid (iQ (rF ⟨qn,qx,r,cu,go,ra,ro,fi⟩ W H ks) ks Z j=uD ⟨qn,qx,r,cu,go,ra,ro,fi⟩ W H ks Z):=ay (by unfold uD;rw[qM]);have HEA:=ay (XQ (rF ⟨qn,qx,r,cu,go,ra,ro,fi⟩ W H ks) ks Z);generalize wG ⟨qn,qx,r,cu,go,ra,ro,fi⟩ W H ks Z=MI at*;generalize uD ⟨qn,qx,r,cu,go,ra,ro,fi⟩ W H ks Z=MB at*;generalize rF ⟨qn,qx,r,cu,go,ra,ro,fi⟩ W H ks=J at*;clear hdq zA qE xq qH zQ o15 i0 i1 i2 i3 i4 i5 i6 i7 i8 i9 i10 i11 hw1 hh1 HHE HAD zx;go_wp2_with fail
   go_loopg [20,21,22,23,24,25,91] j (fun k xt v21 v22 v23 v24 v25 v91 wq=>∃(i N:Nat) (B:dK) (b:Nat),i+k=j∧v91=i∧xt=aG B N b∧OwnB wq X B N b (iQ J ks Z i)∧dX Sz wq W6 P j p (nK J ks Z i)∧bQ (In P) X wq)
   case atStart=>exact⟨0,30,B16,b16,aj,rfl,rfl,an6,an8,an7⟩
   case round=>
    obtain⟨i,N,B,b,hi,rfl,rfl,own,hP,Y⟩:=hrel
    by_cases I:i<j
    ·have hlt':(i:Int)<(j:Int):=aj
     have qk:=eH U Y U.size (fun t ht=>by have:=(g.dN ht).1;have:=qz.out;have:=qy.size;omega);obtain⟨kb,ko,KB,km,kd,rfl,c0,c1,c2,c3,ql⟩:=(HKL w (aU _ _)).at_ I;have c0:=aC c0 qk;have c1:=aC c1 qk;have c2:=aC c2 qk;have c3:=aC c3 qk;obtain⟨n1,n2,n3⟩:=HM.num i (by rw[HN];exact I);have qL:=ql.len;have qC:iQ J ks Z (i+1)=yC (iQ J ks Z i++nT i (dJ ks i)) (dJ ks i) Z (dJ ks i).CP:=rfl;have hfl:=adA HM (hd:=J) i (by rw[HN];exact pO I) (xr i (pO I))
     have hff:(dJ ks i).first+(dJ ks i).CP≤F:=by
      have h1:gY ks (i+1)=gY ks i+(dJ ks i).CP:=rfl;have h2:=Gw ks (show i+1≤ks.length by rw[HN];exact I);have h3:=HLN.vI;rw[yg]at h3;omega
     have hgd:=HG i I;have qO:ks.getD i MC=dJ ks i:=rfl;have zb:Ot J ks Z i=⟨(dJ ks i).first,(dJ ks i).count,(iQ J ks Z i).length,(iQ J ks Z (i+1)).length-(iQ J ks Z i)⟩:=rfl;have hel:=fun h=>Z9 J ks Z (i:=i) h
     have hes:=fun e=>XT J ks Z (i:=i) e
     have hll:=XR J ks Z i;have zc:=own.len;rw[qO]at c0 c1 c2 ql qL hgd;rw[n1]at c0;rw[qC,zc]at zb;obtain⟨HNX,ze,HES,aoa,HGD,qs⟩:=MP qC zb hes hfl hgd qL;obtain⟨u,rfl,ap5,ap6,hpf⟩:=hP.form aj;rw[HN]at hll;have qo:i<(nK J ks Z i):=by rw[hll];exact I
     have qR:=hel qo;obtain⟨T,hkf⟩:∃T,T=(dJ ks i).first:=⟨_,rfl⟩;obtain⟨y,hkc⟩:∃y,y=(dJ ks i).count:=⟨_,rfl⟩;rw[←hkf]at c1 qR hff ze;rw[←hkc]at c2 qR ze;obtain⟨HKF,HKC,HPF,HPN⟩:=jH hkf hkc hpf zc;clear n1 n2 n3 qC hfl hgd qO zb hel hes hll zc qL hkf hkc hpf;go_upto_region 26 with(fail)
     obtain⟨qq,qI⟩:∃qq:aK,qq=wr.alloc (aS (CQ i T y KB km kd) 192):=⟨_,rfl⟩;have qt:aP wr qq:=by rw[qI];exact aJ wr _
     have X17:bF qq wr 192 (CQ i T y KB km kd):=by rw[qI];exact bF.new wr _ _
     change Code.wp _ _ _ _ (wr.alloc (aS (CQ i T y KB km kd) 192));rw[←qI];have P17:=hP.keep qt;have I17:=(zP.dH Y (fun e=>by have:=(g.dN e).1;have:=qz.out;omega)).keep qt;have zv:=Ov I17;obtain⟨⟨p0,p1,p2,p3⟩,zB⟩:=KC P17 qo qR;have f2:=zB (i*4+2);have hIn:In (some (aH u 0):dK) u:=⟨_,rfl,rfl⟩;have am1:=(g.dN hIn).2;have zC:dX Sz (qq.setCell ⟨u,i*4+2,none⟩ N) W6 u j p ((nK J ks Z i).set i ⟨T,y,N,0⟩):=dX.store (R:=Sz) (i:=i) (j:=2) (a:=(⟨T,y,N,0⟩:yJ)) (v:=aB N) P17 qo bn (by rw[qR];rfl);have qu:=(bQ.refl (fun t=>t=u) qq).setCell (p:=(aH u (i*4+2))) (fun _=>rfl) N;obtain⟨qf,zf⟩:∃qf:aK,qf=qq.setCell ⟨u,i*4+2,none⟩ N:=⟨_,rfl⟩;rw[←zf]at zC qu;have zg:=(Y.trans (bQ.of_below qt)).trans (qu.mono (fun t _ e=>e▸hIn));have zn:=(own.keep qt).dH qu (fun t ht e=>by have:=(own.e.dN ht).1;omega);have X18:=X17.dH qu aj;have qS:((nK J ks Z i).set i ⟨T,y,N,0⟩)[i]'(by rw[pG];exact qo)=⟨T,y,N,0⟩:=List.getElem_set_self _;obtain⟨⟨d0,d1,d2,d3⟩,-⟩:=KC zC (by rw[pG];exact qo) qS;have hN3:=xr i (pO I);rw[own.len]at hN3;have hbz:X.heap.size≤qf:=zg.size;clear qI c0 c1 c2 c3;go_upto_region 28 with(fail)
     change Code.wp _ _ _ _ (qq.setCell ⟨u,i*4+2,none⟩ N);rw[←zf];obtain⟨HKB,HGK⟩:=aV (fun Q (hc:bQ (In u) X Q)=>show ML Q base KB km kd (dJ ks i).CP from ql.keep (eH U hc U.size (fun t ht=>by have:=(g.dN ht).1;have:=qz.out;have:=qy.size;omega))) (fun Q (hc:bQ (In u) X Q)=>show Ls Q GA F Z from⟨zy.len,zy.rd.dH hc (fun q hq=>HGB q hq)⟩);have qT:=aJ qf (aS #[.int .u8 (IntKind.u8.wrap (i:Int)),.int .u8 (IntKind.u8.wrap (T:Int)),.int .u8 (IntKind.u8.wrap (y:Int))] 5);have zo:=(OwnB.built (w:=qf) (base:=qf.heap.size) (l:=[IntKind.u8.wrap (i:Int),IntKind.u8.wrap (T:Int),IntKind.u8.wrap (y:Int)]) (bC _) bK).lb;have zR:Lb (qf.alloc (aS #[.int .u8 (IntKind.u8.wrap (i:Int)),.int .u8 (IntKind.u8.wrap (T:Int)),.int .u8 (IntKind.u8.wrap (y:Int))] 5)).drew qf 3 [IntKind.u8.wrap (i:Int),IntKind.u8.wrap (T:Int),IntKind.u8.wrap (y:Int)]:=zo.keep (aU _ _).drew
     have hlb:Bd 0 255 [IntKind.u8.wrap (i:Int),IntKind.u8.wrap (T:Int),IntKind.u8.wrap (y:Int)]:=by
      intro v hv;rw[Ew,Ew,Ew]at hv;simp only[je,kS,or_false]at hv;rcases hv with rfl|rfl|rfl<;>omega
     have aod:Hid (iQ J ks Z i++dQ 17 [IntKind.u8.wrap (i:Int),IntKind.u8.wrap (T:Int),IntKind.u8.wrap (y:Int)]=iQ J ks Z i++nT i (dJ ks i)):=ay (by rw[Ew,Ew,Ew,HKF,HKC];rfl);have PA:=(zC.keep qT).drew;have XA:=(X18.keep qT).keep (aU _ _).drew;have qv:=(zn.keep qT).drew;have hcA:=(zg.trans (bQ.of_below qT)).drew;have zS:=hcA.size;obtain⟨⟨a0,a1,a2,a3⟩,-⟩:=KC PA (by rw[pG];exact qo) qS;have g0:aN qf.drew u (i*4) (aB T):=d0;have g1:aN qf.drew u (i*4+1) (aB y):=d1;clear zf P17 I17 zv X17 qt qu p0 p1 p2 p3 f2 zB own hP Y qk ql zo qT qR
     go_region_held3(fun W=>aN W u (i*4) (aB T)∧aN W u (i*4+1) (aB y))
      (first|with_reducible exact⟨d0,d1⟩|with_reducible exact⟨g0,g1⟩|with_reducible exact⟨a0,a1⟩|with_reducible exact⟨x0,x1⟩|fail)
      (first
        |(go_at_call 157;refine(add_any (k:=17) aj aj hlb aj _ qv zR zS).mono ?_;rintro e qU ⟨B19,b19,rfl,qr,z,zh⟩;have P19:=PA.dH z (D5 PA qv.e bn);have X19:=XA.dH z (Jl qv XA bn);obtain⟨⟨x0,x1,x2,x3⟩,-⟩:=KC P19 (by rw[pG];exact qo) qS)
        |fail)
     have aof:=ay (hcA.step z (fun t ht hb=>by have:=(qv.e.dN hb).1;omega));rw[aod]at qr;obtain⟨qJ,aog⟩:=aV qr P19;have k3:=X19.c3;clear qr P19 X19 z zh x0 x1 x2 x3 PA XA qv hcA zS a0 a1 a2 a3 g0 g1 d0 d1 d2 d3 zR hlb zC X18 zn zg;have hfk:T+km≤F:=by rw[←qs];exact hff
     have HH0:=ay (YJ (iQ J ks Z i++nT i (dJ ks i)) (dJ ks i) Z);have HLP:Hid ((iQ J ks Z i).length=N):=ay HPN;clear hff;go_wp2_with fail
     go_loopg [20,24,25,123] km (fun k xt v24 v25 aoh wi=>∃(f N2:Nat) (B2:dK) (b2:Nat),f+k=km∧aoh=f∧xt=aG B2 N2 b2∧OwnB wi X B2 N2 b2 (yC (iQ J ks Z i++nT i (dJ ks i)) (dJ ks i) Z f)∧dX Sz wi W6 u j p ((nK J ks Z i).set i ⟨T,y,N,0⟩)∧bQ (In u) X wi)
     case atStart=>exact⟨0,N+(3+8),B19,b19,aj,rfl,rfl,qJ,aog,aof⟩
     case round=>
      obtain⟨f,N2,B2,b2,hf,rfl,rfl,own,hP,Y⟩:=hrel;have zT:i<((nK J ks Z i).set i ⟨T,y,N,0⟩):=by rw[pG];exact qo
      obtain⟨⟨d0,d1,d2,d3⟩,zB⟩:=KC hP zT qS;have hN6:=aoa f (by rw[qs];omega);rw[own.len]at hN6
      by_cases hlf:f<km
      ·have aqa:(f:Int)<(km:Int):=aj
       obtain⟨xb,xo,DB,dm,dd,rfl,q0,q1,oD⟩:=(HKB wr Y).at_ hlf;have hgf:=HGK wr Y;obtain⟨gB,gO,rfl,zD⟩:=hgf.at_ (i:=T+f) aj
       have hgB:gB<X:=by
        obtain⟨b',o',e',kk⟩:=(HGK X (bQ.refl _ _)).at_ (i:=T+f) aj;injection e' with e'
        injection e' with e1 e2
        subst e1;exact lt_of_cell kk
       have hgn:=HFN (T+f) aj;have hgm:=HM.fill (T+f);have qC:yC (iQ J ks Z i++nT i (dJ ks i)) (dJ ks i) Z (f+1)=yC (iQ J ks Z i++nT i (dJ ks i)) (dJ ks i) Z f++dQ ((dJ ks i).CP.getD f ⟨0,[]⟩).k ((dJ ks i).CP.getD f ⟨0,[]⟩).b++List.replicate (Aq Z (T+f)) 0:=by rw[HKF];rfl
       have zE:=HGD.cd _ (Wy (k:=dJ ks i) (i:=f) (by rw[qs];exact hlf));have hck1:=zE.kind;have hdl:=zE.len;have hdb:=zE.Zv;have hdm:=oD.len;generalize(dJ ks i).CP.getD f ⟨0,[]⟩=CD at*;obtain⟨ck,cb⟩:=CD;dsimp only at*;rw[hdm]at hdl;have aoi:1≤ck∧ck≤255:=aj
       obtain⟨fm,hfm⟩:∃fm,fm=Aq Z (T+f):=⟨_,rfl⟩;have hgv:Z.getD (T+f) 0=(fm:Int):=by rw[hfm];unfold Aq;omega
       rw[hgv]at zD;rw[←hfm]at qC hgm;have HNF:=ay qC;have aoj:dm≤65536:=hdl;have h63:N2+(dm+8)+fm≤1000000000:=aj
       have hN8:N2≤100000000:=aj
       obtain⟨ix,hix⟩:∃ix:Nat,ix=T+f:=⟨_,rfl⟩;have hNs:(ix:Int)<(F:Int):=aj
       have aqd:ix<F:=aj
       have HW:=ay (show IntKind.i64.wrap ((T:Int)+(f:Int))=(ix:Int) by rw[iE _ aj];omega);rw[←hix]at zD;clear qC hgn hgm hgv hfm hgf zE hck1 hdm hdl hN6 hix;go_upto_region 31 with(fail)
       go_upto_region 32 with(fail)
       have V:=aJ wr (aS #[ck,aG DB dm dd] 257);have zF:=bF.new wr 257 #[ck,aG DB dm dd];obtain⟨W20,zU⟩:∃W20:aK,W20=wr.alloc (aS #[ck,aG DB dm dd] 257):=⟨_,rfl⟩;change Code.wp _ _ _ _ (wr.alloc (aS #[ck,aG DB dm dd] 257));rw[←zU]at V zF ⊢;have XD:=zF.keep (aU _ _).drew;obtain⟨x0,x1⟩:=EG zF;obtain⟨y0,y1⟩:=EG XD;have dd0:=aC d0 V;have gc1:=aC zD V;have ed0:=aC d0 V.drew;have eg0:=aC zD V.drew;have PD:=(hP.keep V).drew;have qK:=(own.keep V).drew;have hCD:=(Y.trans (bQ.of_below V)).drew;have zi:=hCD.size;have hDB:=(oD.keep V).drew.lb;have e0:=HW.vI;have hDs:∀t,In B2 t→X≤t:=fun t ht=>(own.e.dN ht).1
       have zG:∀t,t<X.heap.size→¬In B2 t:=fun t h1 h2=>Nat.lt_irrefl _ (wP h1 (hDs t h2))
       have hXB:=Jl qK XD bn;have hPB:=D5 PD qK.e bn;have aqh:=zG;clear V zU zF own hP Y hDs oD
       go_region_held3(fun W=>aN W wr 0 (aB ck)∧aN W wr 1 (aG DB dm dd)∧aN W u (i*4) (aB T)∧aN W gB (gO+ix) (aB fm))
        (first|with_reducible exact⟨x0,x1,dd0,gc1⟩|with_reducible exact⟨y0,y1,ed0,eg0⟩|with_reducible exact⟨v0,v1,v2,v3⟩|fail)
        (first
          |(refine am0 kE (.tmp 133) (.tmp 142) kE kE qg.e kE h63 aom ?_;intro B22 b22 w22 qV qa aon;have zj:=Jl qg X21 bn;have v0:=bG v0 qa zj;have v1:=bG v1 qa zj;have v2:=bG v2 qa (fun(e:In _ u)=>by have:=(qg.e.dN e).1;omega);have v3:=bG v3 qa (fun(e:In _ gB)=>by have:=(qg.e.dN e).1;omega))
          |(go_at_call 157;refine(add_any aoi aoj hdb hN8 _ qK hDB zi).mono ?_;rintro e w21 ⟨B21,b21,rfl,qg,O,zV⟩;have v0:=bG y0 O hXB;have v1:=bG y1 O hXB;have v2:=bG ed0 O (zG u am1);have v3:=bG eg0 O (zG gB hgB);have X21:=XD.dH O hXB;have aom:X.heap.size≤w21:=dD zi O.size)
          |fail)
       have P21:=PD.dH O hPB;have P22:=P21.dH qa (D5 P21 qg.e bn);have aop:=ay ((hCD.step O (fun t ht hb=>absurd hb (zG t ht))).step qa (fun t ht hb=>by have:=(qg.e.dN hb).1;omega));have qV:=qV.ownB;rw[←HNF]at qV;obtain⟨aoq,aor⟩:=aV qV P22;clear P21 P22 qV qa aon O zV v0 v1 v2 v3 X21 zj qg PD XD qK hDB hCD zi e0;go_wp2_with fail;go_roundg(gk-1)
       case measure=>omega
       case rel=>exact⟨f+1,_,B22,b22,aj,fA,rfl,aoq,aor,aop⟩
      ·obtain rfl:f=km:=aj
       have hNN:N≤N2:=by
        have h:=HH0 f;rw[own.len,mG,HLP]at h;omega
       have zq:((N2-N:Nat):Int)=(N2:Int)-N:=aj
       have f3:=zB (i*4+3);have P9:dX Sz (wr.setCell ⟨u,i*4+3,none⟩ (aB ((N2:Int)-N))) W6 u j p (((nK J ks Z i).set i ⟨T,y,N,0⟩).set i ⟨T,y,N,N2-N⟩):=dX.store (R:=Sz) (i:=i) (j:=3) (a:=(⟨T,y,N,N2-N⟩:yJ)) (v:=aB ((N2:Int)-N)) hP zT bn (by rw[qS];show [_,_,_,Value.int .i64 ((N2-N:Nat):Int)]=_;rw[zq];rfl);have qm:=(bQ.refl (fun t=>t=u) wr).setCell (p:=(aH u (i*4+3))) (fun _=>rfl) (aB ((N2:Int)-N));have zk:=own.dH qm (fun t ht e=>by have:=(own.e.dN ht).1;omega);have hC9:=Y.trans (qm.mono (fun t _ e=>e▸hIn));have zW:yC (iQ J ks Z i++nT i (dJ ks i)) (dJ ks i) Z f=iQ J ks Z (i+1):=by rw[HNX,qs]
       have zX:((nK J ks Z i).set i ⟨T,y,N,0⟩).set i ⟨T,y,N,N2-N⟩=nK J ks Z (i+1):=by
        rw[←HES ⟨T,y,N,0⟩,ze,qs,own.len]
       rw[zW]at zk;rw[zX]at P9;obtain⟨HO9,HP9,HC9⟩:=dB zk P9 hC9;clear P9 zk hC9 qm zW zX own hP Y zq;go_wp2_with fail;go_roundg(j-i-1)
       case measure=>omega
       case rel=>exact⟨i+1,N2,B2,b2,aj,fA,rfl,HO9,HP9,HC9⟩
    ·obtain rfl:i=j:=aj
     have hO:=own;rw[HMB]at hO;have hNl:=hO.len;have hNb:=xr i (bC _);rw[HMB,hNl]at hNb;have hbz:X.heap.size≤wr:=Y.size;have Iq:=zP.dH Y (fun e=>by have:=(g.dN e).1;have:=qz.out;omega);have zv:=Ov Iq
     have hq:Qo Sz wr P i (Ku J ks Z):=by
      have h:=hP.ls;rw[←HEA,HN];exact h
     obtain⟨HIX,HA8,HCH,HO⟩:=jH (aga (c:=p) aj wr hq) (fun Q (hw:aP wr Q) D d (o:Lb Q D (10*i) (wB (Ku J ks Z) i))=>add_any (k:=18) (d:=d) aj aj (Lp _ _) aj Q (hO.keep hw) o (dD hbz hw.size)) (eH U Y U.size (fun t ht=>by have:=(g.dN ht).1;have:=qz.out;have:=qy.size;omega)) hO;have HMQ:Hid (dY (MB.length:Int)=dY (N:Int)):=ay (by rw[hNl]);have hN9:N≤3000000:=hNb;clear own hP Y I Iq hq hO hNl hNb;go_upto_region 37 with(fail)
     go_upto_region 38 with(first|(go_at_call 159;refine HIX.mono ?_;rintro e w18 ⟨B18,b18,rfl,o18,qw⟩)|(go_at_call 157;refine(HA8 _ qw _ _ o18.lb).mono ?_;rintro e qU ⟨B19,b19,rfl,qr,z,zh⟩;rw[←HMI]at qr)|fail)
     have HT:=ay (ait (c:=b19) (at_:=N) aj HBY.2.1 qU qr.lb);have am2:X.heap.size≤qU:=dD (dD hbz qw.size) z.size;have qJ:=ay qr;obtain⟨HA9,zl⟩:=aV (fun Q (hw:aP qU Q) D d (o:Lb Q D 8 (dY (N:Int)++dY (jf MI)))=>add_any (k:=19) (d:=d) aj aj ((jR _).app (jR _)) aj Q (qJ.out.keep hw) o (dD am2 hw.size)) ((HCH.trans (qw.mono HCH.size)).trans (z.below (by have:=U.size;have:=qw.size;omega) (fun t ht=>by have:=(HO.e.dN ht).1;have:=U.size;omega)));clear o18 qw qr z zh zv;go_wp2_with(first|(go_at_call 160;refine HT.mono ?_;rintro e w20 ⟨B20,b20,rfl,o20,V⟩)|(go_at_call 157;refine(HA9 _ V _ _ o20.lb).mono ?_;rintro e w21 ⟨B21,b21,rfl,qg,O,zV⟩)|fail);go_ret2;have hle:=qg.len;rw[HMF,HMQ];exact⟨B21,b21,by rw[hle];rfl,by rw[hle];exact qg.lower U.size,(zl.trans (V.mono zl.size)).trans (O.below (by have:=zl.size;have:=V.size;omega) (fun t ht=>by have:=(qJ.e.dN ht).1;have:=U.size;omega))⟩
theorem adC{P:fG}(h:P.ok):yu P.W=true∧yu P.H=true:=by
 have Z:=h.may (P.fs[0]'(by have:=h.n;omega)) (lS _);unfold GK at Z;simp only[jU]at Z;exact⟨Z.1.1.1,Z.1.1.2⟩
theorem SE{P:fG}(X:jo qn qx r cu go ra ro fi=true)(z:P.ok)(a:yj ⟨qn,qx,r,cu,go,ra,ro,fi⟩ (fF ⟨qn,qx,r,cu,go,ra,ro,fi⟩ P P.gs) (uF ⟨qn,qx,r,cu,go,ra,ro,fi⟩ P))(w:aK)(h:Bv w lo hi v P)(E:OB w base A P.gs c (fF ⟨qn,qx,r,cu,go,ra,ro,fi⟩ P P.gs)):
  Calls prog 61 #[.agg (jC qn qx r cu go ra ro fi),v,aG A P.gs c] w (OH w (rX ⟨qn,qx,r,cu,go,ra,ro,fi⟩ P) (rX ⟨qn,qx,r,cu,go,ra,ro,fi⟩ P)):=by
 have F:=z.Ws;obtain⟨K,J⟩:=adC z;have V:=Bo ⟨qn,qx,r,cu,go,ra,ro,fi⟩ P P.gs;have I:=ay (fun N (B:aP w N)=>alY X K J a V N (E.keep B))
 have y:∀i,i<P.gs.length→((fF ⟨qn,qx,r,cu,go,ra,ro,fi⟩ P P.gs).getD i MC).first=(P.gs.getD i (0,0)).1∧((fF ⟨qn,qx,r,cu,go,ra,ro,fi⟩ P P.gs).getD i MC).count=(P.gs.getD i (0,0)).2:=fun i hi=>by
  have h:=LM (C:=⟨qn,qx,r,cu,go,ra,ro,fi⟩) (P:=P) hi;unfold dJ at h;rw[h];exact sD
 obtain⟨x,n,u,G,m,d,D,e,rfl,-,-,⟨U,-⟩,-⟩:=h;have t:=U.len;rw[t]at y E F I ⊢;have l:=ay (fun N (B:aP w N)=>adz (c:=c) (d:=d) aj N (E.keep B) (U.keep B) y);have k:Hid (rX ⟨qn,qx,r,cu,go,ra,ro,fi⟩ P=Fq ⟨qn,qx,r,cu,go,ra,ro,fi⟩ P.W P.H (fF ⟨qn,qx,r,cu,go,ra,ro,fi⟩ P m) (uF ⟨qn,qx,r,cu,go,ra,ro,fi⟩ P)):=ay (by unfold rX;rw[t]);rw[k];generalize Fq ⟨qn,qx,r,cu,go,ra,ro,fi⟩ P.W P.H (fF ⟨qn,qx,r,cu,go,ra,ro,fi⟩ P m) (uF ⟨qn,qx,r,cu,go,ra,ro,fi⟩ P)=L at*;clear y E U z X a V t K J;generalize P.W=s at*;generalize P.H=q at*;obtain⟨O,T⟩:∃O:Array cO,O=#[aB s,aB q,aG x n u,aG G m d,aG D n e]:=⟨_,rfl⟩;have S:=gU w (aS (jC qn qx r cu go ra ro fi) 23) (aS O 93);have p:=(bF.new w 23 (jC qn qx r cu go ra ro fi)).alloc (aS O 93);have M:=bF.new1 w (aS (jC qn qx r cu go ra ro fi) 23) 93 O;obtain⟨W2,R⟩:=kF ((w.alloc (aS (jC qn qx r cu go ra ro fi) 23)).alloc (aS O 93));rw[←R]at S p M;have j:Hid (W2=(w.alloc (aS (jC qn qx r cu go ra ro fi) 23)).alloc (aS #[s,q,aG x n u,aG G m d,aG D n e] 93)):=ay (by rw[R,T]);rw[T]at M;have p3:=M.c3;obtain⟨Q,g,f⟩:=dB S p M;clear p M S R T;go_enter func61,ntmps61;go_upto_region 1 with(fail)
 change Code.wp _ _ _ _ ((w.alloc (aS (jC qn qx r cu go ra ro fi) 23)).alloc (aS #[s,q,aG x n u,aG G m d,aG D n e] 93));rw[←j];go_upto_region 3 with(go_at_call 104;refine(l _ Q).aQ ?_;rintro w3 Z)
 obtain⟨c0,c1,c2,c3,c4,c5,c6,c7⟩:=EL (g.keep Z);have o:=f.keep Z;have p0:=o.c0;have p1:=o.c1;have Y:=ay (Q.trans (Z.mono Q.size));clear Z o;go_wp2_with(go_at_call 106;refine(I _ Y).mono ?_;rintro e w4 ⟨B4,b4,rfl,o4,b⟩);go_ret2;exact⟨B4,b4,rfl,o4.lower Y.size,Y.trans (b.mono Y.size)⟩
def SG(w:aK)(C:Ei)(b:aO)(e:Ending)(w':aK):Prop:=
 match kY C b with
 | .ok P=>OH w (rX C P).length (rX C P) e w'
 | .error Z=>aP w w'∧∃v,e= .returned (.tuple #[.slice none 0 0,v])∧ErrAt w' Z.1 (.iface 48 (.int .i64 Z.2)) v
theorem aey{C:Ei}(hn:b=n)(qa:n≤1000000000)(o:n≤c)(F:dV b)(w:aK)(ha:yK .u8 w A b):
  Calls prog 29 #[C.v,aG A n c] w (SG w C b):=by
 obtain⟨W1,E,U,L⟩:=ES w 23 (jC C.qn C.qx C.re C.cu C.go C.ra C.ro C.fi);have s:=ay E;have Z:=TS (C:=C) hn qa o F W1 (ha.keep L);unfold Zw at Z;unfold SG;cases t:kY C b with
 |error pc=>
  rw[t]at Z;have Z:=ay Z;obtain⟨j,i,g,cu,go,ra,ro,fi⟩:=C;dsimp only at*;obtain⟨f,a,c2,c3,c4,c5,c6,c7⟩:=U.s8;change Hid _ at L;clear t ha U E F;go_enter func29,ntmps29;go_upto_region 1 with(fail)
  change Code.wp _ _ _ _ (w.alloc _);rw[←s];go_wp2_with(go_at_call 59;refine Z.mono ?_;rintro e O ⟨X,v,rfl,hE⟩;obtain⟨T,y,rfl⟩:=hE.iface);go_ret2;have V:=aJ O (aS Nz 93);have l:=X.trans (V.mono X.size);exact⟨L.trans (l.mono L.size),_,rfl,hE.keep (fun _ _ hB=>hB.alloc _)⟩
 |ok P=>
  rw[t]at Z;obtain⟨Y,R,hM⟩:=Gx t;have Z:=ay Z;obtain⟨j,i,g,cu,go,ra,ro,fi⟩:=C;have hm:=tu Y;dsimp only at hm;obtain⟨j,rfl⟩:∃k:Nat,j=k:=⟨j.toNat,aj⟩;obtain⟨i,rfl⟩:∃k:Nat,i=k:=⟨i.toNat,aj⟩;obtain⟨g,rfl⟩:∃k:Nat,g=k:=⟨g.toNat,aj⟩;dsimp only at*;have HX:=ay (fun M (h:aP W1 M)=>U.keep h);obtain⟨f,a,c2,c3,c4,c5,c6,c7⟩:=EL U;obtain⟨qe,qf⟩:=aV (fun M K J v (h:Bv M K J v P)=>air (lo:=K) (hi:=J) (v:=v) Y R M h) (fun M K J v bs B bb (h:Bv M K J v P) (hl:OB M bs B P.gs bb _)=>SE (lo:=K) (hi:=J) (v:=v) Y R hM M h hl);change Hid _ at L;clear t ha U E F hm Y R hM;go_enter func29,ntmps29;go_upto_region 1 with(fail)
  change Code.wp _ _ _ _ (w.alloc _);rw[←s];go_upto_region 4 with(go_at_call 59;refine Z.mono ?_;rintro e O ⟨X,v,rfl,r,-⟩;have z:=ay r;obtain⟨PA,pn,pc,G,m,d,D,e,rfl,-⟩:=r)
  obtain⟨W3,N⟩:=kF (O.alloc (aS #[P.W,P.H,aG PA pn pc,aG G m d,aG D pn e] 93));have V:aP O W3:=by rw[N];exact aJ O _
  have I:bF W3 O 93 #[P.W,P.H,aG PA pn pc,aG G m d,aG D pn e]:=by rw[N];exact bF.new O _ _
  change Code.wp _ _ _ _ (O.alloc _);rw[←N];have Q:=X.trans (V.mono X.size);have X3:=HX W3 Q;obtain⟨f,a,c2,c3,c4,c5,c6,c7⟩:=EL X3;obtain⟨p0,p1,p2,p3,p4⟩:=I.s5;obtain⟨qg,q,qh,qi,qj⟩:=rG (qe W3 _ _ _ (z.keep V)) (L.trans (Q.mono L.size)) X3 I (z.keep V);clear X V Q N X3 I z;go_upto_region 7 with(go_at_call 60;refine qg.mono ?_;rintro e w4 ⟨B4,b4,B5,b5,fm,rfl,p,-,S⟩)
  clear f a c2 c3 c4 c5 c6 c7 p0 p1 p2 p3 p4;have X4:=qh.keep S;have u:=qi.keep S;obtain⟨f,a,c2,c3,c4,c5,c6,c7⟩:=EL X4;obtain⟨p0,p1,p2,p3,p4⟩:=u.s5;obtain⟨qk,x⟩:=aV (qf w4 _ _ _ _ _ _ (qj.keep S) p) (q.trans (S.mono q.size));clear p S X4 u;go_wp2_with(go_at_call 61;refine qk.mono ?_;rintro e w5 ⟨B6,b6,rfl,o6,ql⟩);go_ret2;exact⟨B6,b6,rfl,o6.lower x.size,x.trans (ql.mono x.size)⟩
end Go.Proofs.YtiaeohgghaaciaaGreatDoor
