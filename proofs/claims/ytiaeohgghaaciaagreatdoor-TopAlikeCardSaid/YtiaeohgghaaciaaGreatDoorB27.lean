import Derived.JoinedOf
import Derived.Test.YtiaeohgghaaciaaGreatDoorCards
import Derived.Test.YtiaeohgghaaciaaGreatDoorRows
import Derived.Test.YtiaeohgghaaciaaGreatDoorB26
namespace Go.Proofs.YtiaeohgghaaciaaGreatDoor
open Go Go.Maps Go.RowKit Go.Extern.Stop Go.Stop Go.Extern Go.Proofs.Tryz
set_option linter.all false
set_option maxRecDepth 100000
set_option maxHeartbeats 4000000
variable{src:List Int}{N c d k m n pc:Nat}{A B:Option Addr}{u w:World}
def TwF(w:aK)(X:bI)(n:Nat)(p q:dK)(w':aK):Prop:=
 aP w w'∧(p=none∨(∃a,p=some a∧q=none)∨∃(I J:MG) (S T:Nat→Prop),p=some (aH I.sg 0)∧q=some (aH J.sg 0)∧I.X=X∧J.X=X∧I.n=n∧J.n=n∧Xh w w' I J S T ⟨aI.new 4194304,none⟩ ⟨aI.new 4194304,none⟩)
theorem ajg.two{w4 v z:aK}{C:Ei}{p q:dK}(Y:aP w u)(P:aP u w4)
  (h1:p=none∨∃(I:MG) (S:Nat→Prop),p=I.sg∧I.X=gu C src∧I.n=n∧(0≤(4194304:Int)∧(4194304:Int)≤16777216)∧OnW u w4 I S ⟨aI.new 4194304,none⟩) (W:aP w4 v) (U:aP v z)
  (h2:q=none∨∃(I:MG) (S:Nat→Prop),q=I.sg∧I.X=gu C src∧I.n=n∧(0≤(4194304:Int)∧(4194304:Int)≤16777216)∧OnW v z I S ⟨aI.new 4194304,none⟩):TwF w (gu C src) n p q z:=by
 have M:=Y.trans (P.mono Y.size);have R:=M.trans (W.mono M.size);have L:=R.trans (U.mono R.size);refine⟨L,?_⟩;rcases h1 with h1|⟨I,S,h1,K,H,-,Q⟩
 ·exact .inl h1
 rcases h2 with h2|⟨J,T,h2,O,N,-,Z⟩
 ·exact .inr (.inl ⟨_,h1,h2⟩)
 refine .inr (.inr ⟨I,J,S,T,h1,h2,K,O,H,N,(Q.hs.keep W).keep U,Z.hs,fun i V G=>?_,Z.gl,L,fun i V=>dD Y.size (Q.lo i V),fun i V=>dD R.size (Z.lo i V)⟩);have:=Z.lo i V;have:=Q.hs.lt G;have:=W.size;omega
theorem YQ{a b:ByteArray}(h:a.toList=b.toList):a=b:=by
 rw[rP,rP]at h;cases a;cases b;congr 1;exact Array.toList_inj.1 h
theorem aeQ{X:bI}{s:oK}(W:nX X s N)(Z:(s.d.names (iR n)).isSome=true):(s.d.file (iR n)).data=X.pk n:=by
 obtain⟨k,Y⟩:=Hu.1 Z;rw[Aw (Gu Y)];exact W.ok.chunk Y
theorem adW{C:Ei}{P:dK}{x y:Int}{l ks:List Xg}(zh:Gl w)(hn:n≤140737488355328)(qF:n≤c)(zi:dV src)(hA:Lb w A n src)(hm:m≤9223372036854775807)(hl:AcL w B m l)
  (zR:k≤9223372036854775807) (hP:AcL w P k ks):
  Calls prog 3 #[C.v,aG A n c,aB x,aB y,aG B m d,aG P k pc] w (Val w (.bool true)):=by
 have hb:=aJ w (aS (jC C.qn C.qx C.re C.cu C.go C.ra C.ro C.fi) 23);have E:=ay (aeP w C);obtain⟨W1,qN⟩:∃W1:aK,W1=w.alloc (aS (jC C.qn C.qx C.re C.cu C.go C.ra C.ro C.fi) 23):=⟨_,rfl⟩;rw[←qN]at hb E;obtain⟨HG,HA,HL⟩:=dB (zh.keep hb) (And.intro zi (hA.keep hb)) (hl.keep hb);have zj:Hid (l.length=m):=ay hl.row.len;have HP:=ay (hP.keep hb);have zk:Hid (ks.length=k):=ay hP.row.len;obtain⟨HB,zS,HN⟩:=dB hb qN (And.intro hn (And.intro qF zR));obtain⟨m1,-,qr⟩:=ajf (a:=x);obtain⟨m2,-,qs⟩:=ajf (a:=y);obtain⟨qO,qP⟩:=aV qr qs;clear hb zh hA zi hl hP qN hn qF qr qs;go_enter func3,ntmps3;go_upto_region 1 with(fail)
 change Code.wp _ _ _ _ (w.alloc (aS (jC C.qn C.qx C.re C.cu C.go C.ra C.ro C.fi) 23));rw[←zS.out];go_upto_region 3 with(first|(go_at_call 5;refine(xH HG.vI).mono ?_;rintro e w2 ⟨rfl,zl⟩)|fail)
 have ql:=ay zl;clear zl;go_cut [13,14] (fun zT zU wx=>∃p q,zT=aY p∧zU=aY q∧Hid (TwF w2 (gu C src) n p q wx))
 case first=>
  have zV:=E.out w2 ql.out;have zW:=E.out w2.drew ql.out.drew;have zm:=ay ql.out.drew
  go_region_held3(fun W=>aN W w 0 (aB C.qn)∧aN W w 1 (aB C.qx)∧aN W w 2 (aB C.re)∧aN W w 3 (aB C.cu)∧aN W w 4 (aB C.go)∧aN W w 5 (aB C.ra)∧aN W w 6 (aB C.ro)∧aN W w 7 (aB C.fi))
   (first|with_reducible exact E.out _ zX|with_reducible exact E.out _ qt|with_reducible exact E.out _ qA|with_reducible exact E.out _ qu|with_reducible exact zW|with_reducible exact zV|fail)
   (first
     |(go_at_call 6;refine(SX (C:=C) HN.vI.1 HA.vI.1 (HG.vI.keep qt) (HA.vI.2.keep qt)).mono ?_;rintro e w6 ⟨p6,rfl,qm,zY⟩;have zX:=qt.trans (qm.mono qt.size))
     |(go_at_call 7;have hz:=qA;refine(qP.out _).mono ?_;rintro e w5 ⟨rfl,G⟩;have qt:=qA.trans (G.mono qA.size))
     |(go_at_call 6;refine(SX (C:=C) HN.vI.1 HA.vI.1 (HG.vI.keep qu) (HA.vI.2.keep qu)).mono ?_;rintro e w4 ⟨p4,rfl,zn,zZ⟩;have qA:=qu.trans (zn.mono qu.size))
     |(go_at_call 7;refine(qO.out _).mono ?_;rintro e w3 ⟨rfl,qB⟩;have qB:Below w2.drew w2.drew w3:=qB;have qu:=zm.out.trans (qB.mono zm.out.size))
     |fail)
  all_goals(go_wp2_with fail;go_meet;exact⟨_,_,rfl,rfl,ay (ajg.two ((aU w2 w2).drew.trans qB) zn zZ G qm zY)⟩)
 case rest=>
  obtain⟨p,q,rfl,rfl,HT⟩:=hcut;obtain⟨zo,hT⟩:=HT.vI;have M:=ay (ql.out.trans (zo.mono ql.out.size));clear zo HT;rcases hT with rfl|⟨a,rfl,rfl⟩|⟨I,J,S,T,rfl,rfl,qQ,qR,zq,zr,ht⟩
  ·go_wp2_with(first|(go_at_call 5;refine(xH (HG.vI.keep M.out)).mono ?_;rintro e w5 ⟨rfl,G⟩)|fail)
   go_ret;have Z:=M.out.trans (G.mono M.out.size);exact⟨rfl,HB.vI.trans (Z.mono HB.vI.size)⟩
  ·go_wp2_with(first|(go_at_call 5;refine(xH (HG.vI.keep M.out)).mono ?_;rintro e w5 ⟨rfl,G⟩)|fail)
   go_ret;have Z:=M.out.trans (G.mono M.out.size);exact⟨rfl,HB.vI.trans (Z.mono HB.vI.size)⟩
  obtain⟨HT,HX,HJ⟩:=dB (ht.from_ ql.out) (show I.X.ok∧I.X.Si by rw[qQ];exact Gi C src) (show J.X.ok∧J.X.Si by rw[qR];exact Gi C src);have zt:Hid (J.X=I.X):=ay (by rw[qQ,qR]);have zu:=ay (And.intro zq zr);have xa:Hid (nX I.X ⟨aI.new 4194304,none⟩ 0):=ay (Xb I.X aj);have xc:Hid (nX J.X ⟨aI.new 4194304,none⟩ 0):=ay (Xb J.X aj);clear qQ qR zq zr ht;obtain⟨c0,c1,c2,c3,c4,c5,c6,c7⟩:=E.out wc M.out;obtain⟨zv,zw⟩:=aV (Xc (C:=C) (A:=A) (c:=c) (d:=d) HN.vI.2.1 HA.vI.1 (HA.vI.2.keep M.out) hm (HL.vI.keep M.out)) (fun u (f:aP W1 u)=>Xc (C:=C) (A:=A) (c:=c) (d:=pc) HN.vI.2.1 HA.vI.1 (HA.vI.2.keep f) HN.vI.2.2 (HP.vI.keep f))
  go_upto_region 6 with(first
   |(go_at_call 5;refine(xH (HG.vI.keep qh)).mono ?_;rintro e w7 ⟨rfl,qS⟩;have qT:=qh.trans (qS.mono qh.size))
   |(go_at_call 5;refine(xH (HG.vI.keep Z)).mono ?_;rintro e w7 ⟨rfl,qS⟩;have qT:=Z.trans (qS.mono Z.size))
   |(go_at_call 8;refine(zw.out _ Z).mono ?_;rintro e w6 ⟨b6,rfl,zx,qm⟩;have qh:=Z.trans (qm.mono Z.size);cases b6)
   |(go_at_call 8;refine zv.out.mono ?_;rintro e w5 ⟨b5,rfl,zy,G⟩;have Z:=M.out.trans (G.mono M.out.size);obtain⟨d0,d1,d2,d3,d4,d5,d6,d7⟩:=E.out w5 Z;cases b5)
   |fail)
  ·go_ret
   exact⟨rfl,HB.vI.trans (qT.mono HB.vI.size)⟩
  ·go_ret
   exact⟨rfl,HB.vI.trans (qT.mono HB.vI.size)⟩
  obtain⟨HF,xd⟩:=aV (And.intro (zy trivial) (zx trivial)) ((HT.vI.keep G).keep qm);clear c0 c1 c2 c3 c4 c5 c6 c7 d0 d1 d2 d3 d4 d5 d6 d7 zy zx G qm Z qh HT zv zw;go_wp2_with fail
  go_loopg [15] m (fun g xe wr=>∃(i:Nat) (S':Nat→Prop) (s:oK),i+g=m∧xe= aB i∧Hid (Xh W1 wr I J S' T s ⟨aI.new 4194304,none⟩)∧Hid (nX I.X s (wC i l)))
  case atStart=>exact⟨0,S,_,aj,rfl,xd,ay (xa.out.mono (dS _))⟩
  case round=>
   obtain⟨i,S',s,hi,rfl,HOr,qo⟩:=hrel
   by_cases qa:i<m
   ·have zL:(i:Int)<(m:Int):=aj
    obtain⟨b,o,rfl,a0,a1,a2,r⟩:=(HL.vI.keep HOr.vI.b).at_ qa;have L:=HL.vI.one _ r;have qe:=Jq (l:=l) (i:=i) (by rw[zj.out];exact qa);have qU:wC (i+1) l≤148000:=IJ (by rw[zj.out];exact qa) HF.vI.1.2.1 HF.vI.1.2.2;generalize l.getD i default=a at*;obtain⟨ak,am,aA,an,ac,al⟩:=a;dsimp only at a0 a1 a2 L qe;obtain⟨qV,qW⟩:=aV (Ru (w0:=W1) (a:=⟨ak,am,aA,an,ac,al⟩) HX.vI.1 HX.vI.2 HOr.vI.one L qo.out (by show _+vV ak am≤_;omega) (by have:=HF.vI.1.1;rw[zu.out.1];omega)) qe;clear r L qe qU;go_wp2_with(first|(go_at_call 9;refine qV.out.mono ?_;rintro e w7 ⟨s',v7,rfl,qv,qw⟩;obtain⟨S2,qX⟩:=HOr.vI.step qw)|fail);go_roundg(m-i-1)
    case measure=>omega
    case rel=>exact⟨i+1,S2,s',aj,fA,ay qX,ay (qv.mono qW.out)⟩
   ·obtain rfl:i=m:=aj
    go_wp2_with fail
    go_loopg [16] k (fun g xf wx=>∃(j:Nat) (T':Nat→Prop) (t:oK),j+g=k∧xf= aB j∧Hid (Xh W1 wx I J S' T' s t)∧Hid (nX J.X t (wC j ks)))
    case atStart=>exact⟨0,T,_,aj,rfl,HOr,ay (xc.out.mono (dS _))⟩
    case round=>
     obtain⟨j,T',t,hj,rfl,O,qq⟩:=hrel
     by_cases qa:j<k
     ·have zL:(j:Int)<(k:Int):=aj
      obtain⟨b,o,rfl,a0,a1,a2,r⟩:=(HP.vI.keep O.out.b).at_ qa;have L:=HP.vI.one _ r;have qe:=Jq (l:=ks) (i:=j) (by rw[zk.out];exact qa);have qU:wC (j+1) ks≤148000:=IJ (by rw[zk.out];exact qa) HF.vI.2.2.1 HF.vI.2.2.2;generalize ks.getD j default=a at*;obtain⟨ak,am,aA,an,ac,al⟩:=a;dsimp only at a0 a1 a2 L qe;obtain⟨qV,qW⟩:=aV (Ru (w0:=W1) (a:=⟨ak,am,aA,an,ac,al⟩) HJ.vI.1 HJ.vI.2 O.out.swap.one L qq.out (by show _+vV ak am≤_;omega) (by have:=HF.vI.1.1;rw[zu.out.2];omega)) qe;clear r L qe qU;go_wp2_with(first|(go_at_call 9;refine qV.out.mono ?_;rintro e w7 ⟨s',v7,rfl,qv,qw⟩;obtain⟨S2,qX⟩:=O.out.step2 qw)|fail);go_roundg(k-j-1)
      case measure=>omega
      case rel=>exact⟨j+1,S2,s',aj,fA,ay qX,ay (qv.mono qW.out)⟩
     ·obtain rfl:j=k:=aj
      obtain⟨zA,zB⟩:=aV (aeO HX.vI.1 qo.out O.out.hs) (fun u (f:aP wr u)=>aeO HJ.vI.1 qq.out (O.out.ht.keep f))
      go_upto_region 16 with(first
       |(go_at_call 10;refine(zB.out _ F).mono ?_;rintro e zC ⟨xg,xh,c21,zD,rfl,qG,qf⟩;have qH:=F.trans (qf.mono F.size))
       |(go_at_call 10;refine zA.out.mono ?_;rintro e xi ⟨xj,xk,c20,zE,rfl,qI,F⟩;have F:aP wr xi:=F)
       |fail)
      have zM:Hid (zE=true→Lb zC xj xk I.X.out):=ay (fun e=>(qI e).keep qf);have zN:Hid (zD=true→Lb zC xg xh I.X.out):=ay (fun e=>by rw[←zt.out];exact qG e);have zO:=ay qH;clear qI qG F qH qf zA zB;go_cut [106] (fun zP wx=>zP= .bool false∧Hid (aP wr wx))
      case first=>
       cases zE<;>cases zD
       all_goals(go_wp2_with(first|(go_at_call 11;refine(UW HX.vI.2.out HX.vI.2.out _ (zM.out rfl) (zN.out rfl)).mono ?_;rintro e w22 ⟨rfl,rfl⟩)|fail);go_meet;exact⟨rfl,zO⟩)
      case rest=>
       obtain⟨rfl,qY⟩:=hcut
       go_upto_region 20 with(first
        |(go_at_call 13;refine(SQ (qq.out.lt HJ.vI.1) qq.out.fit (O.out.ht.keep qi)).mono ?_;rintro e V ⟨A6,n6,c6,zF,rfl,qJ,qK,hn6,H⟩;have qy:=qi.trans (H.mono qi.size))
        |(go_at_call 13;refine(SQ (qo.out.lt HX.vI.1) qo.out.fit (O.out.hs.keep qj)).mono ?_;rintro e w25 ⟨A5,n5,c5,zG,rfl,qL,qM,hn5,z⟩;have qi:=qj.trans (z.mono qj.size))
        |(go_at_call 12;refine(acj HJ.vI.1 qq.out (O.out.ht.keep qk)).mono ?_;rintro e w24 ⟨g2,l2,rfl,qs,qg⟩;have qj:=qk.trans (qg.mono qk.size))
        |(go_at_call 12;refine(acj HX.vI.1 qo.out (O.out.hs.keep qY.out)).mono ?_;rintro e w23 ⟨g1,l1,rfl,qr,qz⟩;have qk:=qY.out.trans (qz.mono qY.out.size))
        |fail)
       obtain⟨qO,qP,xl,xn,xp,xq,zH,xr⟩:=GI (fun wy (f:aP V wy)=>(((qr.keep qg).keep z).keep H).keep f) (fun wy (f:aP V wy)=>((qs.keep z).keep H).keep f) (fun wy (f:aP V wy)=>(qL.keep H).keep f) (fun wy (f:aP V wy)=>qJ.keep f) qM qK (O.out.b.trans (qy.mono O.out.b.size)) (O.out.gl.keep qy);clear qr qs qL qJ qM qK qk qz qj qg qi z qy H;go_wp2_with fail
       go_loopg [25,26,27] n5 (fun g xt zI qZ wy=>∃i5:Nat,i5+g=n5∧xt= aB i5∧Hid (aP V wy))
       case atStart=>exact⟨0,aj,rfl,ay (aU _ _)⟩
       case round=>
        obtain⟨i5,hi5,rfl,za⟩:=hrel
        by_cases hl5:i5<n5
        ·have aqK:(i5:Int)<(n5:Int):=aj
         go_wp2_with fail
         go_loopg [26,27] n6 (fun g zI qZ wy=>∃i6:Nat,i6+g=n6∧zI= aB i6∧Hid (aP V wy))
         case atStart=>exact⟨0,aj,rfl,za⟩
         case round=>
          obtain⟨i6,hi6,rfl,zJ⟩:=hrel
          by_cases hl6:i6<n6
          ·have aqL:(i6:Int)<(n6:Int):=aj
           go_wp2_with fail
           go_loopg [27] 16 (fun g qZ wy=>∃q:Nat,q+g=16∧qZ= aB q∧Hid (aP V wy))
           case atStart=>exact⟨0,aj,rfl,zJ⟩
           case round=>
            obtain⟨q,hq,rfl,Y⟩:=hrel
            by_cases zb:q<16
            ·have aqM:(q:Int)<16:=aj
             obtain⟨x1,d0,-⟩:=aaw (qO.out _ Y.out) zb;obtain⟨x2,e0,-⟩:=aaw (qP.out _ Y.out) zb;have k5:=xl.out _ Y.out;have k6:=xn.out _ Y.out;obtain⟨b5,o5,rfl,f0,f1,-,zc⟩:=aar k5 hl5;obtain⟨b6,o6,rfl,p0,p1,-,ze⟩:=aar k6 hl6;have qC:=k5.dat _ zc;have qD:=k6.dat _ ze;have zf:(s.d.names (zG.getD i5 default).x).isSome=true:=(xp.out.mem _).1 (FH.2 ⟨_,zc,rfl⟩);have zg:(t.d.names (zF.getD i6 default).x).isSome=true:=(xq.out.mem _).1 (FH.2 ⟨_,ze,rfl⟩);generalize zG.getD i5 default=v5 at*;generalize zF.getD i6 default=v6 at*;obtain⟨y5,A5,z5,w5,u5⟩:=v5;obtain⟨y6,A6,z6,w6,u6⟩:=v6;dsimp only at f0 f1 p0 p1 qC qD zf zg;have D1:∀u,aP wr u→Calls prog 14 #[aB q] u fun e qE=>e=bM (.string (bP (iR q)))∧aP u qE:=fun u _=>ajh zb u
             have C1:=ay (Calls.grown D1);have G1:=fun p:Go.Regrown=>Go.cell_regrown d0 p.d p.os
             have G2:=fun p:Go.Regrown=>Go.cell_regrown e0 p.d p.os
             have G3:=fun p:Go.Regrown=>Go.cell_regrown f0 p.d p.os
             have G4:=fun p:Go.Regrown=>Go.cell_regrown f1 p.d p.os
             have G5:=fun p:Go.Regrown=>Go.cell_regrown p0 p.d p.os
             have G6:=fun p:Go.Regrown=>Go.cell_regrown p1 p.d p.os
             have Q:bP y5=bP (iR q)→bP y6=bP (iR q)→∀u,aP wr u→Calls prog 11 #[aG A5 z5 w5,aG A6 z6 w6] u fun e qE=>e=bM (.bool true)∧aP u qE:=by
              intro e5 e6 u f;have zK:iR q<36:=by unfold iR;omega
              have j5:y5=iR q:=EJ _ qC.2.2 _ zK (by rw[←Jo,e5,Jo]);have j6:y6=iR q:=EJ _ qD.2.2 _ zK (by rw[←Jo,e6,Jo]);subst j5 j6;have r5:=qC.1.keep f;have r6:=qD.1.keep f;rw[aeQ qo.out zf]at r5;rw[aeQ qq.out zg,zt.out]at r6;exact(UW (HX.vI.2.pk q) (HX.vI.2.pk q) u r5.lb r6.lb).mono fun e qE h=>⟨by rw[h.1,su rfl],by rw[←h.2];exact aU _ _⟩
             clear zf zg qC qD k5 k6 zc ze d0 e0 f0 f1 p0 p1 D1;generalize bP y5=s5 at*;generalize bP y6=s6 at*;generalize bP (iR q)=s7 at*
             have hc:(x1=false∨x1=true∧x2=false)∨((x1=true∧x2=true)∧s5≠s7)∨((x1=true∧x2=true)∧s5=s7∧s6≠s7)∨((x1=true∧x2=true)∧s5=s7∧s6=s7):=by
              cases x1<;>cases x2<;>by_cases e5:s5=s7<;>by_cases e6:s6=s7<;>simp[e5,e6]
             rcases hc with(rfl|⟨rfl,rfl⟩)|⟨sD,e5⟩|⟨sD,rfl,e6⟩|⟨sD,rfl,rfl⟩
             ·as_aux_lemma=>
              clear Q;go_upto_region 29 with(fail)
              (refine AQ aW aW ?_;(repeat(refine DV (fun K N=>?_);go_simp;first|(refine N _ ?_;clear N K)|(apply Exists.intro;refine⟨fun _=>?_,N _ ?_⟩;(focus(with_reducible first|exact C1.out _|exact C2.out _));clear N K)));(refine Hy ?_))
              intro wq U;have R:=Y.out.trans (U.below.mono Y.out.size);have D:=ay R;clear U R G1 G2 G3 G4 G5 G6 C1;go_wp2_with fail;go_roundg(16-q-1)
              case measure=>omega
              case rel=>exact⟨q+1,aj,fA,D⟩
             ·as_aux_lemma=>
              clear Q;go_upto_region 29 with(fail)
              (refine AQ aW aW ?_;(repeat(refine DV (fun K N=>?_);go_simp;first|(refine N _ ?_;clear N K)|(apply Exists.intro;refine⟨fun _=>?_,N _ ?_⟩;(focus(with_reducible first|exact C1.out _|exact C2.out _));clear N K)));(refine Hy ?_))
              intro wq U;have R:=Y.out.trans (U.below.mono Y.out.size);have D:=ay R;clear U R G1 G2 G3 G4 G5 G6 C1;go_wp2_with fail;go_roundg(16-q-1)
              case measure=>omega
              case rel=>exact⟨q+1,aj,fA,D⟩
             ·as_aux_lemma=>
              clear Q;have e5b:(s5.toList==s7.toList)=false:=oO.2 (fun e=>e5 (YQ e));go_upto_region 29 with(fail)
              (refine AQ aW aW ?_;(repeat(refine DV (fun K N=>?_);go_simp;first|(refine N _ ?_;clear N K)|(apply Exists.intro;refine⟨fun _=>?_,N _ ?_⟩;(focus(with_reducible first|exact C1.out _|exact C2.out _));clear N K)));(refine Hy ?_))
              intro wq U;have R:=Y.out.trans (U.below.mono Y.out.size);have D:=ay R;clear U R G1 G2 G3 G4 G5 G6 C1;go_wp2_with fail;go_roundg(16-q-1)
              case measure=>omega
              case rel=>exact⟨q+1,aj,fA,D⟩
             ·as_aux_lemma=>
              clear Q;have e6b:(s6.toList==s5.toList)=false:=oO.2 (fun e=>e6 (YQ e));go_upto_region 29 with(fail)
              (refine AQ aW aW ?_;(repeat(refine DV (fun K N=>?_);go_simp;first|(refine N _ ?_;clear N K)|(apply Exists.intro;refine⟨fun _=>?_,N _ ?_⟩;(focus(with_reducible first|exact C1.out _|exact C2.out _));clear N K)));(refine Hy ?_))
              intro wq U;have R:=Y.out.trans (U.below.mono Y.out.size);have D:=ay R;clear U R G1 G2 G3 G4 G5 G6 C1;go_wp2_with fail;go_roundg(16-q-1)
              case measure=>omega
              case rel=>exact⟨q+1,aj,fA,D⟩
             ·as_aux_lemma=>
              have C2:=ay (Calls.grown (Q rfl rfl));clear Q;go_upto_region 29 with(fail)
              (refine AQ aW aW ?_;(repeat(refine DV (fun K N=>?_);go_simp;first|(refine N _ ?_;clear N K)|(apply Exists.intro;refine⟨fun _=>?_,N _ ?_⟩;(focus(with_reducible first|exact C1.out _|exact C2.out _));clear N K)));(refine Hy ?_))
              intro wq U;have R:=Y.out.trans (U.below.mono Y.out.size);have D:=ay R;clear U R G1 G2 G3 G4 G5 G6 C1 C2;go_wp2_with fail;go_roundg(16-q-1)
              case measure=>omega
              case rel=>exact⟨q+1,aj,fA,D⟩
            ·obtain rfl:q=16:=aj
             go_wp2_with fail;go_roundg(n6-i6-1)
             case measure=>omega
             case rel=>exact⟨i6+1,aj,fA,Y⟩
          ·obtain rfl:i6=n6:=aj
           go_wp2_with fail;go_roundg(n5-i5-1)
           case measure=>omega
           case rel=>exact⟨i5+1,aj,fA,zJ⟩
        ·obtain rfl:i5=n5:=aj
         go_wp2_with(first|(go_at_call 5;refine(xH (xr.out.keep za.out)).mono ?_;rintro e w28 ⟨rfl,zQ⟩)|fail);go_ret;have k1:=zH.out.trans (za.out.mono zH.out.size);have k2:=k1.trans (zQ.mono k1.size);exact⟨rfl,HB.vI.trans (k2.mono HB.vI.size)⟩
section
open Go.ChangeShapes Go.WideShapes Go.Joins Go.Deep
theorem TopAlike_lifted(os:Os)(S:os.Started)(H:Type)(enc:TypeId × cO→H):
  ReturnsInHanded {} Tryz.checked os 3 .any (fun w Z=>(Rows.topAlikeSpec.pre enc prog Tryz.f3 [] false w Z∧laidMetH prog [("errors.errorType",Rows.laid_errors_errorType)] w)∧sizedMet enc prog Tryz.f3 (OpenSpec.ofChange Rows.topAlikeSpec) false w Z)
   (Rows.topAlikeSpec.post enc prog Tryz.f3 false true false false):=by
 refine returnsInHanded_of_change_and (C:=Tryz.checked) (X:=fun w _=>laidMetH prog [("errors.errorType",Rows.laid_errors_errorType)] w) (fun _ _ _ hh h=>h.of_heap hh) own S aW func3
  (ChangeSpec.witness_at (enc:=enc) (C:=Tryz.checked) (os:=os) (X:=fun w _=>laidMetH prog [("errors.errorType",Rows.laid_errors_errorType)] w) false (laidWorld os) #[.agg #[aB 0,aB 0,aB 0,aB 0,aB 0,aB 0,aB 0,aB 0],bU,aB 0,aB 0,bU,bU] 8 rfl aW aW aW aW aW (laidWorld_met os _)) ?_
 intro W O Z g f M T d _ R hL _;have Q:(DataW.weightsEach prog (Tryz.f3.params.toList++Rows.topAlikeSpec.plain.varTypes prog) (g++f)).all (·≤reachBytes)=true:=R;clear R;have Y:∀(j:Nat) t v,Tryz.f3.params[j]? =some t→Z[j]? =some v→Value.okWide prog W .any O t v:=T;have K:=d;obtain⟨p,q,P,J,rfl,qa,qe⟩:=d;have c:DataW.TrodAll enc prog W 0 (fun _=>true) true Tryz.f3.params.toList Z.toList g p:=P;have hV:DataW.TrodVars enc prog W (fun _=>true) [] f q:=J;rw[params3]at c Y Q;obtain⟨a,qf,d0,qg,p0,q0,i,rfl,rfl,h0,r0⟩:=trodAll_cons c;obtain⟨v1,qh,d1,qi,p1,q1,rfl,rfl,rfl,L,r1⟩:=trodAll_cons r0;obtain⟨v2,qj,d2,qk,p2,q2,rfl,rfl,rfl,h2,r2⟩:=trodAll_cons r1;obtain⟨v3,ql,d3,qm,p3,q3,rfl,rfl,rfl,h3,r3⟩:=trodAll_cons r2;obtain⟨v4,qo,d4,qq,p4,q4,rfl,rfl,rfl,h4,r4⟩:=trodAll_cons r3;obtain⟨v5,qr,d5,qs,p5,q5,rfl,rfl,rfl,h5,r5⟩:=trodAll_cons r4;obtain⟨rfl,rfl,rfl⟩:=trodAll_nil r5;obtain rfl:Z=#[a,v1,v2,v3,v4,v5]:=by cases Z;simp_all
 obtain⟨rfl,rfl⟩:=trodVars_none hV;have k0:=h0;have I:∀x∈p0,x.block<W.heap.size:=by obtain⟨m,U⟩:=k0;exact jW m _ _ _ U
 have k1:=L;have G:∀x∈p1,x.block<W.heap.size:=by obtain⟨m,U⟩:=k1;exact jW m _ _ _ U
 have k2:=h2;have F:∀x∈p2,x.block<W.heap.size:=by obtain⟨m,U⟩:=k2;exact jW m _ _ _ U
 have k3:=h3;have E:∀x∈p3,x.block<W.heap.size:=by obtain⟨m,U⟩:=k3;exact jW m _ _ _ U
 have k4:=h4;have D:∀x∈p4,x.block<W.heap.size:=by obtain⟨m,U⟩:=k4;exact jW m _ _ _ U
 have k5:=h5;have B:∀x∈p5,x.block<W.heap.size:=by obtain⟨m,U⟩:=k5;exact jW m _ _ _ U
 obtain⟨qn,qx,re,cu,go,ra,ro,fi,rfl⟩:=aaB (Y 0 23 a rfl rfl) h0;obtain⟨Ab,b,cb,rfl,A,qt,z,qu,y⟩:=Ul (Y 1 24 v1 rfl rfl) L;obtain⟨s,rfl,qv⟩:=P7 (Y 2 3 v2 rfl rfl) h2;obtain⟨n,rfl,qw⟩:=P7 (Y 3 3 v3 rfl rfl) h3;obtain⟨Al,l,cl,rfl,u,r⟩:=SV (Y 4 25 v4 rfl rfl) h4;obtain⟨Am,m,cm,rfl,o,k⟩:=SV (Y 5 25 v5 rfl rfl) h5
 have N:b.length≤140737488355328:=by
  rcases Uk L with hz|⟨el,sp,rfl,qy⟩
  ·omega
  ·have h:=sized_slice Q (j:=1) (t:=24) (e:=5) rfl rfl underlying24
   rw[(aW:prog.bytesOf 5=1)]at h;simp only[reachBytes]at h;omega
 clear P T;refine(adW (C:=⟨qn,qx,re,cu,go,ra,ro,fi⟩) (handle_of_laid hL) N z y ⟨rfl,A⟩ r u k o).mono fun e W' ⟨he,V⟩=>?_
 subst he;exact⟨_,rfl,_,_,_,[],_,[],K,trodAll_mk1 (shut_bool underlying4 _),(trodAll_cons_mk (Below.trod laidOut aW (tu aW) k0 V I) (trodAll_cons_mk (Below.trod laidOut aW (tu aW) k1 V G) (trodAll_cons_mk (Below.trod laidOut aW (tu aW) k2 V F) (trodAll_cons_mk (Below.trod laidOut aW (tu aW) k3 V E) (trodAll_cons_mk (Below.trod laidOut aW (tu aW) k4 V D) (trodAll_cons_mk (Below.trod laidOut aW (tu aW) k5 V B) trodAll_mk0)))))),rfl,V.frame _,fun h=>by cases h⟩
end
theorem TopAlike_j1:Rows.topAlikeRow.wf (OpenSpec.ofChange Rows.topAlikeSpec)=true:=aW
theorem TopAlike_j2:laidOutB prog=true:=aW
theorem TopAlike_j3:mapsRowed prog=true:=aW
theorem TopAlike_j4:Tryz.f3.params.all (prog.readableRec ·)=true:=aW
theorem TopAlike_j5:namedTie prog Rows.topAlikeRow.named Rows.topAlikeSpec.vars=true:=aW
theorem TopAlike_j6:(Rows.topAlikeRow.stops== [])=true:=aW
theorem TopAlike_j7:(prog.stops== [])=true:=aW
theorem TopAlike_j8:(Rows.topAlikeRow.knobs== [])=true:=aW
theorem TopAlike_j9:(prog.stopKnobs== [])=true:=aW
theorem TopAlike_j10:(Rows.topAlikeRow.inPlace==prog.inPlace 3)=true:=aW
theorem TopAlike_j11:(Rows.topAlikeRow.unfollowed==prog.unfollowed 3)=true:=aW
theorem TopAlike_j12:(Rows.topAlikeRow.recurses==prog.recurses 3)=true:=aW
theorem TopAlike_j13:(Rows.topAlikeRow.named==prog.varsNamed 3)=true:=aW
theorem TopAlike_j14:(Rows.topAlikeRow.maps==(Tryz.f3.params.toList++Rows.topAlikeSpec.plain.varTypes prog).any (prog.mapsRec ·))=true:=aW
theorem TopAlike_j15:(Rows.topAlikeRow.ifaces==(Tryz.f3.params.toList++Rows.topAlikeSpec.plain.varTypes prog).any (prog.ifacesRec ·))=true:=aW
theorem TopAlike_j16:(Rows.topAlikeRow.mapsOut==prog.mapsAmong Tryz.f3.resultTypes.toList)=true:=aW
theorem TopAlike_j17:(Rows.topAlikeRow.loops==(Tryz.f3.params.toList++Rows.topAlikeSpec.plain.varTypes prog).any (prog.loopsFrom ·))=true:=aW
theorem TopAlike_j18:(Rows.topAlikeRow.wideKeys==(Tryz.f3.params.toList++Rows.topAlikeSpec.plain.varTypes prog++Tryz.f3.resultTypes.toList).any (prog.wideKeysFrom ·))=true:=aW
theorem TopAlike_j19:Rows.topAlikeSpec.vars.all (prog.varReadable ·)=true:=aW
theorem TopAlike_j20:Tryz.f3.resultTypes.all (fun t=>prog.readableRec t&&decide (t<prog.types.size))=true:=aW
theorem TopAlike_j21:(Rows.topAlikeRow.ifacesOut==Tryz.f3.resultTypes.toList.any (prog.ifacesRec ·))=true:=aW
theorem TopAlike_j22:(Rows.topAlikeRow.loopsOut==Tryz.f3.resultTypes.toList.any (prog.loopsFrom ·))=true:=aW
theorem TopAlike_j23:(Rows.topAlikeRow.plainKeys==prog.plainKeys)=true:=aW
theorem TopAlike_j24:Rows.topAlikeRow.shortTexts.isNone=true:=aW
theorem TopAlike_j25:prog.stopsHeard=true:=aW
theorem TopAlike_j26:prog.mayEnter=true:=aW
theorem TopAlike_j27:(Rows.topAlikeRow.lifted==prog.liftsFinal)=true:=aW
theorem TopAlike_j28:(prog.make==some Rows.topAlikeRow.make)=true:=aW
theorem TopAlike_j29:(Rows.topAlikeRow.kinds==(if Rows.topAlikeRow.domain.isEmpty then []else Tryz.f3.params.toList.map fun t=>match prog.underlying t with|some (.int k)=>some k|_=>none))=true:=aW
theorem TopAlike_j30:(Rows.topAlikeRow.pinned==Rows.topAlikeRow.pinnedBy)=true:=aW
theorem TopAlike_j31:(Rows.topAlikeRow.veiled==(Tryz.f3.params.toList++Rows.topAlikeSpec.plain.varTypes prog++Tryz.f3.resultTypes.toList).any (prog.veiledRec ·))=true:=aW
theorem TopAlike_j32:Rows.topAlikeRow.veiledFits prog Tryz.f3.params.toList (Tryz.f3.params.toList++Rows.topAlikeSpec.plain.varTypes prog++Tryz.f3.resultTypes.toList)=true:=aW
theorem TopAlike_hfn:prog.funcNamed "kinescope/kintop.TopAlike" =some 3:=aW
theorem kR{a b:Bool}(h:a=true)(k:b=true):(a&&b)=true:=by rw[h,k];rfl
theorem TopAlike_facts:joinedFacts prog 3 Tryz.f3 Rows.topAlikeSpec Rows.topAlikeRow=true:=kR (kR (kR (kR (kR (kR (kR (kR (kR (kR (kR (kR (kR (kR (kR (kR (kR (kR (kR (kR (kR (kR (kR (kR (kR (kR (kR (kR (kR (kR (kR (TopAlike_j1) TopAlike_j2) TopAlike_j3) TopAlike_j4) TopAlike_j5) TopAlike_j6) TopAlike_j7) TopAlike_j8) TopAlike_j9) TopAlike_j10) TopAlike_j11) TopAlike_j12) TopAlike_j13) TopAlike_j14) TopAlike_j15) TopAlike_j16) TopAlike_j17) TopAlike_j18) TopAlike_j19) TopAlike_j20) TopAlike_j21) TopAlike_j22) TopAlike_j23) TopAlike_j24) TopAlike_j25) TopAlike_j26) TopAlike_j27) TopAlike_j28) TopAlike_j29) TopAlike_j30) TopAlike_j31) TopAlike_j32
theorem TopAlike_inst:Tryz.f3.isInstance prog Rows.topAlikeRow.origin Rows.topAlikeRow.targs:=by
 unfold Func.isInstance;exact tu aW
theorem TopAlike_wrap:Tryz.f3.isWrapper prog Rows.topAlikeRow.wrapper Rows.topAlikeRow.mainSum:=by unfold Func.isWrapper;rw[au (of_decide_eq_false aW)];exact sD
theorem TopAlike_wf:Rows.topAlikeRow.wfByText (OpenSpec.ofChange Rows.topAlikeSpec)=true:=aW
theorem TopAlike_goes:false=Rows.topAlikeRow.goesBy prog:=aW
theorem TopAlike_looks:true=prog.looks []:=aW
theorem TopAlike_main:prog.mainIs=some (Rows.topAlikeCard.stood.harness.1,Rows.topAlikeCard.stood.harness.2.toList):=aW
theorem TopAlike_stand:(Tryz.f3.params.toList.all fun t=>!prog.wantsStandIn t)=true:=aW
section
open Go.ChangeShapes Go.WideShapes Go.Joins Go.Deep
theorem TopAlike_row:Rows.TopAlikeSaid:=
 OpenClaim.holds_of_wide 3 Tryz.f3 rfl rfl rfl rfl rfl rfl rfl ⟨rfl,rfl,rfl,rfl,rfl⟩ rfl rfl rfl rfl rfl TopAlike_hfn func3 TopAlike_facts TopAlike_inst TopAlike_wrap
  (fun X Z H Y _=>TopAlike_lifted X Z H Y)
end
end Go.Proofs.YtiaeohgghaaciaaGreatDoor
