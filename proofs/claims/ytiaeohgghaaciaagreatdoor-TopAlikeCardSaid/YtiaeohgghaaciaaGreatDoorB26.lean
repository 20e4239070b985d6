import Derived.Test.YtiaeohgghaaciaaGreatDoorB03
import Derived.Test.YtiaeohgghaaciaaGreatDoorB25
namespace Go.Proofs.YtiaeohgghaaciaaGreatDoor
open Go Go.Maps Go.RowKit Go.Extern.Stop Go.Stop Go.Extern Go.Proofs.Tryz
set_option linter.all false
set_option maxRecDepth 100000
set_option maxHeartbeats 4000000
variable{src:List Int}{N base c d i j k m n pc:Nat}{A B:Option Addr}{v:Value}{u w:World}
section
open Go.ChangeShapes Go.WideShapes Go.Joins Go.Deep
theorem ak2{α:Type}{Q:Nat→α→Prop}:∀(n:Nat),(∀i,i<n→∃o,Q i o)→∃l:List α,l.length=n∧∀i (h:i<l.length),Q i l[i]:=by
 intro n
 induction n with
 |zero=>intro _;exact⟨[],rfl,fun i h=>by simp at h⟩
 |succ n W=>
  intro h;obtain⟨l,Y,V⟩:=W fun i X=>h i aj
  obtain⟨o,U⟩:=h n aj;refine⟨l++ [o],by simp[Y],fun i X=>?_⟩
  by_cases Z:i<l.length
  ·rw[jJ Z];exact V i Z
  ·have:i=n:=by simp at X;omega
   subst this;simp[Y,U]
theorem Uk{H:Type}{enc:TypeId × cO→H}{W:aK}{Y:Nat→Bool}{X:Bool}{d:DataW H}{p:List MemPlace}(h:DataW.Trod enc prog W base Y X 24 (aG A n c) d p):
  n=0∨∃V S,d= .slice V S∧V.length=n:=by
 obtain⟨T,R⟩:=h;rcases open_ints underlying24 underlying5 aW R with⟨Z,_⟩|⟨x,m,N,Q,Z,_,M,L,P,U,_,_⟩
 ·simp[Value.cells]at Z
  exact .inl Z.2.1
 ·simp[Value.cells]at Z
  obtain⟨rfl,rfl,rfl⟩:=Z;simp only[jd]at U;refine .inr ⟨_,_,U.1,?_⟩;have O:n≤Q.length:=by rw[P];split<;>omega
  simp[lits,xO];omega
section
variable{H:Type}{enc:TypeId × cO→H}{W:aK}{base b0:Nat}{spare:Nat→Bool}{held:Bool}
theorem Ul{d:DataW H}{p:List MemPlace}(Q:Value.okWide prog W .any b0 24 v)(h:DataW.Trod enc prog W base spare held 24 v d p):
  ∃(A:dK) (l:aO) (c:Nat),v=aG A l.length c∧yK .u8 W A l∧l.length≤9223372036854775807∧l.length≤c∧c≤9223372036854775807∧∀n∈l,0≤n∧n≤255:=by
 obtain⟨J,Z,U,rfl⟩:=okWide_slice underlying24 Q;obtain⟨R,P⟩:=h;rcases open_ints underlying24 underlying5 aW P with⟨Y,_⟩|⟨x,n,c,T,Y,_,I,O,N,_,X,S⟩
 ·simp[Value.cells]at Y
  obtain⟨rfl,rfl,rfl⟩:=Y;exact⟨none,[],0,rfl,yK.nil,bK,bK,bK,bK⟩
 ·simp[Value.cells]at Y
  obtain⟨rfl,rfl,rfl⟩:=Y;unfold maxLen at O;have K:Z≤T.length:=by rw[N];split<;>omega
  have V:(T.take Z).length=Z:=by rw[xO];omega
  refine⟨some x,T.take Z,U,by rw[V],yK.Rw (fun i M=>?_),aj,aj,aj,fun n L=>?_⟩
  ·rw[V]at M
   have:=X i aj;rw[dG,fP aj]at this;rw[this,List.getElem_take];rfl
  ·exact bounds_u8 (S n (D7 L))
theorem adS{u:cO}{y:DataW H × List MemPlace}(h:DataW.trod enc prog W base spare held j 34 [u]=some y):
  ∃(A:dK) (l:aO) (c:Nat),u=aG A l.length c∧yK .i64 W A l∧l.length≤9223372036854775807∧∀v∈l,-9223372036854775808≤v∧v≤9223372036854775807:=by
 rcases open_ints underlying34 underlying3 aW h with⟨Z,_⟩|⟨x,n,c,V,Z,_,O,T,S,_,Y,U⟩
 ·simp only[List.cons.injEq,and_true]at Z
  exact⟨none,[],0,Z,yK.nil,bK,bK⟩
 ·simp only[List.cons.injEq,and_true]at Z
  unfold maxLen at T;have P:n≤V.length:=by rw[S];split<;>omega
  have X:(V.take n).length=n:=by rw[xO];omega
  refine⟨some x,V.take n,c,by rw[X];exact Z,yK.Rw (fun i R=>?_),aj,fun v Q=>bounds_i64 (U v (D7 Q))⟩;rw[X]at R;have:=Y i aj;rw[dG,fP aj]at this;rw[this,List.getElem_take];rfl
def anq(W:aK)(a:Xg):Prop:=(a.m≤9223372036854775807∧a.n≤9223372036854775807)∧(∀v∈a.l,-9223372036854775808≤v∧v≤9223372036854775807)∧Ls W a.A a.n a.l
theorem agJ{cs:List cO}{y:DataW H × List MemPlace}(P:cs.length=3)(h:DataW.trod enc prog W base spare held i 36 cs=some y):∃a:Xg,cs=acR.enc a∧anq W a:=by
 have Z:prog.cellsOf 3=1:=aW
 have U:prog.cellsOf 34=1:=aW
 obtain⟨O,X,_,B,_,Y,V⟩:=DataW.trod_struct underlying36 h
 match cs,P with
 | [N,M,L],_=>
   match O,Y with
   | [K,J,I],_=>
     obtain⟨G,R,_,z⟩:=kZ underlying3 (show DataW.trod enc prog W base spare held X 3 [N]=some K by simpa[Z]using V 0 _ rfl);obtain⟨F,Q,_,E⟩:=kZ underlying3 (show DataW.trod enc prog W base spare held X 3 [M]=some J by simpa[Z]using V 1 _ rfl);obtain⟨A,l,c,D,C,T,S⟩:=adS (show DataW.trod enc prog W base spare held X 34 [L]=some I by simpa[Z,U]using V 2 _ rfl);simp only[List.cons.injEq,and_true]at R Q;subst R Q D;exact⟨⟨G,F,A,l.length,c,l⟩,rfl,⟨(bounds_i64 E).2,T⟩,S,rfl,C⟩
theorem SV{d:DataW H}{p:List MemPlace}(J:Value.okWide prog W .any b0 25 v)(h:DataW.Trod enc prog W base spare held 25 v d p):
  ∃(A:dK) (l:List Xg) (c:Nat),v=aG A l.length c∧AcL W A l.length l∧l.length≤9223372036854775807:=by
 obtain⟨r,Y,U,rfl⟩:=okWide_slice underlying25 J;obtain⟨K,I⟩:=h;rcases open_slice underlying25 I with⟨Z,_⟩|⟨a,y,x,m,n,D,Pl,Z,_,q,G,S,_,F⟩
 ·simp[Value.cells]at Z
  obtain⟨rfl,rfl,rfl⟩:=Z;exact⟨none,[],0,rfl,⟨Qo.none W,fun a E=>by cases E⟩,bK⟩
 ·simp[Value.cells]at Z
  obtain⟨rfl,rfl,rfl⟩:=Z;unfold maxLen at G;have w:Y≤m:=by rw[S];split<;>omega
  have C:prog.cellsOf 36=3:=aW
  have R:∀i,i<Y→∃f:Xg,(∀j u,j<3→(acR.enc f)[j]? =some u→W.cell? (a.add (i*3+j))=some u)∧anq W f:=by
   intro i t;obtain⟨s,M,B⟩:=F i aj;rw[C]at M;obtain⟨_,Q,P⟩:=World.cells?_some M;obtain⟨f,rfl,O⟩:=agJ Q B;refine⟨f,fun j u T V=>?_,O⟩;have:=P j aj;rw[Go.Proofs.YtiaeohgghaaciaaGreatDoor.add_add]at this;rw[this,←V]
  obtain⟨l,N,L⟩:=ak2 Y R;refine⟨some a,l,U,by rw[N],⟨⟨rfl,Rd.Rw (tJ.aaX acR l) (fun j u V=>?_) bn⟩,fun o z=>?_⟩,aj⟩
  ·have T:j<(acR.flat l).length:=(lX.1 V).1
   rw[tJ.aaX]at T;have T:j<l.length*3:=T;have X:j/3<l.length:=aj
   have e:j=j/3*3+j%3:=aj
   rw[e]at V ⊢;exact(L _ X).1 _ u aj (by rw[←V];exact(tJ.flat_get acR X (aj:j%3<3)).symm)
  ·obtain⟨i,X,rfl⟩:=List.getElem_of_mem z
   exact(L i X).2
end
end
def TwF(w:aK)(X:bI)(n:Nat)(p q:dK)(w':aK):Prop:=
 aP w w'∧(p=none∨(∃a,p=some a∧q=none)∨∃(I J:MG) (S T:Nat→Prop),p=some (aH I.sg 0)∧q=some (aH J.sg 0)∧I.X=X∧J.X=X∧I.n=n∧J.n=n∧Xh w w' I J S T ⟨aI.new 4194304,none⟩ ⟨aI.new 4194304,none⟩)
theorem ajg.two{w4 v z:aK}{C:Ei}{p q:dK}(Y:aP w u)(P:aP u w4)
  (h1:p=none∨∃(I:MG) (S:Nat→Prop),p=I.sg∧I.X=gu C src∧I.n=n∧(0≤(4194304:Int)∧(4194304:Int)≤16777216)∧OnW u w4 I S ⟨aI.new 4194304,none⟩) (W:aP w4 v) (U:aP v z)
  (h2:q=none∨∃(I:MG) (S:Nat→Prop),q=I.sg∧I.X=gu C src∧I.n=n∧(0≤(4194304:Int)∧(4194304:Int)≤16777216)∧OnW v z I S ⟨aI.new 4194304,none⟩):TwF w (gu C src) n p q z:=by
 have M:=Y.trans (P.mono Y.size);have R:=M.trans (W.mono M.size);have L:=R.trans (U.mono R.size);refine⟨L,?_⟩;rcases h1 with h1|⟨I,S,h1,K,H,-,Q⟩
 ·exact .inl h1
 rcases h2 with h2|⟨J,T,h2,O,N,-,Z⟩
 ·exact .inr (.inl ⟨_,h1,h2⟩)
 refine .inr (.inr ⟨I,J,S,T,h1,h2,K,O,H,N,(Q.hs.keep W).keep U,Z.hs,fun i V G=>?_,Z.gl,L,fun i V=>dD Y.size (Q.lo i V),fun i V=>dD R.size (Z.lo i V)⟩);have:=Z.lo i V;have:=Q.hs.lt G;have:=W.size;omega
theorem YQ{a b:ByteArray}(h:a.toList=b.toList):a=b:=by
 rw[rP,rP]at h;cases a;cases b;congr 1;exact Array.toList_inj.1 h
theorem aeQ{X:bI}{s:oK}(W:nX X s N)(Z:(s.d.names (iR n)).isSome=true):(s.d.file (iR n)).data=X.pk n:=by
 obtain⟨k,Y⟩:=Hu.1 Z;rw[Aw (Gu Y)];exact W.ok.chunk Y
theorem adW{C:Ei}{P:dK}{x y:Int}{l ks:List Xg}(zh:Gl w)(hn:n≤140737488355328)(qF:n≤c)(zi:dV src)(hA:Lb w A n src)(hm:m≤9223372036854775807)(hl:AcL w B m l)
  (zR:k≤9223372036854775807) (hP:AcL w P k ks):
  Calls prog 3 #[C.v,aG A n c,aB x,aB y,aG B m d,aG P k pc] w (Val w (.bool true)):=by
 have hb:=aJ w (aS (jC C.qn C.qx C.re C.cu C.go C.ra C.ro C.fi) 23);have E:=ay (aeP w C);obtain⟨W1,qN⟩:∃W1:aK,W1=w.alloc (aS (jC C.qn C.qx C.re C.cu C.go C.ra C.ro C.fi) 23):=⟨_,rfl⟩;rw[←qN]at hb E;obtain⟨HG,HA,HL⟩:=dB (zh.keep hb) (And.intro zi (hA.keep hb)) (hl.keep hb);have zj:Hid (l.length=m):=ay hl.row.len;have HP:=ay (hP.keep hb);have zk:Hid (ks.length=k):=ay hP.row.len;obtain⟨HB,zS,HN⟩:=dB hb qN (And.intro hn (And.intro qF zR));obtain⟨m1,-,qr⟩:=ajf (a:=x);obtain⟨m2,-,qs⟩:=ajf (a:=y);obtain⟨qO,qP⟩:=aV qr qs;clear hb zh hA zi hl hP qN hn qF qr qs;go_enter func3,ntmps3;go_upto_region 1 with(fail)
 change Code.wp _ _ _ _ (w.alloc (aS (jC C.qn C.qx C.re C.cu C.go C.ra C.ro C.fi) 23));rw[←zS.out];go_upto_region 3 with(first|(go_at_call 5;refine(xH HG.vI).mono ?_;rintro e w2 ⟨rfl,zl⟩)|fail)
 have ql:=ay zl;clear zl;go_cut [13,14] (fun zT zU wx=>∃p q,zT=aY p∧zU=aY q∧Hid (TwF w2 (gu C src) n p q wx))
 case first=>
  have zV:=E.out w2 ql.out;have zW:=E.out w2.drew ql.out.drew;have zm:=ay ql.out.drew
  go_region_held3(fun W=>aN W w 0 (aB C.qn)∧aN W w 1 (aB C.qx)∧aN W w 2 (aB C.re)∧aN W w 3 (aB C.cu)∧aN W w 4 (aB C.go)∧aN W w 5 (aB C.ra)∧aN W w 6 (aB C.ro)∧aN W w 7 (aB C.fi))
   (first|with_reducible exact E.out _ zX|with_reducible exact E.out _ qt|with_reducible exact E.out _ qA|with_reducible exact E.out _ qu|with_reducible exact zW|with_reducible exact zV|fail)
   (first
     |(go_at_call 6;refine(SX (C:=C) HN.vI.1 HA.vI.1 (HG.vI.keep qt) (HA.vI.2.keep qt)).mono ?_;rintro e w6 ⟨p6,rfl,qm,zY⟩;have zX:=qt.trans (qm.mono qt.size))
     |(go_at_call 7;have hz:=qA;refine(qP.out _).mono ?_;rintro e w5 ⟨rfl,G⟩;have qt:=qA.trans (G.mono qA.size))
     |(go_at_call 6;refine(SX (C:=C) HN.vI.1 HA.vI.1 (HG.vI.keep qu) (HA.vI.2.keep qu)).mono ?_;rintro e w4 ⟨p4,rfl,zn,zZ⟩;have qA:=qu.trans (zn.mono qu.size))
     |(go_at_call 7;refine(qO.out _).mono ?_;rintro e w3 ⟨rfl,qB⟩;have qB:Below w2.drew w2.drew w3:=qB;have qu:=zm.out.trans (qB.mono zm.out.size))
     |fail)
  all_goals(go_wp2_with fail;go_meet;exact⟨_,_,rfl,rfl,ay (ajg.two ((aU w2 w2).drew.trans qB) zn zZ G qm zY)⟩)
 case rest=>
  obtain⟨p,q,rfl,rfl,HT⟩:=hcut;obtain⟨zo,hT⟩:=HT.vI;have M:=ay (ql.out.trans (zo.mono ql.out.size));clear zo HT;rcases hT with rfl|⟨a,rfl,rfl⟩|⟨I,J,S,T,rfl,rfl,qQ,qR,zq,zr,ht⟩
  ·go_wp2_with(first|(go_at_call 5;refine(xH (HG.vI.keep M.out)).mono ?_;rintro e w5 ⟨rfl,G⟩)|fail)
   go_ret;have Z:=M.out.trans (G.mono M.out.size);exact⟨rfl,HB.vI.trans (Z.mono HB.vI.size)⟩
  ·go_wp2_with(first|(go_at_call 5;refine(xH (HG.vI.keep M.out)).mono ?_;rintro e w5 ⟨rfl,G⟩)|fail)
   go_ret;have Z:=M.out.trans (G.mono M.out.size);exact⟨rfl,HB.vI.trans (Z.mono HB.vI.size)⟩
  obtain⟨HT,HX,HJ⟩:=dB (ht.from_ ql.out) (show I.X.ok∧I.X.Si by rw[qQ];exact Gi C src) (show J.X.ok∧J.X.Si by rw[qR];exact Gi C src);have zt:Hid (J.X=I.X):=ay (by rw[qQ,qR]);have zu:=ay (And.intro zq zr);have xa:Hid (nX I.X ⟨aI.new 4194304,none⟩ 0):=ay (Xb I.X aj);have xc:Hid (nX J.X ⟨aI.new 4194304,none⟩ 0):=ay (Xb J.X aj);clear qQ qR zq zr ht;obtain⟨c0,c1,c2,c3,c4,c5,c6,c7⟩:=E.out wc M.out;obtain⟨zv,zw⟩:=aV (Xc (C:=C) (A:=A) (c:=c) (d:=d) HN.vI.2.1 HA.vI.1 (HA.vI.2.keep M.out) hm (HL.vI.keep M.out)) (fun u (f:aP W1 u)=>Xc (C:=C) (A:=A) (c:=c) (d:=pc) HN.vI.2.1 HA.vI.1 (HA.vI.2.keep f) HN.vI.2.2 (HP.vI.keep f))
  go_upto_region 6 with(first
   |(go_at_call 5;refine(xH (HG.vI.keep qh)).mono ?_;rintro e w7 ⟨rfl,qS⟩;have qT:=qh.trans (qS.mono qh.size))
   |(go_at_call 5;refine(xH (HG.vI.keep Z)).mono ?_;rintro e w7 ⟨rfl,qS⟩;have qT:=Z.trans (qS.mono Z.size))
   |(go_at_call 8;refine(zw.out _ Z).mono ?_;rintro e w6 ⟨b6,rfl,zx,qm⟩;have qh:=Z.trans (qm.mono Z.size);cases b6)
   |(go_at_call 8;refine zv.out.mono ?_;rintro e w5 ⟨b5,rfl,zy,G⟩;have Z:=M.out.trans (G.mono M.out.size);obtain⟨d0,d1,d2,d3,d4,d5,d6,d7⟩:=E.out w5 Z;cases b5)
   |fail)
  ·go_ret
   exact⟨rfl,HB.vI.trans (qT.mono HB.vI.size)⟩
  ·go_ret
   exact⟨rfl,HB.vI.trans (qT.mono HB.vI.size)⟩
  obtain⟨HF,xd⟩:=aV (And.intro (zy trivial) (zx trivial)) ((HT.vI.keep G).keep qm);clear c0 c1 c2 c3 c4 c5 c6 c7 d0 d1 d2 d3 d4 d5 d6 d7 zy zx G qm Z qh HT zv zw;go_wp2_with fail
  go_loopg [15] m (fun g xe wr=>∃(i:Nat) (S':Nat→Prop) (s:oK),i+g=m∧xe= aB i∧Hid (Xh W1 wr I J S' T s ⟨aI.new 4194304,none⟩)∧Hid (nX I.X s (wC i l)))
  case atStart=>exact⟨0,S,_,aj,rfl,xd,ay (xa.out.mono (dS _))⟩
  case round=>
   obtain⟨i,S',s,hi,rfl,HOr,qo⟩:=hrel
   by_cases qa:i<m
   ·have zL:(i:Int)<(m:Int):=aj
    obtain⟨b,o,rfl,a0,a1,a2,r⟩:=(HL.vI.keep HOr.vI.b).at_ qa;have L:=HL.vI.one _ r;have qe:=Jq (l:=l) (i:=i) (by rw[zj.out];exact qa);have qU:wC (i+1) l≤148000:=IJ (by rw[zj.out];exact qa) HF.vI.1.2.1 HF.vI.1.2.2;generalize l.getD i default=a at*;obtain⟨ak,am,aA,an,ac,al⟩:=a;dsimp only at a0 a1 a2 L qe;obtain⟨qV,qW⟩:=aV (Ru (w0:=W1) (a:=⟨ak,am,aA,an,ac,al⟩) HX.vI.1 HX.vI.2 HOr.vI.one L qo.out (by show _+vV ak am≤_;omega) (by have:=HF.vI.1.1;rw[zu.out.1];omega)) qe;clear r L qe qU;go_wp2_with(first|(go_at_call 9;refine qV.out.mono ?_;rintro e w7 ⟨s',v7,rfl,qv,qw⟩;obtain⟨S2,qX⟩:=HOr.vI.step qw)|fail);go_roundg(m-i-1)
    case measure=>omega
    case rel=>exact⟨i+1,S2,s',aj,fA,ay qX,ay (qv.mono qW.out)⟩
   ·obtain rfl:i=m:=aj
    go_wp2_with fail
    go_loopg [16] k (fun g xf wx=>∃(j:Nat) (T':Nat→Prop) (t:oK),j+g=k∧xf= aB j∧Hid (Xh W1 wx I J S' T' s t)∧Hid (nX J.X t (wC j ks)))
    case atStart=>exact⟨0,T,_,aj,rfl,HOr,ay (xc.out.mono (dS _))⟩
    case round=>
     obtain⟨j,T',t,hj,rfl,O,qq⟩:=hrel
     by_cases qa:j<k
     ·have zL:(j:Int)<(k:Int):=aj
      obtain⟨b,o,rfl,a0,a1,a2,r⟩:=(HP.vI.keep O.out.b).at_ qa;have L:=HP.vI.one _ r;have qe:=Jq (l:=ks) (i:=j) (by rw[zk.out];exact qa);have qU:wC (j+1) ks≤148000:=IJ (by rw[zk.out];exact qa) HF.vI.2.2.1 HF.vI.2.2.2;generalize ks.getD j default=a at*;obtain⟨ak,am,aA,an,ac,al⟩:=a;dsimp only at a0 a1 a2 L qe;obtain⟨qV,qW⟩:=aV (Ru (w0:=W1) (a:=⟨ak,am,aA,an,ac,al⟩) HJ.vI.1 HJ.vI.2 O.out.swap.one L qq.out (by show _+vV ak am≤_;omega) (by have:=HF.vI.1.1;rw[zu.out.2];omega)) qe;clear r L qe qU;go_wp2_with(first|(go_at_call 9;refine qV.out.mono ?_;rintro e w7 ⟨s',v7,rfl,qv,qw⟩;obtain⟨S2,qX⟩:=O.out.step2 qw)|fail);go_roundg(k-j-1)
      case measure=>omega
      case rel=>exact⟨j+1,S2,s',aj,fA,ay qX,ay (qv.mono qW.out)⟩
     ·obtain rfl:j=k:=aj
      obtain⟨zA,zB⟩:=aV (aeO HX.vI.1 qo.out O.out.hs) (fun u (f:aP wr u)=>aeO HJ.vI.1 qq.out (O.out.ht.keep f))
      go_upto_region 16 with(first
       |(go_at_call 10;refine(zB.out _ F).mono ?_;rintro e zC ⟨xg,xh,c21,zD,rfl,qG,qf⟩;have qH:=F.trans (qf.mono F.size))
       |(go_at_call 10;refine zA.out.mono ?_;rintro e xi ⟨xj,xk,c20,zE,rfl,qI,F⟩;have F:aP wr xi:=F)
       |fail)
      have zM:Hid (zE=true→Lb zC xj xk I.X.out):=ay (fun e=>(qI e).keep qf);have zN:Hid (zD=true→Lb zC xg xh I.X.out):=ay (fun e=>by rw[←zt.out];exact qG e);have zO:=ay qH;clear qI qG F qH qf zA zB;go_cut [106] (fun zP wx=>zP= .bool false∧Hid (aP wr wx))
      case first=>
       cases zE<;>cases zD
       all_goals(go_wp2_with(first|(go_at_call 11;refine(UW HX.vI.2.out HX.vI.2.out _ (zM.out rfl) (zN.out rfl)).mono ?_;rintro e w22 ⟨rfl,rfl⟩)|fail);go_meet;exact⟨rfl,zO⟩)
      case rest=>
       obtain⟨rfl,qY⟩:=hcut
       go_upto_region 20 with(first
        |(go_at_call 13;refine(SQ (qq.out.lt HJ.vI.1) qq.out.fit (O.out.ht.keep qi)).mono ?_;rintro e V ⟨A6,n6,c6,zF,rfl,qJ,qK,hn6,H⟩;have qy:=qi.trans (H.mono qi.size))
        |(go_at_call 13;refine(SQ (qo.out.lt HX.vI.1) qo.out.fit (O.out.hs.keep qj)).mono ?_;rintro e w25 ⟨A5,n5,c5,zG,rfl,qL,qM,hn5,z⟩;have qi:=qj.trans (z.mono qj.size))
        |(go_at_call 12;refine(acj HJ.vI.1 qq.out (O.out.ht.keep qk)).mono ?_;rintro e w24 ⟨g2,l2,rfl,qs,qg⟩;have qj:=qk.trans (qg.mono qk.size))
        |(go_at_call 12;refine(acj HX.vI.1 qo.out (O.out.hs.keep qY.out)).mono ?_;rintro e w23 ⟨g1,l1,rfl,qr,qz⟩;have qk:=qY.out.trans (qz.mono qY.out.size))
        |fail)
       obtain⟨qO,qP,xl,xn,xp,xq,zH,xr⟩:=GI (fun wy (f:aP V wy)=>(((qr.keep qg).keep z).keep H).keep f) (fun wy (f:aP V wy)=>((qs.keep z).keep H).keep f) (fun wy (f:aP V wy)=>(qL.keep H).keep f) (fun wy (f:aP V wy)=>qJ.keep f) qM qK (O.out.b.trans (qy.mono O.out.b.size)) (O.out.gl.keep qy);clear qr qs qL qJ qM qK qk qz qj qg qi z qy H;go_wp2_with fail
       go_loopg [25,26,27] n5 (fun g xt zI qZ wy=>∃i5:Nat,i5+g=n5∧xt= aB i5∧Hid (aP V wy))
       case atStart=>exact⟨0,aj,rfl,ay (aU _ _)⟩
       case round=>
        obtain⟨i5,hi5,rfl,za⟩:=hrel
        by_cases hl5:i5<n5
        ·have aqK:(i5:Int)<(n5:Int):=aj
         go_wp2_with fail
         go_loopg [26,27] n6 (fun g zI qZ wy=>∃i6:Nat,i6+g=n6∧zI= aB i6∧Hid (aP V wy))
         case atStart=>exact⟨0,aj,rfl,za⟩
         case round=>
          obtain⟨i6,hi6,rfl,zJ⟩:=hrel
          by_cases hl6:i6<n6
          ·have aqL:(i6:Int)<(n6:Int):=aj
           go_wp2_with fail
           go_loopg [27] 16 (fun g qZ wy=>∃q:Nat,q+g=16∧qZ= aB q∧Hid (aP V wy))
           case atStart=>exact⟨0,aj,rfl,zJ⟩
           case round=>
            obtain⟨q,hq,rfl,Y⟩:=hrel
            by_cases zb:q<16
            ·have aqM:(q:Int)<16:=aj
             obtain⟨x1,d0,-⟩:=aaw (qO.out _ Y.out) zb;obtain⟨x2,e0,-⟩:=aaw (qP.out _ Y.out) zb;have k5:=xl.out _ Y.out;have k6:=xn.out _ Y.out;obtain⟨b5,o5,rfl,f0,f1,-,zc⟩:=aar k5 hl5;obtain⟨b6,o6,rfl,p0,p1,-,ze⟩:=aar k6 hl6;have qC:=k5.dat _ zc;have qD:=k6.dat _ ze;have zf:(s.d.names (zG.getD i5 default).x).isSome=true:=(xp.out.mem _).1 (FH.2 ⟨_,zc,rfl⟩);have zg:(t.d.names (zF.getD i6 default).x).isSome=true:=(xq.out.mem _).1 (FH.2 ⟨_,ze,rfl⟩);generalize zG.getD i5 default=v5 at*;generalize zF.getD i6 default=v6 at*;obtain⟨y5,A5,z5,w5,u5⟩:=v5;obtain⟨y6,A6,z6,w6,u6⟩:=v6;dsimp only at f0 f1 p0 p1 qC qD zf zg;have D1:∀u,aP wr u→Calls prog 14 #[aB q] u fun e qE=>e=bM (.string (bP (iR q)))∧aP u qE:=fun u _=>ajh zb u
             have C1:=ay (Calls.grown D1);have G1:=fun p:Go.Regrown=>Go.cell_regrown d0 p.d p.os
             have G2:=fun p:Go.Regrown=>Go.cell_regrown e0 p.d p.os
             have G3:=fun p:Go.Regrown=>Go.cell_regrown f0 p.d p.os
             have G4:=fun p:Go.Regrown=>Go.cell_regrown f1 p.d p.os
             have G5:=fun p:Go.Regrown=>Go.cell_regrown p0 p.d p.os
             have G6:=fun p:Go.Regrown=>Go.cell_regrown p1 p.d p.os
             have Q:bP y5=bP (iR q)→bP y6=bP (iR q)→∀u,aP wr u→Calls prog 11 #[aG A5 z5 w5,aG A6 z6 w6] u fun e qE=>e=bM (.bool true)∧aP u qE:=by
              intro e5 e6 u f;have zK:iR q<36:=by unfold iR;omega
              have j5:y5=iR q:=EJ _ qC.2.2 _ zK (by rw[←Jo,e5,Jo]);have j6:y6=iR q:=EJ _ qD.2.2 _ zK (by rw[←Jo,e6,Jo]);subst j5 j6;have r5:=qC.1.keep f;have r6:=qD.1.keep f;rw[aeQ qo.out zf]at r5;rw[aeQ qq.out zg,zt.out]at r6;exact(UW (HX.vI.2.pk q) (HX.vI.2.pk q) u r5.lb r6.lb).mono fun e qE h=>⟨by rw[h.1,su rfl],by rw[←h.2];exact aU _ _⟩
             clear zf zg qC qD k5 k6 zc ze d0 e0 f0 f1 p0 p1 D1;generalize bP y5=s5 at*;generalize bP y6=s6 at*;generalize bP (iR q)=s7 at*
             have hc:(x1=false∨x1=true∧x2=false)∨((x1=true∧x2=true)∧s5≠s7)∨((x1=true∧x2=true)∧s5=s7∧s6≠s7)∨((x1=true∧x2=true)∧s5=s7∧s6=s7):=by
              cases x1<;>cases x2<;>by_cases e5:s5=s7<;>by_cases e6:s6=s7<;>simp[e5,e6]
             rcases hc with(rfl|⟨rfl,rfl⟩)|⟨sD,e5⟩|⟨sD,rfl,e6⟩|⟨sD,rfl,rfl⟩
             ·as_aux_lemma=>
              clear Q;go_upto_region 29 with(fail)
              (refine AQ aW aW ?_;(repeat(refine DV (fun K N=>?_);go_simp;first|(refine N _ ?_;clear N K)|(apply Exists.intro;refine⟨fun _=>?_,N _ ?_⟩;(focus(with_reducible first|exact C1.out _|exact C2.out _));clear N K)));(refine Hy ?_))
              intro wq U;have R:=Y.out.trans (U.below.mono Y.out.size);have D:=ay R;clear U R G1 G2 G3 G4 G5 G6 C1;go_wp2_with fail;go_roundg(16-q-1)
              case measure=>omega
              case rel=>exact⟨q+1,aj,fA,D⟩
             ·as_aux_lemma=>
              clear Q;go_upto_region 29 with(fail)
              (refine AQ aW aW ?_;(repeat(refine DV (fun K N=>?_);go_simp;first|(refine N _ ?_;clear N K)|(apply Exists.intro;refine⟨fun _=>?_,N _ ?_⟩;(focus(with_reducible first|exact C1.out _|exact C2.out _));clear N K)));(refine Hy ?_))
              intro wq U;have R:=Y.out.trans (U.below.mono Y.out.size);have D:=ay R;clear U R G1 G2 G3 G4 G5 G6 C1;go_wp2_with fail;go_roundg(16-q-1)
              case measure=>omega
              case rel=>exact⟨q+1,aj,fA,D⟩
             ·as_aux_lemma=>
              clear Q;have e5b:(s5.toList==s7.toList)=false:=oO.2 (fun e=>e5 (YQ e));go_upto_region 29 with(fail)
              (refine AQ aW aW ?_;(repeat(refine DV (fun K N=>?_);go_simp;first|(refine N _ ?_;clear N K)|(apply Exists.intro;refine⟨fun _=>?_,N _ ?_⟩;(focus(with_reducible first|exact C1.out _|exact C2.out _));clear N K)));(refine Hy ?_))
              intro wq U;have R:=Y.out.trans (U.below.mono Y.out.size);have D:=ay R;clear U R G1 G2 G3 G4 G5 G6 C1;go_wp2_with fail;go_roundg(16-q-1)
              case measure=>omega
              case rel=>exact⟨q+1,aj,fA,D⟩
             ·as_aux_lemma=>
              clear Q;have e6b:(s6.toList==s5.toList)=false:=oO.2 (fun e=>e6 (YQ e));go_upto_region 29 with(fail)
              (refine AQ aW aW ?_;(repeat(refine DV (fun K N=>?_);go_simp;first|(refine N _ ?_;clear N K)|(apply Exists.intro;refine⟨fun _=>?_,N _ ?_⟩;(focus(with_reducible first|exact C1.out _|exact C2.out _));clear N K)));(refine Hy ?_))
              intro wq U;have R:=Y.out.trans (U.below.mono Y.out.size);have D:=ay R;clear U R G1 G2 G3 G4 G5 G6 C1;go_wp2_with fail;go_roundg(16-q-1)
              case measure=>omega
              case rel=>exact⟨q+1,aj,fA,D⟩
             ·as_aux_lemma=>
              have C2:=ay (Calls.grown (Q rfl rfl));clear Q;go_upto_region 29 with(fail)
              (refine AQ aW aW ?_;(repeat(refine DV (fun K N=>?_);go_simp;first|(refine N _ ?_;clear N K)|(apply Exists.intro;refine⟨fun _=>?_,N _ ?_⟩;(focus(with_reducible first|exact C1.out _|exact C2.out _));clear N K)));(refine Hy ?_))
              intro wq U;have R:=Y.out.trans (U.below.mono Y.out.size);have D:=ay R;clear U R G1 G2 G3 G4 G5 G6 C1 C2;go_wp2_with fail;go_roundg(16-q-1)
              case measure=>omega
              case rel=>exact⟨q+1,aj,fA,D⟩
            ·obtain rfl:q=16:=aj
             go_wp2_with fail;go_roundg(n6-i6-1)
             case measure=>omega
             case rel=>exact⟨i6+1,aj,fA,Y⟩
          ·obtain rfl:i6=n6:=aj
           go_wp2_with fail;go_roundg(n5-i5-1)
           case measure=>omega
           case rel=>exact⟨i5+1,aj,fA,zJ⟩
        ·obtain rfl:i5=n5:=aj
         go_wp2_with(first|(go_at_call 5;refine(xH (xr.out.keep za.out)).mono ?_;rintro e w28 ⟨rfl,zQ⟩)|fail);go_ret;have k1:=zH.out.trans (za.out.mono zH.out.size);have k2:=k1.trans (zQ.mono k1.size);exact⟨rfl,HB.vI.trans (k2.mono HB.vI.size)⟩
section
open Go.ChangeShapes Go.WideShapes Go.Joins Go.Deep
theorem TopAlike_lifted(os:Os)(S:os.Started)(H:Type)(enc:TypeId × cO→H):
  ReturnsInHanded {} Tryz.checked os 3 .any (fun w Z=>(Rows.topAlikeSpec.pre enc prog Tryz.f3 [] false w Z∧laidMetH prog [("errors.errorType",Rows.laid_errors_errorType)] w)∧sizedMet enc prog Tryz.f3 (OpenSpec.ofChange Rows.topAlikeSpec) false w Z)
   (Rows.topAlikeSpec.post enc prog Tryz.f3 false true false false):=by
 refine returnsInHanded_of_change_and (C:=Tryz.checked) (X:=fun w _=>laidMetH prog [("errors.errorType",Rows.laid_errors_errorType)] w) (fun _ _ _ hh h=>h.of_heap hh) own S aW func3
  (ChangeSpec.witness_at (enc:=enc) (C:=Tryz.checked) (os:=os) (X:=fun w _=>laidMetH prog [("errors.errorType",Rows.laid_errors_errorType)] w) false (laidWorld os) #[.agg #[aB 0,aB 0,aB 0,aB 0,aB 0,aB 0,aB 0,aB 0],bU,aB 0,aB 0,bU,bU] 8 rfl aW aW aW aW aW (laidWorld_met os _)) ?_
 intro W O Z g f M T d _ R hL _;have Q:(DataW.weightsEach prog (Tryz.f3.params.toList++Rows.topAlikeSpec.plain.varTypes prog) (g++f)).all (·≤reachBytes)=true:=R;clear R;have Y:∀(j:Nat) t v,Tryz.f3.params[j]? =some t→Z[j]? =some v→Value.okWide prog W .any O t v:=T;have K:=d;obtain⟨p,q,P,J,rfl,qa,qe⟩:=d;have c:DataW.TrodAll enc prog W 0 (fun _=>true) true Tryz.f3.params.toList Z.toList g p:=P;have hV:DataW.TrodVars enc prog W (fun _=>true) [] f q:=J;rw[params3]at c Y Q;obtain⟨a,qf,d0,qg,p0,q0,i,rfl,rfl,h0,r0⟩:=trodAll_cons c;obtain⟨v1,qh,d1,qi,p1,q1,rfl,rfl,rfl,L,r1⟩:=trodAll_cons r0;obtain⟨v2,qj,d2,qk,p2,q2,rfl,rfl,rfl,h2,r2⟩:=trodAll_cons r1;obtain⟨v3,ql,d3,qm,p3,q3,rfl,rfl,rfl,h3,r3⟩:=trodAll_cons r2;obtain⟨v4,qo,d4,qq,p4,q4,rfl,rfl,rfl,h4,r4⟩:=trodAll_cons r3;obtain⟨v5,qr,d5,qs,p5,q5,rfl,rfl,rfl,h5,r5⟩:=trodAll_cons r4;obtain⟨rfl,rfl,rfl⟩:=trodAll_nil r5;obtain rfl:Z=#[a,v1,v2,v3,v4,v5]:=by cases Z;simp_all
 obtain⟨rfl,rfl⟩:=trodVars_none hV;have k0:=h0;have I:∀x∈p0,x.block<W.heap.size:=by obtain⟨m,U⟩:=k0;exact jW m _ _ _ U
 have k1:=L;have G:∀x∈p1,x.block<W.heap.size:=by obtain⟨m,U⟩:=k1;exact jW m _ _ _ U
 have k2:=h2;have F:∀x∈p2,x.block<W.heap.size:=by obtain⟨m,U⟩:=k2;exact jW m _ _ _ U
 have k3:=h3;have E:∀x∈p3,x.block<W.heap.size:=by obtain⟨m,U⟩:=k3;exact jW m _ _ _ U
 have k4:=h4;have D:∀x∈p4,x.block<W.heap.size:=by obtain⟨m,U⟩:=k4;exact jW m _ _ _ U
 have k5:=h5;have B:∀x∈p5,x.block<W.heap.size:=by obtain⟨m,U⟩:=k5;exact jW m _ _ _ U
 obtain⟨qn,qx,re,cu,go,ra,ro,fi,rfl⟩:=aaB (Y 0 23 a rfl rfl) h0;obtain⟨Ab,b,cb,rfl,A,qt,z,qu,y⟩:=Ul (Y 1 24 v1 rfl rfl) L;obtain⟨s,rfl,qv⟩:=P7 (Y 2 3 v2 rfl rfl) h2;obtain⟨n,rfl,qw⟩:=P7 (Y 3 3 v3 rfl rfl) h3;obtain⟨Al,l,cl,rfl,u,r⟩:=SV (Y 4 25 v4 rfl rfl) h4;obtain⟨Am,m,cm,rfl,o,k⟩:=SV (Y 5 25 v5 rfl rfl) h5
 have N:b.length≤140737488355328:=by
  rcases Uk L with hz|⟨el,sp,rfl,qy⟩
  ·omega
  ·have h:=sized_slice Q (j:=1) (t:=24) (e:=5) rfl rfl underlying24
   rw[(aW:prog.bytesOf 5=1)]at h;simp only[reachBytes]at h;omega
 clear P T;refine(adW (C:=⟨qn,qx,re,cu,go,ra,ro,fi⟩) (handle_of_laid hL) N z y ⟨rfl,A⟩ r u k o).mono fun e W' ⟨he,V⟩=>?_
 subst he;exact⟨_,rfl,_,_,_,[],_,[],K,trodAll_mk1 (shut_bool underlying4 _),(trodAll_cons_mk (Below.trod laidOut aW (tu aW) k0 V I) (trodAll_cons_mk (Below.trod laidOut aW (tu aW) k1 V G) (trodAll_cons_mk (Below.trod laidOut aW (tu aW) k2 V F) (trodAll_cons_mk (Below.trod laidOut aW (tu aW) k3 V E) (trodAll_cons_mk (Below.trod laidOut aW (tu aW) k4 V D) (trodAll_cons_mk (Below.trod laidOut aW (tu aW) k5 V B) trodAll_mk0)))))),rfl,V.frame _,fun h=>by cases h⟩
end
end Go.Proofs.YtiaeohgghaaciaaGreatDoor
