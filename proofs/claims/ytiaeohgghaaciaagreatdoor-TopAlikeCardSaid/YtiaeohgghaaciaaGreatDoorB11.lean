import Derived.Test.YtiaeohgghaaciaaGreatDoorB10
namespace Go.Proofs.YtiaeohgghaaciaaGreatDoor
open Go Go.Maps Go.RowKit Go.Extern.Stop Go.Stop Go.Extern Go.Proofs.Tryz
set_option linter.all false
set_option maxRecDepth 100000
set_option maxHeartbeats 4000000
variable{a:Act}{cs:Array Value}{key:Bool}{Q:Exit→Act→World→Prop}{cu fi go most ra ro:Int}{b f l p:List Int}{H H2 N N2 W W2 base c c' c1 c2 cap d g hi i j k lo m n q qn qp qx r size x y:Nat}{o:Oper}{A A1 A2 B:Option Addr}{E:Prop}{t:TypeId}{v:Value}{u w:World}
theorem BO(h:∀v∈b,0≤v∧v≤255):0≤nO b∧nO b≤30000:=by
 have Z:=dO h aj aj;have Y:=oI (f:=fun i=>b.getD i 0) (a:=0) (b:=255) (j:=64) fun i _=>Z i
 have X:0≤nJ b∧nJ b≤300:=by unfold nJ;omega
 have W:=oI (f:=fun i=>max (b.getD i 0-nJ b) (nJ b-b.getD i 0)) (a:=0) (b:=300) (j:=64) fun i _=>by have:=Z i;omega
 unfold nO;omega
def iK(W8 W H:Nat)(f:aO)(i:Nat):aO:=sW W H f (8*(i%W8)) (8*(i/W8))
theorem Own.QA{α:Type}{R:tJ α}{r:List α}(h:Own w i A n c l)(k:dX R w j B m d r)(Z:R.T≠3):∀q,A=some q→¬In B q.block:=by
 rintro q rfl ⟨p,rfl,e⟩;exact EZ h.row k.row (jP Z) q.block rfl (by simp[Value.ownBlock,e])
def BP(W8 H8 W H:Nat)(f:aO):Int:=fO (fun i=>nO (iK W8 W H f i)) (H8*W8)
def yA(W8 W H:Nat)(f q:aO)(i:Nat):Int:=min (vN 64 (iK W8 W H f i) (iK W8 W H q i)) (nO (iK W8 W H f i))
def BQ(W8 H8 W H:Nat)(f q:aO):Int:=fO (yA W8 W H f q) (H8*W8)
def afw(w:aK)(base:Nat)(A:dK)(n:Nat)(Z:Nat→aO):Prop:=
 ∃(c:Nat) (l:List Sl),dX slR w base A n c l∧∀i,(h:i<l.length)→l[i].n=64∧Own w base l[i].A 64 l[i].c (Z i)
theorem afw.at_{w:aK}{base n:Nat}{A:dK}{Z:Nat→aO}(h:afw w base A n Z){i:Nat}(hi:i<n):∃b o B c,A=some (aH b o)∧aN w b (o+i) (aG B 64 c)∧Ls w B 64 (Z i):=by
 obtain⟨c,l,Y,X⟩:=h;obtain⟨b,o,W,V⟩:=Y.ls.at_ hi;have S:=Y.len;obtain⟨U,T⟩:=X i aj;have:=V 0 (.slice (l[i]' aj).A (l[i]' aj).n (l[i]' aj).c) rfl;rw[U]at this;exact⟨b,o,_,_,W,by simpa[slR]using this,T.ls⟩
theorem afw.keep{w w':aK}{base n:Nat}{A:dK}{Z:Nat→aO}(h:afw w base A n Z)(Y:aP w w'):afw w' base A n Z:=by
 obtain⟨c,l,V,X⟩:=h;exact⟨c,l,V.keep Y,fun i W=>⟨(X i W).1,(X i W).2.keep Y⟩⟩
theorem PL{W8 H8:Nat}(z:W=8*W8)(u:H=8*H8)(h4:1≤W8∧W8≤4∧H8≤4)(w:aK)(t:Fr w W H N A f):
  Calls prog 211 #[uf W H A N c] w fun e I=>∃B b,e=bM (aG B (H8*W8) b)∧afw I w B (H8*W8) (iK W8 W H f)∧aP w I:=by
 have U:=aJ w (dA W H A N c);have r:=bF.new w 90 #[W,H,aG A N c];obtain⟨V,Q⟩:=kF (w.alloc (dA W H A N c));rw[←Q]at U r;have q:V.heap.size=w+1:=by rw[Q];simp
 obtain⟨HX,HF⟩:=aV (fun I (h:aP V I)=>mD (r.keep h)) (fun I (h:aP V I)=>(t.keep U).keep h);have qj:=t.wd.2;have qk:=t.ht.2;change Hid _ at Q U q z u;clear t r;go_enter func211,ntmps211;go_wp2;change Code.wp _ _ _ _ (w.alloc _);rw[←Q]
 go_loopg [3,4,5] H8 (fun k p v4 v5 wr=>∃j y B b l,j+k=H8∧Hid (y=8*j)∧v4= aB (y:Nat)∧p=aG B (j*W8) b∧dX slR wr V B (j*W8) b l∧Hid (∀i,(h:i<l.length)→l[i].n=64∧Own wr V l[i].A 64 l[i].c (iK W8 W H f i))∧aP V wr)
 case atStart=>exact⟨0,0,none,0,[],aj,ay rfl,rfl,by rw[Nat.zero_mul],by rw[Nat.zero_mul];exact dX.nil _ _,ay (fun i h=>absurd h bK),aU _ _⟩
 case round=>
  obtain⟨j,y,B,b,l,hj,G,rfl,rfl,own,M,Z⟩:=hrel;obtain⟨a0,a1,a2⟩:=HX _ Z;obtain⟨F,Y⟩:=aV own Z;clear own Z
  by_cases ql:j<H8
  ·have g:(y:Int)<(H:Int):=by have:=G.out;have:=u.out;omega
   go_wp2
   go_loopg [3,5] W8 (fun k p v5 wr=>∃i x B b l,i+k=W8∧Hid (x=8*i)∧v5= aB (x:Nat)∧p=aG B (j*W8+i) b∧dX slR wr V B (j*W8+i) b l∧Hid (∀i,(h:i<l.length)→l[i].n=64∧Own wr V l[i].A 64 l[i].c (iK W8 W H f i))∧aP V wr)
   case atStart=>exact⟨0,0,B,b,l,aj,ay rfl,rfl,rfl,F,M,Y⟩
   case round=>
    obtain⟨i,x,B,b,l,o,T,rfl,rfl,own,M,Z⟩:=hrel;clear a0 a1 a2;obtain⟨a0,a1,a2⟩:=HX _ Z;obtain⟨F,Y⟩:=aV own Z
    by_cases E:i<W8
    ·have d:(x:Int)<(W:Int):=by have:=T.out;have:=z.out;omega
     have HG:=ay (Zh (c:=c) x y (by have:=T.out;have:=z.out;omega) (by have:=G.out;have:=u.out;omega) wr (HF _ Z));clear own Z;go_wp2_with fail;refine HG.mono ?_;rintro e s ⟨R,b2,rfl,o2,P⟩;have a:j≤3:=aj
     have qm:j*W8≤3*4:=fC a h4.2.1;have L:=Y.trans (P.mono Y.size);have S:=aJ s (aS #[aG R 64 b2] 34);have K:=L.trans (S.mono L.size);obtain⟨O,qa,D⟩:=dB ((F.keep P).keep S) (bF.new s 34 #[aG R 64 b2]) ((o2.keep S).lower Y.size);have qe:Hid (∀X,(h:X<l.length)→l[X].n=64∧Own (s.alloc (aS #[aG R 64 b2] 34)) V l[X].A 64 l[X].c (iK W8 W H f X)):=ay (fun X h=>⟨(M X h).1,((M X h).2.keep P).keep S⟩);have qf:=ay (show V.heap.size≤(s.alloc (aS #[aG R 64 b2] 34))from K.size);change Hid _ at K;clear o2 P L S;go_wp2_with(at_builtin;refine BA slR (v:=⟨R,64,b2⟩) rfl _ _ rfl rfl O rfl qa (by show(j*W8+i+1)*24≤_;omega) qf aj ?_;intro B3 b3 w3 o3 C J qg)
     have qh:Hid (∀X,(h:X<(l++ [(⟨R,64,b2⟩:Sl)]).length)→(l++ [(⟨R,64,b2⟩:Sl)])[X].n=64∧Own w3 V (l++ [(⟨R,64,b2⟩:Sl)])[X].A 64 (l++ [(⟨R,64,b2⟩:Sl)])[X].c (iK W8 W H f X)):=ay (fun X h=>by
      have hl:=O.len
      by_cases e:X<l.length
      ·simp only[jJ e]
       have m:=qe X e;exact⟨m.1,m.2.dH J (m.2.QA O bn)⟩
      ·have e2:X=l.length:=by simp at h;omega
       subst e2
       have hp:iK W8 W H f l=sW W H f x y:=by
        unfold iK;have e3:(j*W8+i)%W8=i:=by rw[Nat.mul_comm,Nat.mul_add_mod];exact kT E
        have e4:(j*W8+i)/W8=j:=by rw[Nat.mul_comm,Nat.mul_add_div aj,Nat.div_eq_of_lt E];rfl
        rw[hl,e3,e4,T,G]
       simp only[kM (bC _),tX,List.getElem_cons_zero];rw[hp];exact⟨trivial,D.dH J (D.QA O bn)⟩)
     have qi:=ay (K.trans C);change Hid _ at o3;clear C J qg;go_wp2;go_roundg(gk-1)
     case measure=>omega
     case rel=>exact⟨i+1,x+8,B3,b3,_,aj,ay (by have:=T.out;omega),fA,rfl,o3,qh,qi⟩
    ·obtain rfl:i=W8:=aj
     have d:¬(x:Int)<(W:Int):=by have:=T.out;have:=z.out;omega
     clear own Z;go_wp2;go_roundg(H8-j-1)
     case measure=>omega
     case rel=>
      have e:j*i+i=(j+1)*i:=by rw[sO];omega
      refine⟨j+1,y+8,B,b,l,aj,ay (by have:=G.out;omega),fA,by rw[e],by rw[←e];exact F,M,Y⟩
  ·obtain rfl:j=H8:=aj
   have g:¬(y:Int)<(H:Int):=by have:=G.out;have:=u.out;omega
   go_wp2;go_ret;exact⟨B,⟨b,rfl⟩,⟨b,l,F.lower (by have:=q.out;omega),fun i o=>⟨(M i o).1,(M i o).2.lower (by have:=q.out;omega)⟩⟩,U.trans (Y.mono U.size)⟩
theorem ahB(w:aK)(O:Fr w W H N A f):
  Calls prog 150 #[uf W H A N c] w (Val w (eP #[(BP (W/8) (H/8) W H f),iI])):=by
 obtain⟨-,-,⟨Y,hW,p,K⟩,⟨v,hH,qi,J⟩⟩:=FZ O.may;have Z:=aJ w (dA W H A N c);have u:=bF.new w 90 #[W,H,aG A N c];obtain⟨M,T⟩:=kF (w.alloc (dA W H A N c));rw[←T]at Z u;obtain⟨HX,HF,HM,n⟩:=jH (fun R (h:aP M R)=>mD (u.keep h)) (fun R (h:aP M R)=>(O.keep Z).keep h) (FI (c:=c) (O.keep Z)) (fun R (h:aP M R)=>PL (c:=c) hW hH ⟨p,K,J⟩ R ((O.keep Z).keep h));have P:Hid (∀i,Bd 0 255 (iK Y W H f i)):=ay (fun i=>Iw (W:=W) (H:=H) (x:=8*(i%Y)) (y:=8*(i/Y)) O.bd);have e8:W/8=Y:=aj
 have e9:H/8=v:=aj
 rw[e8,e9];unfold BP;have hn:v*Y≤4*4:=fC J K;generalize v*Y=L at*;obtain⟨hu,m,l,g⟩:=jH (fun j=>oI (f:=fun i=>nO (iK Y W H f i)) (a:=0) (b:=30000) (j:=j) fun i _=>BO (P.out i)) (fun i=>BO (P.out i)) (fun j=>show fO (fun i=>nO (iK Y W H f i)) (j+1)=fO (fun i=>nO (iK Y W H f i)) j+nO (iK Y W H f j)from rfl) (fun R (B:dK) (b j:Nat) (h:Ls R B 64 (iK Y W H f j))=>Yg (c:=b) (P.out j) R h);change Hid _ at T Z;clear O u hW hH e8 e9;go_enter func150,ntmps150;obtain⟨t,s,r⟩:=HX _ (aU _ _);go_upto_region 1 with(fail)
 change Code.wp _ _ _ _ (w.alloc _);rw[←T];go_wp2_with fail;refine HM.aQ ?_;rintro w2 U;clear t s r;obtain⟨t,s,r⟩:=HX _ U;change Hid _ at U;go_wp2_with fail;refine(n _ U).mono ?_;rintro e w3 ⟨B,b,rfl,I,G⟩;obtain⟨z,F⟩:=aV I (U.trans (G.mono U.size));clear I G t s r;go_wp2
 go_loopg [4,6,14] L (fun k v4 v6 d wr=>∃j:Nat,j+k=L∧d=j∧v4=(fO (fun i=>nO (iK Y W H f i)) j)∧aP w3 wr)
 case atStart=>exact⟨0,aj,rfl,rfl,aU _ _⟩
 case round=>
  obtain⟨j,hj,rfl,rfl,Q⟩:=hrel;have V:=ay Q;clear Q
  by_cases qa:j<L
  ·have qh:(j:Int)<(L:Int):=aj
   obtain⟨q,o,B2,b2,rfl,k0,E⟩:=(z.keep V).at_ qa;have qe:=ay (g wr B2 b2 j E);have D:=l.out j;have qj:=hu.out j;have qk:=m.out j;have qf:=ay D.symm;generalize fO (fun i=>nO (iK Y W H f i)) j=S at*;clear E D;generalize nO (iK Y W H f j)=X at*;have e1:IntKind.i64.wrap (S+X)=S+X:=iE _ aj;go_wp2_with fail;refine qe.aQ ?_;rintro w4 C;have qg:=ay (V.trans (C.mono V.size));clear C;go_wp2_with fail;go_roundg(gk-1)
   case measure=>omega
   case rel=>exact⟨j+1,aj,fA,by rw[qf],qg⟩
  ·obtain rfl:j=L:=aj
   go_wp2_with fail;go_ret2;exact⟨rfl,Z.trans ((F.trans (V.mono F.size)).mono Z.size)⟩
theorem ahC{q:aO}(w:aK)(o:Fr w W H N A f)(hq:Fr w W H N2 A2 q):
  Calls prog 151 #[uf W H A N c,uf W H A2 N2 c2] w (Val w (eP #[(BQ (W/8) (H/8) W H f q),iI])):=by
 obtain⟨-,-,⟨Z,hW,g,z⟩,⟨H8,hH,qF,u⟩⟩:=FZ o.may;have T:=gU w (dA W H A N c) (dA W H A2 N2 c2);have n:Hid (∀V,Below ((w.alloc (dA W H A N c)).alloc (dA W H A2 N2 c2)) ((w.alloc (dA W H A N c)).alloc (dA W H A2 N2 c2)) V→_):=ay (fun V h=>I8 h);obtain⟨J,P⟩:=kF ((w.alloc (dA W H A N c)).alloc (dA W H A2 N2 c2));rw[←P]at T n;obtain⟨HM,qs,qt,qq⟩:=jH (fun V (h:aP J V)=>FI (c:=c) ((o.keep T).keep h)) (fun V (h:aP J V)=>FI (c:=c2) ((hq.keep T).keep h)) (fun V (h:aP J V)=>PL (c:=c) hW hH ⟨g,z,u⟩ V ((o.keep T).keep h)) (fun V (h:aP J V)=>PL (c:=c2) hW hH ⟨g,z,u⟩ V ((hq.keep T).keep h));have M:Hid (∀i,Bd 0 255 (iK Z W H f i)):=ay (fun i=>Iw (W:=W) (H:=H) (x:=8*(i%Z)) (y:=8*(i/Z)) o.bd);have I:Hid (∀i,Bd 0 255 (iK Z W H q i)):=ay (fun i=>Iw (W:=W) (H:=H) (x:=8*(i%Z)) (y:=8*(i/Z)) hq.bd);have t:∀{l:aO},Bd 0 255 l→Bd (-1048576) 1048576 l:=fun h v hv=>by have:=h v hv;omega
 have e8:W/8=Z:=aj
 have e9:H/8=H8:=aj
 rw[e8,e9];unfold BQ;have hn:H8*Z≤4*4:=fC u z;generalize H8*Z=m at*
 have qa:Hid (∀i,0≤vN 64 (iK Z W H f i) (iK Z W H q i)∧vN 64 (iK Z W H f i) (iK Z W H q i)≤64*255):=ay (fun i=>by
  have h:=oI (f:=yM (iK Z W H f i) (iK Z W H q i)) (a:=0) (b:=255) (j:=64) fun k _=>by
   have h1:=dO (M.out i) aj aj k;have h2:=dO (I.out i) aj aj k;unfold yM;omega
  unfold vN;omega)
 have qe:=ay (fun i=>BO (M.out i))
 have hu:=ay (fun j=>oI (f:=yA Z W H f q) (a:=0) (b:=30000) (j:=j) fun i _=>by
  have h1:=qa.out i;have h2:=qe.out i;unfold yA;omega)
 obtain⟨qu,qv,qw⟩:=dB (fun j=>show fO (yA Z W H f q) (j+1)=fO (yA Z W H f q) j+min (vN 64 (iK Z W H f j) (iK Z W H q j)) (nO (iK Z W H f j))from rfl) (fun V (B:dK) (b j:Nat) (h:Ls V B 64 (iK Z W H f j))=>Yg (c:=b) (M.out j) V h) (fun V (B B2:dK) (b b2 j:Nat) (h:Ls V B 64 (iK Z W H f j)) (h2:Ls V B2 64 (iK Z W H q j))=>Ze (c:=b) (d:=b2) aj (t (M.out j)) (t (I.out j)) V h h2);change Hid _ at P T;clear o hq hW hH e8 e9 t;go_enter func151,ntmps151;obtain⟨⟨F,E,D⟩,C,O,b2⟩:=n _ (aU _ _);go_upto_region 1 with(fail)
 change Code.wp _ _ _ _ ((w.alloc (dA W H A N c)).alloc (dA W H A2 N2 c2));rw[←P];go_wp2_with fail;refine(HM _ (aU _ _)).aQ ?_;rintro w2 R;clear F E D C O b2;obtain⟨⟨F,E,D⟩,C,O,b2⟩:=n _ R;change Hid _ at R;go_wp2_with fail;refine(qs _ R).aQ ?_;rintro w3 qf;have L:=ay (R.trans (qf.mono R.size));clear F E D C O b2 qf;obtain⟨⟨F,E,D⟩,C,O,b2⟩:=n _ L;go_wp2_with fail;refine(qq _ L).mono ?_;rintro e w4 ⟨B,b,rfl,Q,qg⟩;obtain⟨qh,K⟩:=aV Q (L.trans (qg.mono L.size));clear Q qg F E D C O b2;obtain⟨⟨F,E,D⟩,C,O,b2⟩:=n _ K;go_wp2_with fail;refine(qt _ K).mono ?_;rintro e w5 ⟨B',b',rfl,Q,s⟩;obtain⟨qr,qy,qi⟩:=dB Q (qh.out.keep s) (K.trans (s.mono K.size));clear Q s F E D C O b2 qh;go_wp2_with fail
 go_loopg [6,8,9,10,11,41] m (fun k v6 v8 v9 qG qH qz wr=>∃j:Nat,j+k=m∧qz=j∧v6=(fO (yA Z W H f q) j)∧aP w5 wr)
 case atStart=>exact⟨0,aj,rfl,rfl,aU _ _⟩
 case round=>
  obtain⟨j,hj,rfl,rfl,G⟩:=hrel;have U:=ay G;clear G
  by_cases qj:j<m
  ·have qE:(j:Int)<(m:Int):=aj
   obtain⟨q1,o1,B1,O,rfl,k1,r⟩:=(qr.keep U).at_ qj;obtain⟨q2,o2,B2,b2,rfl,k2,qk⟩:=(qy.keep U).at_ qj;obtain⟨qA,qB⟩:=aV (qw wr B1 B2 O b2 j r qk) (fun V (h:aP wr V)=>qv V B1 O j (r.keep h));have ql:=qu.out j;have qI:=hu.out j;have qJ:=qe.out j;have qK:=qa.out j;have qC:=ay ql.symm;generalize fO (yA Z W H f q) j=S at*;clear r qk ql;generalize nO (iK Z W H f j)=X at*;generalize vN 64 (iK Z W H f j) (iK Z W H q j)=Y at*;have e1:IntKind.i64.wrap (S+min Y X)=S+min Y X:=iE _ aj;go_wp2_with fail;refine qA.aQ ?_;rintro w6 qm;have p:=ay qm;clear qm;go_wp2_with fail;refine(qB _ p).aQ ?_;rintro w7 qo;have qD:=ay ((U.trans (p.mono U.size)).trans (qo.mono (dD U.size p.size)));clear qo;go_wp2_with fail;go_roundg(gk-1)
   case measure=>omega
   case rel=>exact⟨j+1,aj,fA,by rw[qC],qD⟩
  ·obtain rfl:j=m:=aj
   go_wp2_with fail;go_ret2;exact⟨rfl,T.trans ((qi.trans (U.mono qi.size)).mono T.size)⟩
def Jw(n:Nat)(p q:aO):Int:=64*FU n p q/n
def BU(cut MJ:Int)(g:List (Nat × Nat))(i:Nat)(n:Int):List (Nat × Nat):=
 if g.length=0 then [(i,1)]
 else if n≤cut∧((g.getD (g.length-1) (0,0)).2:Int)<MJ then g.set (g.length-1) ((g.getD (g.length-1) (0,0)).1,(g.getD (g.length-1) (0,0)).2+1)
 else g++ [(i,1)]
def jB(n:Nat)(l:List aO)(cut MJ:Int):Nat→List (Nat × Nat)
 |0=>[]
 |i+1=>BU cut MJ (jB n l cut MJ i) i (Jw n (l.getD (i-1) []) (l.getD i []))
def vw:Nat→List (Nat × Nat)→Nat→Prop
 |at_,[],n=>at_=n
 |at_,x::r,n=>x.1=at_∧1≤x.2∧vw (at_+x.2) r n
theorem XE{g r:List (Nat × Nat)}{a b:Nat}(h:vw a g b)(h2:vw b r n):vw a (g++r) n:=by
 induction g generalizing a with
 |nil=>obtain rfl:a=b:=h;exact h2
 |cons x g Z=>exact⟨h.1,h.2.1,Z h.2.2⟩
theorem wS{g:List (Nat × Nat)}{a n:Nat}(h:vw a g n):a+g≤n∧∀x∈g,a≤x.1∧1≤x.2∧x.1+x.2≤n:=by
 induction g generalizing a with
 |nil=>obtain rfl:a=n:=h;simp
 |cons x g ih=>
  obtain⟨h1,h2,h3⟩:=h;obtain⟨h4,h5⟩:=ih h3;refine⟨by simp only[xQ];omega,?_⟩;intro y hy;rcases je.1 hy with rfl|hy
  ·omega
  ·grind
theorem Nv:∀(g:List (Nat × Nat)) (a n:Nat),g.length≠0→vw a g n→vw a (g.set (g.length-1) ((g.getD (g.length-1) (0,0)).1,(g.getD (g.length-1) (0,0)).2+1)) (n+1)
 | [],_,_,h,_=>absurd rfl h
 | [x],a,n,_,h=>⟨h.1,by show 1≤x.2+1;omega,by have Z:a+x.2=n:=h.2.2;show a+(x.2+1)=n+1;omega⟩
 |x::y::r,a,n,_,h=>⟨h.1,h.2.1,Nv (y::r) _ _ bK h.2.2⟩
theorem Fj{n:Nat}{l:List aO}{cut MJ:Int}(i:Nat):vw 0 (jB n l cut MJ i) i:=by
 induction i with
 |zero=>rfl
 |succ i ih=>
  have hs:jB n l cut MJ (i+1)=BU cut MJ (jB n l cut MJ i) i (Jw n (l.getD (i-1) []) (l.getD i [])):=rfl;rw[hs];generalize jB n l cut MJ i=g at*;have hnew:vw 0 (g++ [(i,1)]) (i+1):=XE ih ⟨rfl,bC _,rfl⟩;unfold BU;split
  ·grind
  ·split
   ·exact Nv g 0 i ‹_› ih
   ·exact hnew
def uT(g:List (Nat × Nat))(i:Nat):Nat:=((g.take i).map (·.2)).sum
theorem OL{g:List (Nat × Nat)}(h:i<g):uT g (i+1)=uT g i+(g.getD i (0,0)).2:=by
 unfold uT;rw[BH h,gG,vJ,dG,fP h];simp
theorem PO:∀{g:List (Nat × Nat)} {a n:Nat},vw a g n→(∀i,i<g.length→(g.getD i (0,0)).1=a+uT g i∧1≤(g.getD i (0,0)).2∧a+uT g i+(g.getD i (0,0)).2≤n)∧a+uT g g=n
 | [],a,n,h=>⟨fun i hi=>absurd hi bK,by have e:a=n:=h;simpa[uT]using e⟩
 |x::g,a,n,h=>by
  obtain⟨h1,h2,h3⟩:=h;obtain⟨k1,k2⟩:=PO h3;have hle:=(wS h3).1;have e:∀i,uT (x::g) (i+1)=x.2+uT g i:=fun i=>by simp[uT]
  refine⟨fun i hi=>?_,by rw[xQ,e];omega⟩;cases i with
  |zero=>exact⟨by simpa[uT]using h1,h2,by simp[uT];omega⟩
  |succ i=>grind
def BX(g:List (Nat × Nat))(i:Nat):Bool:=g.any fun x=>x.1==i
theorem QB:∀{g:List (Nat × Nat)} {a n:Nat},vw a g n→∀i,i<g.length→∀j,j<(g.getD i (0,0)).2→BX g ((g.getD i (0,0)).1+j)=(j==0)
 | [],_,_,_,i,hi,_,_=>absurd hi bK
 |x::g,a,n,h,i,hi,j,hj=>by
  obtain⟨h1,h2,h3⟩:=h;have hle:=(wS h3).2;cases i with
  |zero=>
   have hn:BX g (x.1+j)=false:=by
    unfold BX;rw[kG];intro y hy;have:=hle y hy;have hj':j<x.2:=hj;simp;omega
   show(x.1==x.1+j||BX g (x.1+j))=_;rw[hn,Bool.or_false];cases j with
   |zero=>simp
   |succ j=>simp
  |succ i=>
   have ih:=QB h3 i (by simpa using hi) j hj;have hx:=hle _ (show g.getD i (0,0)∈g by rw[dG,fP (by simpa using hi)];exact lS _);show(x.1==(g.getD i (0,0)).1+j||BX g ((g.getD i (0,0)).1+j))=_;rw[ih];have:(x.1==(g.getD i (0,0)).1+j)=false:=Ht
   rw[this,Bool.false_or]
def Ho(W H:Nat)(l:List aO)(g:List (Nat × Nat))(i:Nat):Int:=64+(if BX g i then BP (W/8) (H/8) W H (l.getD i [])*2 else BQ (W/8) (H/8) W H (l.getD i []) (l.getD (i-1) []))
def kU(W H:Nat)(l:List aO)(g:List (Nat × Nat)):aO:=jK l.length (Ho W H l g)
theorem ac2{e:TypeId}{U:List cO}(h:w.ownsRow base e size (aG g n cap) n U)(i:Nat)(u:cO):
  (w.setCell ⟨g,i,none⟩ u).ownsRow base e size (aG g n cap) n (U.set i u):=by
 refine⟨by rw[pG];exact h.1,?_⟩;rcases h.2 with⟨W,_⟩|⟨T,X,Y,W,S,V,R,Q,P,O⟩
 ·cases W
 ·obtain⟨rfl,rfl⟩:g=T∧cap=X:=by injection W with Z M N;injection Z with Z;injection Z with Z;exact⟨Z,N⟩
  refine .inr ⟨g,cap,Y.setIfInBounds i u,rfl,S,?_,R,Q,by simpa using P,?_⟩
  ·exact bF.store (t:=e) (cs:=Y) V i u
  ·rw[oh,List.take_set,O]
section
variable{α:Type}{R:tJ α}{w w':aK}{A:dK}{n c base:Nat}{l:List α}
theorem tJ.ahD(R:tJ α){l:List α}{a:α}(hi:i<l)(Y:j<R.k)(h:R.enc a=(R.enc l[i]).set j v):R.flat (l.set i a)=(R.flat l).set (i*R.k+j) v:=by
 induction l generalizing i with
 |nil=>simp at hi
 |cons b l Z=>
  have e:∀b l,R.flat (b::l)=R.enc b++R.flat l:=fun _ _=>rfl
  cases i with
  |zero=>
   rw[List.set_cons_zero,e,e,List.set_append,aF (by rw[R.hk];omega)];rw[show(0*R.k+j)=j by omega,h];rfl
  |succ i=>
   rw[List.set_cons_succ,e,e,Z (by simpa using hi) (by simpa using h),List.set_append,au (by rw[R.hk,sO];omega)]
   congr 2
   rw[R.hk,sO];omega
theorem dX.store{a:α}(h:dX R w base g n c l)(hi:i<l)(Z:j<R.k)(Y:R.enc a=(R.enc l[i]).set j v):dX R (w.setCell ⟨g,i*R.k+j,none⟩ v) base g n c (l.set i a):=
 ⟨by rw[pG];exact h.len,by rw[R.ahD hi Z Y];exact ac2 h.row _ _⟩
theorem dX.form(h:dX R w base A n c l)(S:0<n):∃g,A=some (aH g 0)∧base≤g∧g<w.heap.size∧∀j,w.frozen? (aH g j)=false:=by
 rcases h.row.2 with⟨_,Q⟩|⟨g,U,Y,X,W,Z,P,O,N,M⟩
 ·omega
 ·injection X with V L K
  exact⟨g,V,W,(lN.1 Z).1,fun j=>bF.frozen (t:=R.T) (cs:=Y) Z j⟩
end
def Ib:tJ Int where
 S:=34
 T:=3
 k:=1
 bytes:=8
 z:=aB 0
 enc:=fun x=>[aB x]
 und:=underlying34
 info:=aW
 zs:=rfl
 pos:=bn
 hk:=fun _=>rfl
 one:=fun a u Z=>by simp at Z;subst Z;rfl
def PS:tJ Int where
 S:=24
 T:=5
 k:=1
 bytes:=1
 z:=.int .u8 0
 enc:=fun x=>[.int .u8 x]
 und:=underlying24
 info:=aW
 zs:=rfl
 pos:=bn
 hk:=fun _=>rfl
 one:=fun a u Z=>by simp at Z;subst Z;rfl
theorem flatMap_one{α β:Type}(f:α→β)(l:List α):l.flatMap (fun x=>[f x])=l.map f:=by
 induction l with
 |nil=>rfl
 |cons a l Z=>simp[Z]
theorem QC(l:aO):Ib.flat l=l.map (Value.int .i64):=flatMap_one _ l
theorem QD(l:aO):PS.flat l=l.map (Value.int .u8):=flatMap_one _ l
section
variable{w:aK}{A:dK}{n c base:Nat}{l:aO}
theorem Own.e(h:Own w base A n c l):dX Ib w base A n c l:=⟨h.len,by rw[QC];exact h.row⟩
theorem dX.own(h:dX Ib w base A n c l):Own w base A n c l:=⟨h.len,by have:=h.row;rw[QC]at this;exact this⟩
theorem OwnB.e(h:OwnB w base A n c l):dX PS w base A n c l:=⟨h.len,by rw[QD];exact h.row⟩
theorem dX.ownB(h:dX PS w base A n c l):OwnB w base A n c l:=⟨h.len,by have:=h.row;rw[QD]at this;exact this⟩
theorem Lb.e(h:Lb w A n l):Qo PS w A n l:=⟨h.len,by have Z:=h.rd;have Y:=h.len;subst Y;rw[QD];exact Z⟩
end
structure Ut(w:World)(lo hi:Nat)(A:Option Addr)(W H N:Nat)(l:List (List Int)):Prop where
 at_:∃b o,(0<l.length→A=some (aH b o)∧lo≤b∧b<hi)∧∀i,i<l.length→∃B c,aN w b (o+i*3) (aB W)∧aN w b (o+i*3+1) (aB H)∧aN w b (o+i*3+2) (aG B N c)∧Fr w W H N B (l.getD i [])∧∀p,B=some p→lo≤p.block∧p.block<hi
section
variable{w w':aK}{lo hi:Nat}{A:dK}{W H N:Nat}{l:List aO}
theorem Ut.dH{S:Nat→Prop}(h:Ut w lo hi A W H N l)(Z:bQ S w w')(X:∀i,S i→i<lo∨hi≤i):Ut w' lo hi A W H N l:=by
 obtain⟨b,o,V,T⟩:=h.at_;refine⟨b,o,V,fun i hi=>?_⟩;obtain⟨B,c,R,Q,P,O,U⟩:=T i hi;obtain⟨-,L,K⟩:=V aj;have Y:¬S b:=fun e=>by have:=X b e;omega
 exact⟨B,c,bG R Z Y,bG Q Z Y,bG P Z Y,O.dH Z (fun q M e=>by have:=X _ e;have:=U q M;omega),U⟩
theorem Ut.keep(h:Ut w lo hi A W H N l)(Z:aP w w'):Ut w' lo hi A W H N l:=h.dH (bQ.of_below (S:=fun _=>False) Z) (fun _ h=>h.elim)
theorem Ut.get(h:Ut w lo hi A W H N l)(hi:i<l):∃b o B c,A=some (aH b o)∧aN w b (o+i*3) (aB W)∧aN w b (o+i*3+1) (aB H)∧aN w b (o+i*3+2) (aG B N c)∧Fr w W H N B (l.getD i []):=by
 obtain⟨b,o,Z,Y⟩:=h.at_;obtain⟨B,c,X,V,U,T,-⟩:=Y i hi;exact⟨b,o,B,c,(Z aj).1,X,V,U,T⟩
theorem Ut.amN(h:Ut w lo hi A W H N l)(hi:i<l)(V:j<l):∃b o B c Z Y,A=some (aH b o)∧
  (aN w b (o+i*3) (aB W)∧aN w b (o+i*3+1) (aB H)∧aN w b (o+i*3+2) (aG B N c)∧Fr w W H N B (l.getD i []))∧
  (aN w b (o+j*3) (aB W)∧aN w b (o+j*3+1) (aB H)∧aN w b (o+j*3+2) (aG Z N Y)∧Fr w W H N Z (l.getD j [])):=by
 obtain⟨b,o,U,X⟩:=h.at_;obtain⟨B,c,T,S,R,Q,-⟩:=X i hi;obtain⟨Z,Y,P,O,M,L,-⟩:=X j V;exact⟨b,o,B,c,Z,Y,(U aj).1,⟨T,S,R,Q⟩,P,O,M,L⟩
theorem Ut.sub{b o:Nat}(h:Ut w lo hi (some (aH b o)) W H N l)(f n:Nat)(K:f+n≤l):Ut w lo hi (some (aH b (o+f*3))) W H N ((l.drop f).take n):=by
 obtain⟨J,I,X,T⟩:=h.at_;have V:((l.drop f).take n)=n:=by rw[xO,Hw];omega
 refine⟨b,o+f*3,fun S=>?_,fun i hi=>?_⟩
 ·rw[V]at S
  obtain⟨e,k⟩:=X aj;injection e with e
  injection e with Z U
  subst Z;exact⟨rfl,k⟩
 rw[V]at hi;obtain⟨e,-⟩:=X aj;injection e with e
 injection e with Z U
 subst Z;subst U;obtain⟨B,c,R,Q,P,O,M⟩:=T (f+i) aj;have Y:o+f*3+i*3=o+(f+i)*3:=aj
 refine⟨B,c,by rw[Y];exact R,by rw[Y];exact Q,by rw[Y];exact P,?_,M⟩
 have L:((l.drop f).take n).getD i []=l.getD (f+i) []:=by
  rw[dG,dG,kW hi,Rx]
 rw[L];exact O
end
theorem ac3{l:List (Nat × Nat)}(h:Qo Py w A n l)(hi:i<n):∃b o,A=some (aH b o)∧aN w b (o+i*2) (aB ((l.getD i (0,0)).1:Nat))∧aN w b (o+i*2+1) (aB ((l.getD i (0,0)).2:Nat)):=by
 obtain⟨b,o,Y,Z⟩:=h.at_ hi;have X:=h.len;have e:l.getD i (0,0)=l[i]' aj:=by rw[dG,fP aj];rfl
 rw[e];exact⟨b,o,Y,Z 0 _ rfl,Z 1 _ rfl⟩
theorem afx{l:List aO}{cut MJ:Int}(hl:l=n)(hn:1≤n∧n≤16)(hc:0≤cut∧cut≤16320)(hg:1≤MJ∧MJ≤16)(w:aK)(hA:Ut w lo hi A W H N l):
  Calls prog 100 #[aG A n c,cut,MJ] w
   fun e w'=>∃B b,e=bM (eP #[aG B (jB N l cut MJ n) b,iI])∧dX Py w' w B (jB N l cut MJ n) b (jB N l cut MJ n)∧aP w w':=by
 have q1:decide (cut<0)=false:=jy
 have q2:decide (16320<cut)=false:=jy
 have q3:decide (MJ<1)=false:=jy
 have q4:decide (16<MJ)=false:=jy
 have q5:((n:Int)==0)=false:=jy
 have q6:decide (16<(n:Int))=false:=jy
 obtain⟨qr,qg,qs,qt⟩:=jH (fun i=>show jB N l cut MJ (i+1)=BU cut MJ (jB N l cut MJ i) i (Jw N (l.getD (i-1) []) (l.getD i []))from rfl) (show jB N l cut MJ 0=[]from rfl) (fun i (hi:i≤n)=>show(jB N l cut MJ i).length≤16 by have:=(wS (Fj (n:=N) (l:=l) (cut:=cut) (MJ:=MJ) i)).1;omega) (fun i=>(wS (Fj (n:=N) (l:=l) (cut:=cut) (MJ:=MJ) i)).2);generalize hG:jB N l cut MJ=G at*;change Hid _ at hA hl hn;clear hc hg;go_enter func100,ntmps100;go_wp2;clear q1 q2 q3 q4 q5 q6
 go_loopg [8,9,10,11,12,13,42] n (fun k v8 v9 qG qH qI qJ qu wr=>∃i B b,i+k=n∧qu=i∧v8=aG B (G i) b∧dX Py wr w B (G i) b (G i)∧aP w wr)
 case atStart=>exact⟨0,none,0,aj,rfl,by rw[qg];rfl,by rw[qg];exact dX.nil _ _,aU _ _⟩
 case round=>
  obtain⟨i,B,b,hi,rfl,rfl,own,M⟩:=hrel;change Hid _ at own M
  by_cases qK:i<n
  ·have qC:(i:Int)<(n:Int):=aj
   have qD:(i:Int)≤16:=by have:=hn.out;omega
   obtain⟨D,qv,t⟩:∃D:Nat,max ((i:Int)-1) 0=(D:Int)∧D=i-1:=⟨i-1,aj,rfl⟩;have qw:(D:Int)<(n:Int):=aj
   have e0:IntKind.i64.wrap ((i:Int)-1)=(i:Int)-1:=iE _ aj;obtain⟨q,o,B1,b1,B2,b2,rfl,⟨k0,k1,k2,qh⟩,⟨m0,m1,m2,qi⟩⟩:=(hA.keep M).amN (i:=i) (j:=D) (by have:=hl.out;omega) (by have:=hl.out;omega);have S:=aJ wr (dA W H B1 N b1);have qj:=mD (bF.new wr 90 #[W,H,aG B1 N b1]);have p0:=aC m0 S;have p1:=aC m1 S;have p2:=aC m2 S;have f:=qi.keep S.drew;have d:=qh.keep S.drew;obtain⟨W9,qa⟩:∃W9:aK,W9=wr.alloc (dA W H B1 N b1):=⟨_,rfl⟩;rw[←qa]at S qj p0 p1 p2 f d;obtain⟨x0,x1,L⟩:=qj;have HU:=ay (afc (c:=b2) (c2:=b1) _ f d);have qe:=qr i;have qL:=qs i aj;obtain⟨qk,qy⟩:=aV (M.trans (S.mono M.size)) (own.keep S);rw[←t]at qe;change Hid _ at qa t qe;clear qh qi f d S m0 m1 m2;generalize ql:64*FU N (l.getD D []) (l.getD i [])/(N:Int)=U at HU;have s:Hid (G (i+1)=BU cut MJ (G i) i U):=ay (by rw[qe];unfold Jw;rw[ql]);clear ql;go_upto_region 9 with(fail)
   rw[←qa]
   go_region_held3(fun X=>aN X q (o+D*3) (aB W)∧aN X q (o+D*3+1) (aB H)∧aN X q (o+D*3+2) (aG B2 N b2)∧aN X wr 0 (aB W)∧aN X wr 1 (aB H)∧aN X wr 2 (aG B1 N b1))
    (first|exact⟨p0,p1,p2,x0,x1,L⟩|exact⟨aC p0 C,aC p1 C,aC p2 C,aC x0 C,aC x1 C,aC L C⟩|fail)
    (first|(go_at_call 148;refine HU.aQ ?_;rintro y qz;have C:aP W9 y:=((aU _ W9).drew).trans qz)|fail)
   obtain⟨Q,T⟩:=aV (qy.keep C) (qk.trans (C.mono qk.size));clear p0 p1 p2 x0 x1 L C qv qw e0 k0 k1 k2;rcases hm:(G i).length with _|m
   ·have V:Hid (G (i+1)=G i++ [(i,1)]):=ay (by rw[s];unfold BU;rw[aF hm,rZ.1 hm];rfl)
    rw[hm]at Q;go_upto_region 15 with(fail)
    have P:=bF.new y 189 #[i,aB 1];have Z:=aJ y (aS #[i,aB 1] 189);have K:=ay (Q.keep Z);have Y:=dD T.size Z.size;change Hid _ at P Y;have J:=ay (T.trans (Z.mono T.size));clear Z;go_wp2_with(at_builtin;refine BA Py (v:=(i,1)) rfl _ _ rfl rfl K rfl P (by show(_+1)*16≤_;omega) Y aj ?_;intro B7 b7 w7 u O I F);have E:=ay (J.trans O);change Hid _ at u;clear O I F;go_wp2;go_roundg(gk-1)
    case measure=>omega
    case rel=>exact⟨i+1,B7,b7,aj,fA,by rw[V];simp[hm],by rw[V];simpa[hm]using u.out,E⟩
   ·obtain⟨g,rfl,qA,qE,qm⟩:=Q.form aj
    obtain⟨b9,o9,qf,c0,c1⟩:=ac3 Q.ls (i:=m) aj;injection qf with qf
    injection qf with e1 e2
    subst e1;subst e2;rw[dI]at c0 c1;have qF:=(qt i _ (show(G i).getD m (0,0)∈G i by rw[dG,fP aj];exact lS _)).2
    have z:G (i+1)=if U≤cut∧(((G i).getD m (0,0)).2:Int)<MJ then(G i).set m (((G i).getD m (0,0)).1,((G i).getD m (0,0)).2+1)else G i++ [(i,1)]:=by
     rw[s];unfold BU;rw[au aj,hm];rfl
    have qo:(G i).getD m (0,0)=(G i)[m]' aj:=by rw[dG,fP aj];rfl
    have r:=Q.store (R:=Py) (i:=m) (j:=1) (a:=(((G i).getD m (0,0)).1,((G i).getD m (0,0)).2+1)) (v:=aB (((G i).getD m (0,0)).2+1:Nat)) aj bn (by rw[qo];rfl);have f1:=qm (m*2+1);generalize(G i).getD m (0,0)=x at*;obtain⟨x1,L⟩:=x;dsimp only at*;have em:((m+1:Nat):Int)-1=(m:Int):=aj
    rw[hm]at Q;change Hid _ at r z;clear qo qm
    by_cases hU:U≤cut
    ·by_cases hC:(L:Int)<MJ
     ·have V:Hid (G (i+1)=(G i).set m (x1,L+1)):=ay (by rw[z,aF ⟨hU,hC⟩])
      have e5:IntKind.i64.wrap ((L:Int)+1)=((L+1:Nat):Int):=by rw[iE _ aj];omega
      go_wp2;go_roundg(gk-1)
      case measure=>omega
      case rel=>
       obtain⟨qq,qB⟩:=aV (show dX Py (y.setCell ⟨g,m*2+1,none⟩ (aB ((L:Int)+1))) w g (m+1) b ((G i).set m (x1,L+1)) by have h:=r.out;rw[hm]at h;exact h) (T.setCell (p:=(aH g (m*2+1))) qA (aB ((L:Int)+1)));refine⟨i+1,some (aH g 0),b,aj,fA,by rw[V,pG,hm],by rw[V,pG,hm];exact qq.out,qB.out⟩
     ·have V:Hid (G (i+1)=G i++ [(i,1)]):=ay (by rw[z,au (fun h=>hC h.2)])
      go_upto_region 15 with(fail)
      have P:=bF.new y 189 #[i,aB 1];have Z:=aJ y (aS #[i,aB 1] 189);have K:=ay (Q.keep Z);have Y:=dD T.size Z.size;change Hid _ at P Y;have J:=ay (T.trans (Z.mono T.size));clear Z;go_wp2_with(at_builtin;refine BA Py (v:=(i,1)) rfl _ _ rfl rfl K rfl P (by show(_+1)*16≤_;omega) Y aj ?_;intro B7 b7 w7 u O I F);have E:=ay (J.trans O);change Hid _ at u;clear O I F;go_wp2;go_roundg(gk-1)
      case measure=>omega
      case rel=>exact⟨i+1,B7,b7,aj,fA,by rw[V];simp[hm],by rw[V];simpa[hm]using u.out,E⟩
    ·have V:Hid (G (i+1)=G i++ [(i,1)]):=ay (by rw[z,au (fun h=>hU h.1)])
     go_upto_region 15 with(fail)
     have P:=bF.new y 189 #[i,aB 1];have Z:=aJ y (aS #[i,aB 1] 189);have K:=ay (Q.keep Z);have Y:=dD T.size Z.size;change Hid _ at P Y;have J:=ay (T.trans (Z.mono T.size));clear Z;go_wp2_with(at_builtin;refine BA Py (v:=(i,1)) rfl _ _ rfl rfl K rfl P (by show(_+1)*16≤_;omega) Y aj ?_;intro B7 b7 w7 u O I F);have E:=ay (J.trans O);change Hid _ at u;clear O I F;go_wp2;go_roundg(gk-1)
     case measure=>omega
     case rel=>exact⟨i+1,B7,b7,aj,fA,by rw[V];simp[hm],by rw[V];simpa[hm]using u.out,E⟩
  ·obtain rfl:i=n:=aj
   go_wp2;go_ret2;exact⟨B,b,rfl,own,M⟩
theorem alJ{g:List (Nat × Nat)}(Y:1≤n∧n≤16)(V:vw 0 g n)(w:aK)(U:Qo Py w A m g):
  Calls prog 149 #[aG A m c,n] w (Val w (.bool true)):=by
 obtain⟨X,T⟩:=PO V;have W:=U.len;have J:m≤16:=by have:=(wS V).1;omega
 obtain⟨G,F,E⟩:=dB X T (fun i (N:i<g.length)=>OL N);have D:Hid (uT g 0=0):=ay (by simp[uT]);change Hid _ at U Y W;clear X T V;go_enter func149,ntmps149;go_wp2
 go_loopg [5,7,10] m (fun k C y R wr=>∃i o:Nat,i+k=m∧R=i∧C=o∧Hid (uT g i=o)∧aP w wr)
 case atStart=>exact⟨0,0,aj,rfl,rfl,D,aU _ _⟩
 case round=>
  obtain⟨i,o,N,rfl,rfl,M,Z⟩:=hrel;change Hid _ at Z
  by_cases Q:i<m
  ·have I:(i:Int)<(m:Int):=aj
   obtain⟨b,q,rfl,v,u⟩:=ac3 (U.keep Z) Q;have L:=G i (by have:=W.out;omega);have S:=E i (by have:=W.out;omega);rw[M]at L S;generalize g.getD i (0,0)=x at*;obtain⟨t,K⟩:=x;obtain⟨rfl,s,r⟩:=L;rw[dI]at*;have H:(n:Int)≤16:=by have:=Y.out;omega
   have P:=ay (Z.trans ((aJ wr (aS #[o,K] 189)).mono Z.size));change Hid _ at S;go_wp2;go_roundg(gk-1)
   case measure=>omega
   case rel=>exact⟨i+1,o+K,aj,fA,fA,S,P⟩
  ·obtain rfl:i=m:=aj
   have O:o=n:=by have X:=M.out;have T:=F.out;rw[←W]at X;omega
   subst O;have B:decide ((1:Int)≤(o:Int))=true:=by have:=Y.out;simp;omega
   have z:decide ((o:Int)≤16)=true:=by have:=Y.out;simp;omega
   go_wp2;go_ret;exact⟨rfl,Z⟩
theorem Md{f:Nat→Int}(h:∀i,0≤f i):∀j,0≤fO f j
 |0=>Int.le_refl 0
 |j+1=>by have Z:=Md h j;have Y:=h j;show 0≤fO f j+f j;omega
theorem OM{W8 H8:Nat}(h:Bd 0 255 f)(Z:H8*W8≤16):0≤BP W8 H8 W H f∧BP W8 H8 W H f≤480000:=by
 have:=oI (f:=fun i=>nO (iK W8 W H f i)) (a:=0) (b:=30000) (j:=H8*W8) fun i _=>BO (Iw h)
 unfold BP;omega
theorem OO{W8 H8:Nat}{q:aO}(h:Bd 0 255 f)(Z:H8*W8≤16):0≤BQ W8 H8 W H f q∧BQ W8 H8 W H f q≤480000:=by
 have:=oI (f:=yA W8 W H f q) (a:=0) (b:=30000) (j:=H8*W8) fun i _=>by
  have Y:=BO (b:=iK W8 W H f i) (Iw h)
  have X:0≤vN 64 (iK W8 W H f i) (iK W8 W H q i):=by
   have:=Md (f:=yM (iK W8 W H f i) (iK W8 W H q i)) (fun k=>by unfold yM;omega) 64;exact this
  unfold yA;omega
 unfold BQ;omega
theorem ac4{G:dK}{l:List aO}{g:List (Nat × Nat)}(hl:l=n)(hn:1≤n∧n≤16)(hr:vw 0 g n)(w:aK)(hA:Ut w lo hi A W H N l)(hG:Qo Py w G m g):
  Calls prog 101 #[aG A n c,aG G m d] w (aaK w n (kU W H l g)):=by
 have qu:=ay (alJ (c:=d) hn hr w hG);obtain⟨h1,h2⟩:=PO hr;have qM:m≤16:=by have:=(wS hr).1;have:=hG.len;omega
 obtain⟨HM,H1,H2,H3,H4⟩:=rG hG.len h1 h2 (fun i (hi:i<g.length)=>OL hi) (fun i (hi:i<g.length)=>QB hr i hi);have H0:Hid (uT g 0=0):=ay (by simp[uT]);obtain⟨qw,qy,qz⟩:=dB (fun i (hi:i<n)=>show(kU W H l g).take (i+1)=(kU W H l g).take i++ [Ho W H l g i]from y7 _ aj) (show(kU W H l g)=n by unfold kU;rw[fB];exact hl) (fun i=>show Ho W H l g i=64+(if BX g i then BP (W/8) (H/8) W H (l.getD i [])*2 else BQ (W/8) (H/8) W H (l.getD i []) (l.getD (i-1) []))from rfl);generalize kU W H l g=ws at*;generalize Ho W H l g=wt at*;change Hid _ at hA hG hl hn;clear h1 h2 hr;go_enter func101,ntmps101;go_wp2_with fail;refine qu.aQ ?_;rintro w1 qq;change Hid _ at qq;go_wp2
 go_loopg [6,8,9,10,11,20] m (fun k v6 v8 v9 qA qB qC wr=>∃i o B b,i+k=m∧qC=i∧v6=aG B o b∧Hid (uT g i=o)∧Own wr w B o b (ws.take o)∧aP w wr)
 case atStart=>exact⟨0,0,none,0,aj,rfl,rfl,H0,Own.nil _ _ _,qq⟩
 case round=>
  obtain⟨i,o,B,b,hi,rfl,rfl,HO,own,Z⟩:=hrel;obtain⟨P,qr⟩:=aV Z own;clear Z own
  by_cases qD:i<m
  ·have qN:(i:Int)<(m:Int):=aj
   obtain⟨gb,go,rfl,c0,c1⟩:=ac3 (hG.keep P) qD;have k1:=H1 i (by have:=HM.vI;omega);have k2:=H3 i (by have:=HM.vI;omega);have k3:=H4 i (by have:=HM.vI;omega);rw[HO]at k1 k2;generalize g.getD i (0,0)=x at*;obtain⟨S,O⟩:=x;dsimp only at*;have k4:S=o:=aj
   subst k4;have qP:S+O≤n:=aj
   have qQ:1≤O:=k1.2.1;have qE:=ay k2;have qO:(n:Int)≤16:=by have:=hn.out;omega
   change Hid _ at k3;clear k1 k2;obtain⟨W2,s,r,f⟩:=ES wr 189 #[S,O];obtain⟨qF,qG,qH⟩:=dB (fun w' (h:aP W2 w')=>r.keep h) (P.trans (f.mono P.size)) (qr.keep f);have y0:=r.c0;change Hid _ at s;clear f r;go_upto_region 7 with(fail)
   rw[←s];go_wp2;clear y0 c0 c1 s;generalize wr=gx at*
   go_loopg [6,9,10,11] O (fun k v6 v9 qA qB wr=>∃Y B b,Y+k=S+O∧S≤Y∧v9=Y∧v6=aG B Y b∧Own wr w B Y b (ws.take Y)∧aP w wr∧Hid (bF wr gx 189 #[S,O]))
   case atStart=>exact⟨S,B,b,aj,bC _,rfl,rfl,qH,qG,ay (qF _ (aU _ _))⟩
   case round=>
    obtain⟨Y,B,b,hj,qR,rfl,rfl,own,Z,z⟩:=hrel;have y0:=z.c0;have y1:=z.c1;have a:=ay own;change Hid _ at Z;clear own;have e1:IntKind.i64.wrap ((S:Int)+O)=(S:Int)+O:=iE _ aj
    by_cases qS:Y<S+O
    ·have qv:(Y:Int)<(S:Int)+O:=aj
     have qT:(Y:Int)<(n:Int):=aj
     have y:=qw Y aj;have R:=qz Y;have u:=k3 (Y-S) aj;rw[(aj:S+(Y-S)=Y)]at u;rw[u]at R
     by_cases hz:Y=S
     ·obtain⟨q,o,B1,b1,rfl,k0,k1,k2,U⟩:=(hA.keep Z).get (i:=Y) (by have:=hl.out;omega)
      have qI:=OM (W8:=W/8) (H8:=H/8) (W:=W) (H:=H) U.bd (dD (fC (by have:=U.ht.2;omega:H/8≤4) (by have:=U.wd.2;omega:W/8≤4)) aj);have qa:=ay (ahB (c:=b1) wr U);rw[(aj:Y-S=0)]at R;simp only[beq_self_eq_true,tN]at R;generalize BP (W/8) (H/8) W H (l.getD Y [])=V at*;change Hid _ at R y;clear U u;subst hz;go_wp2_with fail;refine qa.aQ ?_;rintro w4 M;obtain⟨qe,Q,qf⟩:=dB (a.keep M) (Z.trans (M.mono Z.size)) (z.keep M);clear M k0 k1 k2 y0 y1;go_upto_region 17 with(fail)
      have K:=bF.new w4 3 #[aB (64+V*2)];have T:=aJ w4 (aS #[aB (64+V*2)] 3);obtain⟨J,D,I,qg⟩:=jH ((qe.keep T).e) (dD Q.size T.size) (qf.keep T) (Q.trans (T.mono Q.size));change Hid _ at K;clear T;go_wp2_with(at_builtin;refine BA Ib (v:=64+V*2) rfl _ _ rfl rfl J rfl K (by show(_+1)*8≤_;omega) D aj ?_;intro B7 b7 w7 o7 F E qh);obtain⟨qi,qj⟩:=aV o7.own (qg.trans F)
      have qk:=ay (I.dH E (fun ql=>by
       obtain⟨p,rfl,e⟩:=ql;exact dP J.row I bn (by simp[Value.ownBlock,e])))
      clear o7 F E qh;go_wp2;go_roundg(gk-1)
      case measure=>omega
      case rel=>exact⟨Y+1,B7,b7,aj,aj,fA,rfl,by rw[y,R];exact qi,qj,qk⟩
     ·have qJ:((Y:Int)==(S:Int))=false:=by rw[oO];omega
      obtain⟨L,qs,t⟩:∃L:Nat,(Y:Int)-1=(L:Int)∧L=Y-1:=⟨Y-1,aj,rfl⟩;have qK:(L:Int)<(n:Int):=aj
      have e0:IntKind.i64.wrap ((Y:Int)-1)=(L:Int):=by rw[iE _ aj];exact qs
      change Hid _ at qs;obtain⟨q,o,B1,b1,B2,b2,rfl,⟨p0,p1,p2,U⟩,⟨x0,qm,qo,qt⟩⟩:=(hA.keep Z).amN (i:=Y) (j:=L) (by have:=hl.out;omega) (by have:=hl.out;omega);have qI:=OO (W8:=W/8) (H8:=H/8) (W:=W) (H:=H) (q:=l.getD L []) U.bd (dD (fC (by have:=U.ht.2;omega:H/8≤4) (by have:=U.wd.2;omega:W/8≤4)) aj);have qa:=ay (ahC (c:=b1) (c2:=b2) wr.drew (U.keep (aU _ _).drew) (qt.keep (aU _ _).drew));rw[show(Y-S==0)=false by rw[oO];omega,←t]at R;simp only[Bool.false_eq_true,rJ]at R;generalize BQ (W/8) (H/8) W H (l.getD Y []) (l.getD L [])=V at*;change Hid _ at R y t;clear U qt u hz;go_upto_region 14 with(fail)
      go_region_held3(fun X=>aN X q (o+Y*3) (aB W)∧aN X q (o+Y*3+1) (aB H)∧aN X q (o+Y*3+2) (aG B1 N b1)∧aN X q (o+L*3) (aB W)∧aN X q (o+L*3+1) (aB H)∧aN X q (o+L*3+2) (aG B2 N b2))
       (first|exact⟨p0,p1,p2,x0,qm,qo⟩|exact⟨aC p0 C,aC p1 C,aC p2 C,aC x0 C,aC qm C,aC qo C⟩|fail)
       (first|(go_at_call 151;refine qa.aQ ?_;rintro w4 M;have C:aP wr w4:=((aU _ wr).drew).trans M)|fail)
      obtain⟨qe,Q,qf⟩:=dB (a.keep C) (Z.trans (C.mono Z.size)) (z.keep C);clear C p0 p1 p2 x0 qm qo y0 y1 qJ qK e0;go_upto_region 17 with(fail)
      have K:=bF.new w4 3 #[aB (64+V)];have T:=aJ w4 (aS #[aB (64+V)] 3);obtain⟨J,D,I,qg⟩:=jH ((qe.keep T).e) (dD Q.size T.size) (qf.keep T) (Q.trans (T.mono Q.size));change Hid _ at K;clear T;go_wp2_with(at_builtin;refine BA Ib (v:=64+V) rfl _ _ rfl rfl J rfl K (by show(_+1)*8≤_;omega) D aj ?_;intro B7 b7 w7 o7 F E qh);obtain⟨qi,qj⟩:=aV o7.own (qg.trans F)
      have qk:=ay (I.dH E (fun ql=>by
       obtain⟨p,rfl,e⟩:=ql;exact dP J.row I bn (by simp[Value.ownBlock,e])))
      clear o7 F E qh;go_wp2;go_roundg(gk-1)
      case measure=>omega
      case rel=>exact⟨Y+1,B7,b7,aj,aj,fA,rfl,by rw[y,R];exact qi,qj,qk⟩
    ·have qv:¬(Y:Int)<(S:Int)+O:=aj
     obtain rfl:Y=S+O:=aj
     go_wp2;go_roundg(m-i-1)
     case measure=>omega
     case rel=>exact⟨i+1,S+O,B,b,aj,fA,rfl,qE,a,Z⟩
  ·obtain rfl:i=m:=aj
   have qL:o=n:=by have h1:=HO.vI;have h2:=H2.vI;rw[←HM]at h1;omega
   subst qL;go_wp2;go_ret2;exact⟨B,b,rfl,qr.full qy,P⟩
theorem abe{k:Int}(V:n≤1000000)(w:aK):Calls prog 221 #[.agg #[k,aG A n c]] w (Val w (aB ((n:Int)+8))):=by
 have X:=ay (aJ w (aS #[k,aG A n c] 257))
 have W:Hid (∀Z:aK,Calls prog 260 #[n] Z fun e Y=>e=bM (aB ((n:Int)+8))∧Z=Y):=ay (fun Z=>by
  go_enter func260,ntmps260;go_wp2;go_ret;exact⟨fA,rfl⟩)
 go_enter func221,ntmps221;go_wp2_with fail;refine(W _).aQ ?_;rintro U rfl;go_wp2;go_ret;exact⟨rfl,X⟩
theorem ac6(w:aK)(a b c d e:Obj):aP w (((((w.alloc a).alloc b).alloc c).alloc d).alloc e):=(La w a b c d).trans ((aJ ((((w.alloc a).alloc b).alloc c).alloc d) e).mono jy)
theorem RN{c6:Nat}{B6:dK}{K:Int}{U T:Array cO}(S:U.size=2)(V:T.size=3)
  (M:bF u k 257 U) (L:bF u j 90 T) (J:aP w u) (h2:w≤k) (C:w≤j) (E:k<base) (D:j<base)
  (o:OwnB u base B6 n c6 l) (f:Jr u base W H N m g p) (I:w≤base):
  ∃Z,Z=((((u.setCell ⟨k,0,none⟩ K).setCell ⟨k,1,none⟩ (aG B6 n c6)).setCell ⟨j,0,none⟩ W).setCell ⟨j,1,none⟩ H).setCell ⟨j,2,none⟩ (aG m N g)∧
   (Z.cell? (aH k 0)=some (aB K)∧Z.cell? (aH k 1)=some (aG B6 n c6))∧
   (Z.cell? (aH j 0)=some (aB W)∧Z.cell? (aH j 1)=some (aB H)∧Z.cell? (aH j 2)=some (aG m N g))∧
   OwnB Z w B6 n c6 l∧Jr Z w W H N m g p∧aP w Z:=by
 have Y:=M.apart L bn;refine⟨_,rfl,?_⟩
 have X:bQ (fun i=>i=k∨i=j) u (((((u.setCell ⟨k,0,none⟩ K).setCell ⟨k,1,none⟩ (aG B6 n c6)).setCell ⟨j,0,none⟩ W).setCell ⟨j,1,none⟩ H).setCell ⟨j,2,none⟩ (aG m N g)):=
  (((((bQ.refl _ u).setCell (p:=(aH k 0)) (fun _=>.inl rfl) _).setCell (p:=(aH k 1)) (fun _=>.inl rfl) _).setCell (p:=(aH j 0)) (fun _=>.inr rfl) _).setCell (p:=(aH j 1)) (fun _=>.inr rfl) _).setCell (p:=(aH j 2)) (fun _=>.inr rfl) _
 have Q:=((((M.store 0 K).store 1 (aG B6 n c6)).far (p:=(aH j 0)) Y W).far (p:=(aH j 1)) Y H).far (p:=(aH j 2)) Y (aG m N g);have R:=((((L.far (p:=(aH k 0)) Y.symm K).far (p:=(aH k 1)) Y.symm (aG B6 n c6)).store 0 W).store 1 H).store 2 (aG m N g);obtain⟨Z,P⟩:∃Z:aK,Z=((((u.setCell ⟨k,0,none⟩ K).setCell ⟨k,1,none⟩ (aG B6 n c6)).setCell ⟨j,0,none⟩ W).setCell ⟨j,1,none⟩ H).setCell ⟨j,2,none⟩ (aG m N g):=⟨_,rfl⟩;rw[←P]at X Q R ⊢;refine⟨⟨?_,?_⟩,⟨?_,?_,?_⟩,?_,?_,?_⟩
 ·rw[Q.cell];simp[S]
 ·rw[Q.cell];simp[S]
 ·rw[R.cell];simp[V]
 ·rw[R.cell];simp[V]
 ·rw[R.cell];simp[V]
 ·refine OwnB.lower ⟨o.len,mO o.row X fun i G=>?_⟩ I
  have O:=(o.row.lt i G).1;omega
 ·refine⟨f.wd,f.ht,f.size,f.may,(f.own.dH X fun q F=>?_).lower I⟩
  have O:=(f.own.row.lt q.block (by rw[F];rfl)).1;omega
 ·exact eH J X J.size (fun i G=>aj)
theorem EG{k:Int}(h:bF w g 257 #[k,aG A n c]):aN w g 0 (aB k)∧aN w g 1 (aG A n c):=
 ⟨h.at rfl,h.at rfl⟩
abbrev jC(qn qx r cu go ra ro fi:Int):Array cO:=#[aB qn,aB qx,aB r,aB cu,aB go,aB ra,aB ro,aB fi]
theorem alL{q:aO}(d:jo qn qx r cu go ra ro fi=true)(hm:8≤most)(w:aK)(hs:Fr w W H j A1 f)(hp:key=false→W2=W∧H2=H∧Fr w W H N2 A2 q):
  Calls prog 215 #[uf W H A1 j c1,uf W2 H2 A2 N2 c2,.bool key,.agg (jC qn qx r cu go ra ro fi),aB most] w
   fun e S=>∃B n b g c,e=bM (eP #[.agg #[aB (uS W H r key f q most qn qx).1.k,aG B n b],uf W H (some (aH g 0)) (W*H) c,iI])∧OwnB S w B n b (uS W H r key f q most qn qx).1.b∧
    Jr S w W H (W*H) g c (uS W H r key f q most qn qx).2∧aP w S:=by
 have qF:=tu d;obtain⟨qG,qH,qI,qJ,qK,-⟩:=qF;obtain⟨qt,qu,-⟩:=FZ hs.may;have a:=ac6 w (dA W H A1 j c1) (dA W2 H2 A2 N2 c2) (aS (jC qn qx r cu go ra ro fi) 23) (aS #[aB 0,bU] 257) (dA 0 0 none 0 0);have X0:=((((bF.new w 90 #[W,H,aG A1 j c1]).alloc (dA W2 H2 A2 N2 c2)).alloc (aS (jC qn qx r cu go ra ro fi) 23)).alloc (aS #[aB 0,bU] 257)).alloc (dA 0 0 none 0 0);have X1:=(((bF.new1 w (dA W H A1 j c1) 90 #[W2,H2,aG A2 N2 c2]).alloc (aS (jC qn qx r cu go ra ro fi) 23)).alloc (aS #[aB 0,bU] 257)).alloc (dA 0 0 none 0 0);have X2:=((bF.new ((w.alloc (dA W H A1 j c1)).alloc (dA W2 H2 A2 N2 c2)) 23 (jC qn qx r cu go ra ro fi)).alloc (aS #[aB 0,bU] 257)).alloc (dA 0 0 none 0 0);have X3:=(bF.new (((w.alloc (dA W H A1 j c1)).alloc (dA W2 H2 A2 N2 c2)).alloc (aS (jC qn qx r cu go ra ro fi) 23)) 257 #[aB 0,bU]).alloc (dA 0 0 none 0 0);have X4:=bF.new ((((w.alloc (dA W H A1 j c1)).alloc (dA W2 H2 A2 N2 c2)).alloc (aS (jC qn qx r cu go ra ro fi) 23)).alloc (aS #[aB 0,bU] 257)) 90 #[aB (0:Nat),aB (0:Nat),bU];rw[show((w.alloc (dA W H A1 j c1)).alloc (dA W2 H2 A2 N2 c2)).heap.size=w.heap.size+2 by simp]at X2;rw[show(((w.alloc (dA W H A1 j c1)).alloc (dA W2 H2 A2 N2 c2)).alloc (aS (jC qn qx r cu go ra ro fi) 23)).heap.size=w.heap.size+3 by simp]at X3;rw[show((((w.alloc (dA W H A1 j c1)).alloc (dA W2 H2 A2 N2 c2)).alloc (aS (jC qn qx r cu go ra ro fi) 23)).alloc (aS #[aB 0,bU] 257)).heap.size=w.heap.size+4 by simp]at X4;obtain⟨Y,O⟩:∃Y:aK,Y=((((w.alloc (dA W H A1 j c1)).alloc (dA W2 H2 A2 N2 c2)).alloc (aS (jC qn qx r cu go ra ro fi) 23)).alloc (aS #[aB 0,bU] 257)).alloc (dA 0 0 none 0 0):=⟨_,rfl⟩;have s5:Y.heap.size=w+5:=by rw[O];simp
 rw[←O]at a;have X0:bF Y w 90 #[W,H,aG A1 j c1]:=by rw[O];exact X0
 have X1:bF Y (w.heap.size+1) 90 #[W2,H2,aG A2 N2 c2]:=by rw[O];exact X1
 have X2:bF Y (w.heap.size+2) 23 (jC qn qx r cu go ra ro fi):=by rw[O];exact X2
 have X3:bF Y (w.heap.size+3) 257 #[aB 0,bU]:=by rw[O];exact X3
 have X4:bF Y (w.heap.size+4) 90 #[aB (0:Nat),aB (0:Nat),bU]:=by rw[O];exact X4
 obtain⟨HS,HP,qL,qv,T,ql,qm,qC⟩:=GI (fun S (s:aP Y S)=>(hs.keep a).keep s) (fun S (s:aP Y S) (hk:key=false)=>show W2=W∧H2=H∧Fr S W H N2 A2 q from⟨(hp hk).1,(hp hk).2.1,((hp hk).2.2.keep a).keep s⟩) (fun S (s:aP Y S)=>mD (X0.keep s)) (fun S (s:aP Y S)=>X1.keep s) (fun S (s:aP Y S)=>X2.keep s) (fun S (s:aP Y S)=>X3.keep s) (fun S (s:aP Y S)=>X4.keep s) (fun S=>acZ (v:=128) qt qu aj S);obtain⟨qM,HR⟩:=aV (fun S=>wu d S) (show wo W H r key f q most (qx+1-qn) qn=uS W H r key f q most qn qx from rfl);generalize uS W H r key f q most qn qx=R at*;have qW:qx≤15:=aj
 have qD:r≤7:=aj
 have qX:qn≤qx:=aj
 change Hid _ at O a s5;clear hs hp X0 X1 X2 X3 X4 qt qu d qG qH qI qJ qK;go_enter func215,ntmps215;have N:=aU Y Y;obtain⟨d0,d1,d2,d3,d4,d5,d6,d7⟩:=(T _ N).s8;go_upto_region 1 with(fail)
 change Code.wp _ _ _ _ (((((w.alloc (dA W H A1 j c1)).alloc (dA W2 H2 A2 N2 c2)).alloc (aS (jC qn qx r cu go ra ro fi) 23)).alloc (aS #[aB 0,bU] 257)).alloc (dA 0 0 none 0 0));rw[←O];go_wp2_with fail;refine(qM _).aQ ?_;rintro w1 qo;have d0:=(T _ qo).c0;change Hid _ at qo;clear N d1 d2 d3 d4 d5 d6 d7;go_wp2
 go_loopg [14,15,16,17] (qx+1-qn) (fun k qN qY qZ za wr=>∃z:Nat,k+z=qx+1∧qN=z∧Hid (wo W H r key f q most k z=R)∧aP Y wr)
 case atStart=>exact⟨qn,aj,rfl,HR,qo⟩
 case round=>
  obtain⟨z,hk,rfl,HF,Z⟩:=hrel;obtain⟨a0,a1,a2⟩:=qL _ Z;obtain⟨b0,b1,b2⟩:=mD (qv _ Z);have d1:=(T _ Z).c1;have d2:=(T _ Z).c2;change Hid _ at Z;rcases gk with _|gk
  ·have zb:¬(z:Int)≤(qx:Int):=aj
   have qw:=HF.vI;have hR:=qw.symm;clear HF qw;subst hR;cases key
   ·obtain⟨rfl,rfl,M⟩:=HP _ Z rfl
    have qk:=M.pos;have zc:=M.n1;have qO:=ay (RD (c:=c2) qk aj wr M.ls);change Hid _ at M;go_wp2_with fail;refine qO.mono ?_;rintro e X ⟨A8,c8,rfl,qq,L⟩;obtain⟨g,rfl,qy,-⟩:=qq.form qk;have V:=Z.trans (L.mono Z.size);have qa:=qv _ V;have f2:=qa.frozen 2;have e2:aN X (w.heap.size+1) 2 (aG A2 N2 c2):=(mD qa).2.2;have y:=qa.store 2 (aG g N2 c8);have Q:=(ql _ V).far (p:=(aH (w.heap.size+1) 2)) (aj:w.heap.size+3≠w.heap.size+1) (aG g N2 c8);have U:=(qm _ V).far (p:=(aH (w.heap.size+1) 2)) (aj:w.heap.size+4≠w.heap.size+1) (aG g N2 c8);have P:=(a.trans (V.mono a.size)).setCell (p:=(aH (w.heap.size+1) 2)) (aj:w.heap.size≤w+1) (aG g N2 c8);have qP:Y≤g:=dD Z.size qy
    have qr:=(qq.lower (b:=Y.heap.size) Z.size).dH ((bQ.refl (fun i=>i=w+1) X).setCell (p:=(aH (w.heap.size+1) 2)) (fun _=>rfl) (aG g N2 c8)) (fun q hq=>by
     injection hq with hq
     subst hq;have:=s5.out;dsimp only;omega)
    have o:=s5.out;obtain⟨W7,x⟩:∃W7:aK,W7=X.setCell ⟨w.heap.size+1,2,none⟩ (aG g N2 c8):=⟨_,rfl⟩;rw[←x]at y Q U P qr;obtain⟨p0,p1,p2⟩:=mD y;obtain⟨W9,I,⟨z0,z1⟩,⟨z2,z3,z4⟩,G,F,E⟩:=RN (w:=w) (K:=3) (B6:=none) (n:=0) (c6:=0) (l:=[]) rfl rfl Q U P aj aj (base:=Y.heap.size) aj aj (OwnB.nil _ _ []) (⟨M.wd,M.ht,M.size,M.may,qr⟩:Jr W7 Y W2 H2 N2 g c8 q) aj;change Hid _ at x;clear y P qr qq L V qa qP o;have y0:=Q.c0;have y1:=Q.c1;obtain⟨y2,y3,y4⟩:=U.s3;have g0:=Q.frozen 0;have g1:=Q.frozen 1;have g2:=U.frozen 0;have g3:=U.frozen 1;have g4:=U.frozen 2;change Hid _ at G F E I;clear Q U;go_upto_region 18 with(fail)
    rw[←x]
    go_region
    go_wp2_with fail;rw[←I];refine aT (by simp[results,results215,go_sem,z0,z1,z2,z3,z4];rfl) rfl ?_;have hN:=M.size;subst hN;exact⟨none,0,0,g,c8,rfl,G.drew,F.keep (aU _ _).drew,E.drew⟩
   ·go_wp2_with fail
    refine(qC _).mono ?_;rintro e X ⟨g,rfl,qy,hf,L⟩;have D:=aJ X (dA W H g (W*H) (W*H));have V:=Z.trans (L.mono Z.size);have qe:=V.trans (D.mono V.size);have y:=bF.new X 90 #[W,H,aG g (W*H) (W*H)];have Q:=ql _ qe;have U:=qm _ qe;have P:=a.trans (qe.mono a.size);have J:=hf.keep D;have J:Jr _ Y W H (W*H) g (W*H) (AX (W*H) 128):=⟨J.wd,J.ht,J.size,J.may,J.own.lower Z.size⟩;have o:=s5.out;have qs:=V.size;obtain⟨W7,x⟩:∃W7:aK,W7=X.alloc (dA W H g (W*H) (W*H)):=⟨_,rfl⟩;rw[←x]at y Q U P J;obtain⟨p0,p1,p2⟩:=mD y;obtain⟨W9,I,⟨z0,z1⟩,⟨z2,z3,z4⟩,G,F,E⟩:=RN (w:=w) (K:=4) (B6:=none) (n:=0) (c6:=0) (l:=[]) rfl rfl Q U P aj aj (base:=Y.heap.size) aj aj (OwnB.nil _ _ []) J aj;have n1:¬X.heap.size=w+1+1+1:=aj
    have n2:¬w.heap.size+1+1+1=X.heap.size:=aj
    have n3:¬X.heap.size=w+1+1+1+1:=aj
    have n4:¬w.heap.size+1+1+1+1=X.heap.size:=aj
    change Hid _ at x;clear y P J hf L V qe D o qs;have y0:=Q.c0;have y1:=Q.c1;obtain⟨y2,y3,y4⟩:=U.s3;have g0:=Q.frozen 0;have g1:=Q.frozen 1;have g2:=U.frozen 0;have g3:=U.frozen 1;have g4:=U.frozen 2;change Hid _ at G F E I;clear Q U;go_upto_region 16 with(fail)
    rw[←x]
    go_region
    go_wp2_with fail;rw[←I];refine aT (by simp[results,results215,go_sem,z0,z1,z2,z3,z4];rfl) rfl ?_;exact⟨none,0,0,g,W*H,rfl,G.drew,F.keep (aU _ _).drew,E.drew⟩
  ·have ze:(z:Int)≤(qx:Int):=aj
   obtain⟨qf,m⟩:=aV (ahA (key:=key) (c1:=c1) (c2:=c2) (W2:=W2) (H2:=H2) (N2:=N2) (A2:=A2) (q:=q) (qp:=z) (r:=r) aj qD wr (HS _ Z) (HP _ Z)) (show wo W H r key f q most (gk+1) z=if((8+(yI W H z r key f q).length:Nat):Int)≤most then(⟨if key then 1 else 2,yI W H z r key f q⟩,Ef W H z r key f q)else wo W H r key f q most gk (z+1)from rfl);generalize yI W H z r key f q=FB at qf m;generalize Ef W H z r key f q=FP at qf m;generalize(if key=true then(1:Int)else 2)=KK at qf m;go_wp2_with fail;refine qf.mono ?_;rintro e X ⟨B,n,b,g,rfl,ho,hf,L,hn⟩;have D:=gU X (aS #[KK,aG B n b] 257) (dA W H g (W*H) (W*H));have V:=Z.trans (L.mono Z.size);have qg:=V.trans (D.mono V.size);have E1:=(bF.new X 257 #[KK,aG B n b]).alloc (dA W H g (W*H) (W*H));have E2:=bF.new1 X (aS #[KK,aG B n b] 257) 90 #[W,H,aG g (W*H) (W*H)];have h:=(ho.keep D).lower Z.size;have qh:=hf.keep D;have s3:((X.alloc (aS #[KK,aG B n b] 257)).alloc (dA W H g (W*H) (W*H))).heap.size=X+2:=bK
   obtain⟨W3,u⟩:∃W3:aK,W3=(X.alloc (aS #[KK,aG B n b] 257)).alloc (dA W H g (W*H) (W*H)):=⟨_,rfl⟩;have qg:aP Y W3:=by rw[u];exact qg
   have E1:bF W3 X 257 #[KK,aG B n b]:=by rw[u];exact E1
   have E2:bF W3 (X.heap.size+1) 90 #[W,H,aG g (W*H) (W*H)]:=by rw[u];exact E2
   have h:OwnB W3 Y B n b FB:=by rw[u];exact h
   have qh:Jr W3 wr W H (W*H) g (W*H) FP:=by rw[u];exact qh
   obtain⟨qQ,qz⟩:=aV (abe (k:=KK) (n:=n) (c:=b) (A:=B) aj W3) h.len;obtain⟨p0,p1⟩:=EG E1;obtain⟨qR,qA,qS,qi,qB,qE,qT⟩:=U2 u E1 E2 qg h L.size qh;clear D V qg E1 E2 h qh s3 u ho hf L hn;go_upto_region 10 with(fail)
   rw[←qR];go_wp2_with fail;refine qQ.aQ ?_;rintro w4 t
   by_cases qV:(n:Int)+8≤most
   ·have qU:R=(⟨KK,FB⟩,FP):=by
     have h1:=HF.vI;rw[m,aF (by have:=qz.out;omega)]at h1;exact h1.symm
    have qj:=qi.trans (t.mono qi.size);have Q:=ql _ qj;have U:=qm _ qj;have P:=a.trans (qj.mono a.size);obtain⟨q0,q1⟩:=EG (qA.keep t);obtain⟨q2,q3,q4⟩:=mD (qS.keep t);have C:=qT.keep t;have C:Jr _ Y W H (W*H) g (W*H) FP:=⟨C.wd,C.ht,C.size,C.may,C.own.lower Z.size⟩;have o:=s5.out
    have qs:Y.heap.size≤X:=by
     have h1:=qA.lt;have h2:=qB.lb;have h3:wr.heap.size≤X:=qE;have h4:=Z.size;omega
    obtain⟨W9,I,⟨z0,z1⟩,⟨z2,z3,z4⟩,G,F,E⟩:=RN (w:=w) (K:=KK) (base:=Y.heap.size) rfl rfl Q U P aj aj aj aj (qB.keep t) C aj;have n1:¬X.heap.size=w+1+1+1:=aj
    have n2:¬w.heap.size+1+1+1=X.heap.size:=aj
    have n3:¬X.heap.size=w+1+1+1+1:=aj
    have n4:¬w.heap.size+1+1+1+1=X.heap.size:=aj
    have n5:¬X.heap.size+1=w.heap.size+1+1+1:=aj
    have n6:¬w.heap.size+1+1+1=X.heap.size+1:=aj
    have n7:¬X.heap.size+1=w.heap.size+1+1+1+1:=aj
    have n8:¬w.heap.size+1+1+1+1=X.heap.size+1:=aj
    clear P C qj t o qs;subst qU;have y0:=Q.c0;have y1:=Q.c1;obtain⟨y2,y3,y4⟩:=U.s3;have g0:=Q.frozen 0;have g1:=Q.frozen 1;have g2:=U.frozen 0;have g3:=U.frozen 1;have g4:=U.frozen 2;change Hid _ at G F E I;clear Q U;go_upto_region 13 with(fail)
    go_region
    go_wp2_with fail;rw[←I];refine aT (by simp[results,results215,go_sem,z0,z1,z2,z3,z4];rfl) rfl ?_;exact⟨B,n,b,g,W*H,rfl,G.drew,F.keep (aU _ _).drew,E.drew⟩
   ·go_wp2_with fail
    go_roundg gk
    case measure=>omega
    case rel=>
     refine⟨z+1,aj,fA,ay ?_,qi.trans (t.mono qi.size)⟩;have h1:=HF.vI;rw[m,au (by have:=qz.out;omega)]at h1;exact h1
theorem QE{W x y qp:Nat}{ms:Nat→Int}{ls:Nat→aO}{p:aO}(Z:Bd 0 255 p):∀i,Bd 0 255 (Ad W x y qp ms ls p i)
 |0=>Z
 |i+1=>Fg (QE Z i) RG _
theorem ac7{q:aO}{c:tC}(X:c.good key)(Z:Bd 0 255 p)(V:key=false→Bd 0 255 q):Bd 0 255 (Oi W H x y qp p q c):=by
 cases c with
 |ahead=>exact Fg Z (Ed (V X)) _
 |moved U T l=>exact Fg Z RG _
 |large Y l=>exact Fg Z RG _
 |small S R=>exact QE Z 4
section
variable{W H qp r:Nat}{key:Bool}{f q:aO}
theorem TL(Y:r≤7)(X:Bd 0 255 f)(Z:key=false→Bd 0 255 q){y:Nat}{st:jD × aO}(h:st.1.ok)(V:Bd 0 255 st.2):∀k,(yc W H qp r key f q y st k).1.ok∧(yc W H qp r key f q y st k).1.e.out.length≤st.1.e.out+3850*k∧Bd 0 255 (yc W H qp r key f q y st k).2
 |0=>⟨h,bC _,V⟩
 |k+1=>by
  obtain⟨S,Q,U⟩:=TL Y X Z h V k;have T:=L8 (W:=W) (H:=H) (x:=8*k) (y:=y) (qp:=qp) (r:=r) (b:=sW W H f (8*k) y) (p:=(yc W H qp r key f q y st k).2) (q:=q) (key:=key) Y (Iw X) U Z;have R:=Ym S T;refine⟨R.1,?_,ac7 T U Z⟩;show(Ee W H qp r key f q (8*k) y (yc W H qp r key f q y st k)).1.e.out.length≤_;omega
theorem TM(Z:r≤7)(V:W≤32)(Y:Bd 0 255 f)(X:key=false→Bd 0 255 q):∀k,(xu W H qp r key f q k).1.ok∧(xu W H qp r key f q k).1.e.out.length≤15400*k∧Bd 0 255 (xu W H qp r key f q k).2
 |0=>⟨Yl,by simp[xu],lK fun _ _=>aj⟩
 |k+1=>by
  obtain⟨U,S,T⟩:=TM Z V Y X k;have:=TL (W:=W) (H:=H) (qp:=qp) Z Y X (y:=8*k) U T (W/8);refine⟨this.1,?_,this.2.2⟩;show(yc W H qp r key f q (8*k) (xu W H qp r key f q k) (W/8)).1.e.out.length≤_;have:=this.2.1;omega
theorem Uu(X:r≤7)(Y:qp≤15)(V:W≤32)(Q:H≤32)(U:Bd 0 255 f)(T:key=false→Bd 0 255 q):
  dV (yI W H qp r key f q)∧(yI W H qp r key f q).length≤65536∧Bd 0 255 (Ef W H qp r key f q):=by
 obtain⟨S,P,R⟩:=TM X V U T (H/8);refine⟨?_,?_,R⟩
 ·intro v Z
  rcases je.1 Z with rfl|Z
  ·omega
  ·exact Vm S.e v Z
 ·have:=Tt (xu W H qp r key f q (H/8)).1.e
  unfold yI;rw[xQ];omega
end
def jL.good(c:jL):Prop:=((c.k=1∨c.k=2)∧(∃q r,c.b=q::r∧0≤q∧q≤15)∧dV c.b∧c.b.length≤65536)∨((c.k=3∨c.k=4)∧c.b=[])
theorem jL.good.Zv{c:jL}(h:c.good):dV c.b:=by
 rcases h with⟨-,-,h,-⟩|⟨-,h⟩
 ·exact h
 ·grind
theorem jL.good.len{c:jL}(h:c.good):c.b.length≤65536:=by
 rcases h with⟨-,-,-,h⟩|⟨-,h⟩
 ·exact h
 ·rw[h];simp
theorem jL.good.kind{c:jL}(h:c.good):1≤c.k∧c.k≤4:=by
 rcases h with⟨h,-⟩|⟨h,-⟩<;>omega
section
variable{W H r:Nat}{key:Bool}{f q:aO}{most:Int}
theorem QF(X:r≤7)(V:W≤32)(U:H≤32)(T:Bd 0 255 f)(Y:key=false→Bd 0 255 q)(S:8≤most):∀n Z,Z+n≤16→
  (wo W H r key f q most n Z).1.good∧((wo W H r key f q most n Z).1.cost:Int)≤most∧Bd 0 255 (wo W H r key f q most n Z).2∧((wo W H r key f q most n Z).1.k=1∨(wo W H r key f q most n Z).1.k=4↔key=true)
 |0,Z,_=>by
  unfold wo VH;cases key
  ·exact⟨.inr ⟨.inl rfl,rfl⟩,by show((8:Nat):Int)≤most;omega,Y rfl,bK⟩
  ·exact⟨.inr ⟨.inr rfl,rfl⟩,by show((8:Nat):Int)≤most;omega,lK fun _ _=>aj,bK⟩
 |n+1,Z,h=>by
  unfold wo;split
  ·rename_i R
   obtain⟨Q,P,O⟩:=Uu (qp:=Z) X aj V U T Y;refine⟨.inl ⟨?_,⟨_,_,rfl,aj,aj⟩,Q,P⟩,R,O,?_⟩
   ·unfold UM;cases key<;>simp
   ·unfold UM;cases key<;>simp
  ·exact QF X V U T Y S n (Z+1) aj
end
theorem Jg{W H r qn qx:Nat}(hr:r≤7)(hW:W≤32)(hH:H≤32)(hqq:qn≤qx∧qx≤15):∀(l:List aO) (cs:aO) (key:Bool) (q:aO),l.length=cs.length→(∀f∈l,Bd 0 255 f)→(∀c∈cs,8≤c)→(key=false→Bd 0 255 q)→
  (kC W H r qn qx key q l cs).length=l.length∧(∀x∈kC W H r qn qx key q l cs,x.1.good∧Bd 0 255 x.2)∧
  (∀i (h:i<(kC W H r qn qx key q l cs).length) (h2:i<cs.length),((kC W H r qn qx key q l cs)[i].1.cost:Int)≤cs[i])∧
  ∀i (h:i<(kC W H r qn qx key q l cs).length),((kC W H r qn qx key q l cs)[i].1.k=1∨(kC W H r qn qx key q l cs)[i].1.k=4↔key=true∧i=0)
 | [],[],_,_,_,_,_,_=>⟨rfl,by simp[kC],fun i h=>absurd h (by simp[kC]),fun i h=>absurd h (by simp[kC])⟩
 |f::l,c::cs,key,q,hl,hf,hc,hq=>by
  have hfit:=QF (W:=W) (H:=H) (key:=key) (f:=f) (q:=q) (most:=c) hr hW hH (hf f bK) hq (hc c bK) (qx+1-qn) qn aj;obtain⟨h1,h2,h3,h4⟩:=Jg hr hW hH hqq l cs false (uS W H r key f q c qn qx).2 (by simpa using hl) (fun x hx=>hf x (by simp[hx])) (fun x hx=>hc x (by simp[hx])) (fun _=>hfit.2.2.1);have e:kC W H r qn qx key q (f::l) (c::cs)=uS W H r key f q c qn qx::kC W H r qn qx false (uS W H r key f q c qn qx).2 l cs:=rfl;rw[e];refine⟨by simp[h1],fun x hx=>?_,fun i h k=>?_,fun i h=>?_⟩
  ·rcases je.1 hx with rfl|hx
   ·exact⟨hfit.1,hfit.2.2.1⟩
   ·exact h2 x hx
  ·cases i with
   |zero=>exact hfit.2.1
   |succ i=>exact h3 i (by simpa using h) (by simpa using k)
  ·cases i with
   |zero=>
    show(uS W H r key f q c qn qx).1.k=1∨(uS W H r key f q c qn qx).1.k=4↔_;rw[show(uS W H r key f q c qn qx)=wo W H r key f q c (qx+1-qn) qn from rfl,hfit.2.2.2];simp
   |succ i=>grind
theorem Le{T p:Nat}(h:Co.ones b T p 24 0= .ok q):Co.xJ b T p k most=Co.EY b T k most q (Co.DR p q):=by
 unfold Co.xJ;rw[h]
theorem OQ{T p e:Nat}(h:Co.ones b T p 24 0= .error (.short e)):Co.xJ b T p k most=(.short e,e):=by
 unfold Co.xJ;rw[h]
theorem ahL{T p:Nat}:Co.EY b T k most 24 (Co.DR p 24)=if T<p+24+31 then(.short (p+24),p+24)else if Bi.num b (p+24) 31>most∨Bi.num b (p+24) 31>1073741824∨Bi.num b (p+24) 31/2^k<24 then(.range (p+24+31),p+24+31)else(.num (Bi.num b (p+24) 31),p+24+31):=by
 simp[Co.EY,Co.DR]
theorem ahM{T p:Nat}(h:q<24):Co.EY b T k most q (Co.DR p q)=if T<p+q+1+k then(.short (p+q+1),p+q+1)else if Bi.num b (p+q+1) k+q*2^k>most∨Bi.num b (p+q+1) k+q*2^k>1073741824 then(.range (p+q+1+k),p+q+1+k)else(.num (Bi.num b (p+q+1) k+q*2^k),p+q+1+k):=by
 have Z:q≠24:=aj
 simp[Co.EY,Co.DR,h,Z]
theorem alO{k:Int}{p:cO}(most:Int)(w:aK)(h:¬(0≤k∧k≤15)):
  Calls prog 205 #[p,k,most] w fun e Z=>e=bM (eP #[aB 0,.iface 48 (aB 3)])∧w=Z:=by
 by_cases Y:k<0
 ·clear h
  go_enter func205,ntmps205;go_wp2;go_ret2;exact sD
 ·have X:15<k:=aj
  go_enter func205,ntmps205;go_wp2;go_ret2;exact sD
theorem abj{p:Nat}(most:Int)(hk:k≤15)(C:b.length≤1000000000)(w:aK)(h:yB 299 lo hi w g b p):
  Calls prog 205 #[aY g,k,most] w (amP lo hi w g b (Co.xJ b (8*b.length) p k most)):=by
 have H:=ay h;clear h;have qa:0≤(k:Int):=aj
 have qe:(k:Int)≤15:=aj
 obtain⟨qf,qg⟩:=ahK (n:=k) aj
 have qh:(2:Int)^k≤32768:=by
  have:(2:Int)^k≤2^15:=Co.JZ hk;have e:(2:Int)^15=32768:=bn
  omega
 obtain⟨R,G⟩:∃R,Co.xJ b (8*b.length) p k most=R:=⟨_,rfl⟩;rw[G];change Hid _ at G;unfold amP;go_enter func205,ntmps205;go_wp2
 go_loopg [8] 24 (fun m vn wr=>∃n:Nat,n+m=24∧vn=n∧Hid (Co.ones b (8*b.length) p m n=Co.ones b (8*b.length) p 24 0)∧uj 299 lo hi w g b (p+n) wr)
 case atStart=>exact⟨0,aj,rfl,rfl,H,bQ.refl _ _⟩
 case round=>
  obtain⟨n,hn,rfl,B,U⟩:=hrel;change Hid _ at U;cases gk with
  |zero=>
   obtain rfl:n=24:=aj
   have Q:=B.out;simp only[Co.ones]at Q;have L:=G.out;rw[Le Q.symm]at L;rw[ahL]at L;clear Q G B;go_wp2_with fail;rcases(aj:8*b.length<p+24+31∨p+24+31≤8*b.length)with J|J
   ·have X:=L
    rw[aF J]at X;subst X;refine(Om C aj J _ U.1).mono ?_;rintro e A ⟨v,rfl,Y,Z⟩;obtain⟨T,y,rfl⟩:=Y.iface;change Hid _ at Y Z;go_wp2;go_ret2;exact⟨_,rfl,.inr ⟨by simp[JJ],Y⟩,U.1.keep Z,U.2.trans (bQ.of_below Z)⟩
   ·have X:=L
    rw[au aj]at X;have I:=Bi.IW b (p+24) 31;refine(VN C aj J _ U.1).mono ?_;obtain⟨N,z⟩:∃N,Bi.num b (p+24) 31=N:=⟨_,rfl⟩;rw[z]at I X ⊢;change Hid _ at X;clear z;rintro e A ⟨rfl,P⟩;have S:Hid (uj 299 lo hi w g b (p+24+31) A):=⟨P.1,U.2.trans P.2⟩;clear P;have qi:0≤N/2^k:=kJ I.1 aj
    by_cases h3:N/2^k<24
    ·have W:=X.out
     rw[aF (.inr (.inr h3))]at W;subst W;go_wp2_with fail;refine(Jj _ S.1).mono ?_;rintro e s ⟨r,rfl,Y,Z⟩;change Hid _ at Y Z;go_wp2_with fail;go_ret2;exact⟨_,rfl,.inr ⟨by simp[JJ],Y⟩,S.1.keep Z,S.2.trans (bQ.of_below Z)⟩
    ·by_cases q:N>most
     ·have W:=X.out
      rw[aF (.inl q)]at W;subst W;go_wp2_with fail;refine(Jj _ S.1).mono ?_;rintro e s ⟨r,rfl,Y,Z⟩;change Hid _ at Y Z;go_wp2_with fail;go_ret2;exact⟨_,rfl,.inr ⟨by simp[JJ],Y⟩,S.1.keep Z,S.2.trans (bQ.of_below Z)⟩
     ·by_cases o:N>1073741824
      ·have W:=X.out
       rw[aF (.inr (.inl o))]at W;subst W;go_wp2_with fail;refine(Jj _ S.1).mono ?_;rintro e s ⟨r,rfl,Y,Z⟩;change Hid _ at Y Z;go_wp2_with fail;go_ret2;exact⟨_,rfl,.inr ⟨by simp[JJ],Y⟩,S.1.keep Z,S.2.trans (bQ.of_below Z)⟩
      ·have W:=X.out
       rw[au (fun h=>by rcases h with h|h|h<;>omega)]at W;subst W;go_wp2_with fail;go_ret2;exact⟨_,rfl,.inl ⟨rfl,rfl,rfl⟩,S⟩
  |succ m=>
   rcases(aj:8*b.length≤p+n∨(p+n<8*b.length))with a|a
   ·have Q:=B.out
    simp only[Co.ones]at Q;rw[aF a]at Q;have L:=G.out;rw[OQ Q.symm]at L;subst L;clear Q G B;go_wp2_with fail;refine(ac9 C aj _ U.1).mono ?_;rintro e l ⟨v,rfl,F,E⟩;obtain⟨T,y,rfl⟩:=F.iface;change Hid _ at F E;go_wp2_with fail;go_ret2;refine⟨_,rfl,.inr ⟨by simp[JJ],F⟩,U.1.keep E,U.2.trans (bQ.of_below E)⟩
   ·have j:=ay (ajR C aj _ U.1)
    have D:=Bi.Pj b (p+n);obtain⟨x,i⟩:∃x,Bi.bit b (p+n)=x:=⟨_,rfl⟩;rw[i]at j D;have Q:=B.out;simp only[Co.ones]at Q;rw[au aj,i]at Q;clear i B;rcases(aj:x=1∨x=0)with rfl|rfl
    ·rw[au aj]at Q
     change Hid _ at Q;clear D;go_wp2_with fail;refine j.aQ ?_;rintro l O;change Hid _ at O;go_wp2_with fail;go_roundg m
     case measure=>omega
     case rel=>exact⟨n+1,aj,fA,Q,O.1,U.2.trans O.2⟩
    ·rw[aF rfl]at Q
     have t:n<24:=aj
     have L:=G.out;rw[Le Q.symm]at L;rw[ahM t]at L;have u:=ay L;clear D L Q G;go_wp2_with fail;refine j.aQ ?_;rintro l O;have K:Hid (uj 299 lo hi w g b (p+n+1) l):=⟨O.1,U.2.trans O.2⟩;clear O U
     have d:(0:Int)≤n*2^k∧(n:Int)*2^k≤24*32768:=by
      refine⟨pI aj aj,?_⟩;have q:(n:Int)*2^k≤24*2^k:=mM aj aj;omega
     go_wp2_with fail;rcases(aj:8*b.length<p+n+1+k∨p+n+1+k≤8*b.length)with J|J
     ·have X:=u.out
      rw[aF J]at X;subst X;refine(Om C aj J _ K.1).mono ?_;rintro e A ⟨v,rfl,Y,Z⟩;obtain⟨T,y,rfl⟩:=Y.iface;change Hid _ at Y Z;go_wp2_with fail;go_ret2;exact⟨_,rfl,.inr ⟨by simp[JJ],Y⟩,K.1.keep Z,K.2.trans (bQ.of_below Z)⟩
     ·have X:=u.out
      rw[au aj]at X;have I:=Bi.IW b (p+n+1) k;refine(VN C aj J _ K.1).mono ?_;obtain⟨N,z⟩:∃N,Bi.num b (p+n+1) k=N:=⟨_,rfl⟩;rw[z]at I X ⊢;change Hid _ at X;clear z;rintro e A ⟨rfl,P⟩;have S:Hid (uj 299 lo hi w g b (p+n+1+k) A):=⟨P.1,K.2.trans P.2⟩;clear P;obtain⟨V,f⟩:∃V,N+(n:Int)*2^k=V:=⟨_,rfl⟩;obtain⟨M,hM⟩:∃M,(n:Int)*2^k=M:=⟨_,rfl⟩;rw[hM]at f d X;have c:V=N+M:=f.symm;subst c;clear f
      by_cases q:N+M>most
      ·have W:=X.out
       rw[aF (.inl q)]at W;subst W;go_wp2_with fail;refine(Jj _ S.1).mono ?_;rintro e s ⟨r,rfl,Y,Z⟩;change Hid _ at Y Z;go_wp2_with fail;go_ret2;exact⟨_,rfl,.inr ⟨by simp[JJ],Y⟩,S.1.keep Z,S.2.trans (bQ.of_below Z)⟩
      ·by_cases o:N+M>1073741824
       ·have W:=X.out
        rw[aF (.inr o)]at W;subst W;go_wp2_with fail;refine(Jj _ S.1).mono ?_;rintro e s ⟨r,rfl,Y,Z⟩;change Hid _ at Y Z;go_wp2_with fail;go_ret2;exact⟨_,rfl,.inr ⟨by simp[JJ],Y⟩,S.1.keep Z,S.2.trans (bQ.of_below Z)⟩
       ·have W:=X.out
        rw[au (fun h=>by rcases h with h|h<;>omega)]at W;subst W;go_wp2_with fail;go_ret2;exact⟨_,rfl,.inl ⟨rfl,rfl,rfl⟩,S⟩
def wz:ByteArray:=⟨#[115,111,117,114,99,101]⟩
def frP:So.Fr→List (ByteArray × Int)
 | .ok _=>[]
 | .bits q=>QM q
 | .sample=>[]
def frC:So.Fr→Int
 | .ok _=>0
 | .bits q=>JJ q
 | .sample=>3
def yQ(b:aO):Int:=
 if b.length<5 then 1
 else if¬(b.getD 0 0=75∧b.getD 1 0=83)then 2
 else if¬((1≤b.getD 2 0∧b.getD 2 0≤4)∧(1≤b.getD 3 0∧b.getD 3 0≤4)∧1≤b.getD 4 0∧b.getD 4 0≤16)then 3
 else 0
abbrev Dec:=Except (List (ByteArray × Int)× Int) (List aO)
def VP(x:aO)(n:Nat)(Z:List aO)(p:Nat):Dec:=
 match iC x p (Af p)with
 |some a=>.error ([(wz,(n:Int)),(Ii,(a:Int))],2)
 |none=>if p+Af p<8*x.length then .error ([(wz,(n:Int))],5)else .ok Z
def Yw(x:aO)(w s n:Nat):Dec:=
 match So.frames x (8*x.length) w s n [] 0 with
 |(.error (i,Z),_)=>.error ((wz,(i:Int))::frP Z,frC Z)
 |(.ok Y,p)=>VP x n Y p
def RV(b:aO):Nat:=8*(b.getD 2 0).toNat
def TP(b:aO):Nat:=8*(b.getD 3 0).toNat
def nOf(b:aO):Nat:=(b.getD 4 0).toNat
def Dh(b:aO):Dec:=
 if yQ b=0 then Yw (b.drop 5) (RV b) (RV b*TP b) (nOf b)else .error ([(wz,-1)],yQ b)
theorem Kr(h:yQ b=0):5≤b.length∧b.getD 0 0=75∧b.getD 1 0=83∧(1≤b.getD 2 0∧b.getD 2 0≤4)∧(1≤b.getD 3 0∧b.getD 3 0≤4)∧1≤b.getD 4 0∧b.getD 4 0≤16:=by
 unfold yQ at h;split at h
 ·cases h
 ·omega
theorem ada(b:aO):yQ b=0∨yQ b=1∨yQ b=2∨yQ b=3:=by
 unfold yQ;split
 ·simp
 ·omega
def Bad(fr:So.Fr):Prop:=(∃a,fr= .bits (.short a))∨(∃a,fr= .bits (.range a))∨fr= .sample
theorem Bad.code{fr:So.Fr}(h:Bad fr):(frC fr=1∨frC fr=3)∧(frP fr).length≤2:=by
 rcases h with⟨a,rfl⟩|⟨a,rfl⟩|rfl<;>simp[frC,frP,JJ,QM]
theorem abk{b:aO}{T k w:Nat}:∀(n:Nat) (Du:aO) (p q:Nat) (fr:So.Fr),So.samples b T k w n Du p=(fr,q)→(∃r,fr= .ok r)∨Bad fr:=by
 intro n
 induction n with
 |zero=>intro Du p q fr h;simp only[So.samples,jd]at h;exact .inl ⟨_,h.1.symm⟩
 |succ n ih=>
  intro Du p q fr h;simp only[So.samples]at h;split at h
  ·split at h
   ·grind
   ·simp only[jd]at h;exact .inr (.inr (.inr h.1.symm))
  ·rename_i e q' hne hg
   simp only[jd]at h;rcases e with u|a|a
   ·grind
   ·exact .inr (.inl ⟨a,h.1.symm⟩)
   ·exact .inr (.inr (.inl ⟨a,h.1.symm⟩))
theorem Yx{T w p:Nat}{fr:So.Fr}(h:So.frame b T w n p=(fr,q)):(∃r,fr= .ok r)∨Bad fr:=by
 unfold So.frame at h;split at h
 ·simp only[jd]at h;exact .inr (.inl ⟨p,h.1.symm⟩)
 ·exact abk _ _ _ _ _ h
theorem adb{b:aO}{T w s:Nat}:∀(n:Nat) (fs:List aO) (p q i:Nat) (fr:So.Fr),So.frames b T w s n fs p=(.error (i,fr),q)→i<fs+n∧Bad fr:=by
 intro n
 induction n with
 |zero=>intro fs p q i fr h;simp[So.frames]at h
 |succ n ih=>
  intro fs p q i fr h;simp only[So.frames]at h;split at h
  ·grind
  ·rename_i e q' hne hg
   simp only[jd,sQ]at h;obtain⟨sD,rfl⟩:=h;rcases Yx hg with⟨r,rfl⟩|hb
   ·grind
   ·grind
theorem abl{p:List (ByteArray × Int)}{c:Int}(h:Dh b= .error (p,c)):(c=1∨c=2∨c=3∨c=5)∧∃i r,p=(wz,i)::r∧-1≤i∧i≤16∧r.length≤2:=by
 unfold Dh at h;split at h
 ·next Z=>
  obtain⟨_,_,_,_,_,T,S⟩:=Kr Z;unfold Yw at h;split at h
  ·next i Y q X=>
   obtain⟨W,V⟩:=adb _ _ _ _ _ _ X;obtain⟨R,U⟩:=V.code;simp only[sQ,jd]at h;obtain⟨rfl,rfl⟩:=h;refine⟨aj,i,frP Y,rfl,aj,?_,U⟩;simp only[vK,nOf]at W;omega
  ·unfold VP at h
   split at h
   ·next a _=>
    simp only[sQ,jd]at h;obtain⟨rfl,rfl⟩:=h;exact⟨aj,_,[(Ii,(a:Int))],rfl,aj,by unfold nOf;omega,bK⟩
   ·split at h
    ·simp only[sQ,jd]at h
     obtain⟨rfl,rfl⟩:=h;exact⟨aj,_,[],rfl,aj,by unfold nOf;omega,bK⟩
    ·cases h
 ·simp only[sQ,jd]at h
  obtain⟨rfl,rfl⟩:=h;have:=ada b;exact⟨aj,-1,[],rfl,aj,aj,bK⟩
theorem ahN{x:aO}{w s n:Nat}{fs:List aO}(h:Yw x w s n= .ok fs):
  ∃p,So.frames x (8*x.length) w s n [] 0=(.ok fs,p)∧iC x p (Af p)=none∧8*x.length≤p+Af p:=by
 unfold Yw at h;split at h
 ·cases h
 ·next fs' p hf=>
  unfold VP at h;split at h
  ·cases h
  ·grind
theorem aej{Z:List aO}(h:Dh b= .ok Z):yQ b=0∧Z=nOf b∧∀f∈Z,f=RV b*TP b∧∀v∈f,0≤v∧v≤255:=by
 unfold Dh at h;split at h
 ·next Y=>
  obtain⟨p,X,_,_⟩:=ahN h;obtain⟨_,_,W,V⟩:=So.aaH (b':=b.drop 5) (bC _) (fun _ _=>rfl) _ _ _ _ _ (dS _) X;exact⟨Y,by simpa using W,V bK⟩
 ·cases h
def lens(l:List Ji):Nat:=(l.map fun g=>(anO [g]).length-5).sum
theorem abo{α:Type}{U:Array Oper}{K:Act→aK→Prop}(R:tJ α)(P:o.guard=none)(s x:Operand)
  (I:o.op= .call {callee:=.builtin .append,args:=#[s,x],argTypes:=#[R.S,R.S]})
 {l r:List α} (H:a.eval s=aG A n c) (Y:dX R w base A n c l)
    (hx:a.eval x=aG B m c') (L:Qo R w B m r) (G:(n+m)*R.bytes≤140737488355328) (J:base≤w) (z:n+m≤1000000000)
    (h:∀B X w',dX R w' base B (n+m) X (l++r)→Below base w w'→bQ (In A) w w'→(∀i,In B i→In A i∨w≤i)→K (a.put o.dst (aG B (n+m) X)) w'):
    if Region.wanted o (yielded U a.tmps)=true then Oper.wp prog o a w K Q else E:=by
  obtain⟨F,D,O,N,M⟩:=info_parts' R;refine IV _ P s x _ I base R.T F _ R.k R.bytes R.und D O N M R.zs R.pos _ n _ H Y.row B m c' _ hx L.rd (R.RH r) (by unfold maxLen;omega) G J ?_;intro y X v W Z V;exact h _ _ _ ⟨by simp[Y.len,L.len],by rw[R.Qn];exact W⟩ ((aU base w).grown Z J (fun k C=>(Y.row.lt k C).1)) (Zk Z) (acO V)
theorem RX{α:Type}{Z:Array Oper}{K:Act→aK→Prop}(R:tJ α)(Y:o.guard=none)(s x:Operand)
  (U:o.op= .call {callee:=.builtin .append,args:=#[s,x],argTypes:=#[R.S,R.S]})
 {l:List α} {v:α} (P:a.eval s=aG A n c) (X:dX R w base A n c l)
   (hx:a.eval x=aG g 1 c') (O:w.heap[g]? =some (.cells (R.enc v).toArray R.T (0,0))) (N:(n+1)*R.bytes≤140737488355328) (M:base≤w) (W:n+1≤1000000000)
   (h:∀B cap w',dX R w' base B (n+1) cap (l++ [v])→Below base w w'→bQ (In A) w w'→(∀i,In B i→In A i∨w≤i)→K (a.put o.dst (aG B (n+1) cap)) w'):
   if Region.wanted o (yielded Z a.tmps)=true then Oper.wp prog o a w K Q else E:=by
  refine abo R Y s x U P X hx (r:=[v]) ⟨rfl,⟨by rw[R.Nj,R.hk];omega,fun _=>⟨g,0,rfl,fun j u V=>?_⟩⟩⟩ N M W h;rw[R.Nj]at V;rw[dI,cell_of_row w g j _ _ (0,0) O];simpa using V
theorem dX.empty{α:Type}(R:tJ α)(w:aK)(base:Nat)(Z:base≤w):dX R (w.alloc (aS #[] R.T)) base w 0 0 []:=⟨rfl,Ob w _ R.k base Z⟩
def VR(w:aK)(i:Nat)(t:TypeId):Prop:=∃Z,w.heap[i]? =some (.cells Z t (0,0))
theorem VR.one{t':TypeId}(h:VR w i t)(Z:VR w i t'):t=t':=by
 obtain⟨X,h⟩:=h;obtain⟨Y,Z⟩:=Z;rw[h]at Z;injection Z with Z
 injection Z
theorem bF.ty(h:bF w g t cs):VR w g t:=⟨cs,h⟩
theorem ahT{W:List cO}(h:w.ownsRow base t k (aG A n c) m W)(hi:In A i):VR w i t:=by
 obtain⟨p,rfl,rfl⟩:=hi;rcases h.2 with⟨Z,-⟩|⟨g,U,X,Z,-,V,-⟩
 ·cases Z
 ·injection Z with Y _ _
  injection Y with Y
  rw[Y];exact⟨X,V⟩
theorem dX.ty{α:Type}{R:tJ α}{l:List α}(h:dX R w base A n c l)(hi:In A i):VR w i R.T:=ahT h.row hi
theorem OwnB.ty(h:OwnB w base A n c l)(hi:In A i):VR w i 5:=ahT h.row hi
def alp(lo hi:Nat)(w:aK)(g:Nat)(b:aO)(r:Co.Got × Nat)(e:Ending)(w':aK):Prop:=
 ∃A Z,e=bM (eP #[aB (ajT r.1),.agg #[aB (JJ r.1),.slice A (QM r.1).length Z]])∧Rd w' 2 A (QM r.1).length (wH (QM r.1))∧(∀a,A=some a→w.heap.size≤a.block)∧uj 145 lo hi w g b r.2 w'
theorem uj.LX{W:aK}(h:uj t lo hi w g b q W)(P:hi≤w)(O:g<w)(x y:cO):uj t lo hi w g b q ((W.setCell ⟨w,0,none⟩ x).setCell ⟨w,1,none⟩ y):=by
 have Z:bQ (fun i=>i=w) W ((W.setCell ⟨w,0,none⟩ x).setCell ⟨w,1,none⟩ y):=
  ((bQ.refl (fun i=>i=w) W).setCell (p:=(aH w 0)) (fun _=>rfl) _).setCell (p:=(aH w 1)) (fun _=>rfl) _
 obtain⟨⟨X,V,A,c,U,T,Y⟩,S⟩:=h;exact⟨⟨X,V,A,c,U.dH Z aj,T.afD Z (fun a R Q e=>by have:=(Y a R Q).2.1;omega),Y⟩,S.step Z (fun i hi e=>aj)⟩
theorem uj.below{W:aK}(h:uj t lo hi w g b q W)(Z:Below W W u):uj t lo hi w g b q u:=⟨h.1.keep Z,h.2.trans (bQ.of_below Z)⟩
theorem uj.then_{W:aK}(h:uj t lo hi w g b q W)(h2:uj t lo hi W g b i u):uj t lo hi w g b i u:=⟨h2.1,h.2.trans h2.2⟩
theorem uj.drew{t:TypeId}{lo hi g:Nat}{w W:aK}{b:aO}{q:Nat}(h:uj t lo hi w g b q W):uj t lo hi w g b q W.drew:=⟨h.1,h.2.drew⟩
theorem uj.place{W:aK}(h:uj t lo hi w g b q W):W.cell? (aH g 1)=some (aB q):=by
 obtain⟨⟨_,_,A,c,Z,_,_⟩,_⟩:=h;rw[Z.cell];rfl
end Go.Proofs.YtiaeohgghaaciaaGreatDoor
