import Derived.Deep.Cut
import Derived.Test.YtiaeohgghaaciaaGreatDoorB09
namespace Go.Proofs.YtiaeohgghaaciaaGreatDoor
open Go Go.Maps Go.RowKit Go.Extern.Stop Go.Stop Go.Extern Go.Proofs.Tryz
set_option linter.all false
set_option maxRecDepth 100000
set_option maxHeartbeats 4000000
variable{cs:Array Value}{key:Bool}{f l p:List Int}{H H2 N N2 W W2 base c c1 c2 d g i j k m n q qp r x y:Nat}{A A1 A2 B:Option Addr}{u w w' wr:World}
theorem ahs(ms:Nat→Int)(A:Nat→dK)(cc:Nat→Nat)(hi:i<4):(Og ms A cc).c[2+i]? =some (aB (ms i)):=by
 have Z:i=0∨i=1∨i=2∨i=3:=aj
 rcases Z with rfl|rfl|rfl|rfl<;>rfl
theorem aht(ms:Nat→Int)(A:Nat→dK)(cc:Nat→Nat)(hi:i<4):(Og ms A cc).c[9+i]? =some (aG (A i) 16 (cc i)):=by
 have Z:i=0∨i=1∨i=2∨i=3:=aj
 rcases Z with rfl|rfl|rfl|rfl<;>rfl
theorem ahu{ms:Nat→Int}{V:Nat→cO}(h:∀j,j<i→∃B b,V j=aG B 16 b):(sqU ms V i).ones:=by
 have Z:∀j,(if j<i then V j else bU).oneCell'=true:=fun j=>by
  split
  ·obtain⟨B,b,e⟩:=h j ‹_›
   rw[e];rfl
  ·rfl
 exact⟨rfl,Z 0,Z 1,Z 2,Z 3⟩
theorem Je(ms:Nat→Int)(ls:Nat→aO):∀i,dM (wF ms ls i)
 |0=>dM.nil
 |i+1=>(Je ms ls i).app ((Il _).app (KT aj _ _))
theorem Ia{ms:Nat→Int}{ls:Nat→aO}(Z:∀i,i<4→∀v∈ls i,-16320≤v∧v≤16320):∀i,i≤4→fE (wF ms ls i)≤950*i
 |0,_=>by simp[wF,fE]
 |i+1,X=>by
  have W:=Ia (ms:=ms) Z i aj;have Y:=JH (base:=14) (last:=15) (Z i aj) (dF 4);rw[uz (.inl rfl)]at Y;have V:=Gq (ms i).toNat;unfold wF;rw[fU,fU];omega
section
variable{base g ge c go:Nat}{A:dK}{m:jD}
theorem aft{b:Nat}{ms:Nat→Int}{ls:Nat→aO}{S:Nat→dK}{cc:Nat→Nat}(s:∀i,i<4→0≤ms i∧ms i≤3)(I:∀i,i<4→Bd (-16320) 16320 (ls i))(hm:m.ok)(hl:m.e.out.length≤500000)(w:aK)(qw:base≤w)(hL:∀i,i<4→Own w b (S i) 16 (cc i) (ls i))(h:EO w base g ge A c m)(X:bF w go 367 ({kind:=3}:Sq).c):
  Calls prog 292 #[cdV g,(Og ms S cc).v,aY go] w
   fun e w'=>e=bM iI∧wJ w base g ge A (dU m (wF ms ls 4)) go 3 w':=by
 have D:=aJ w (.cells (Og ms S cc).c 367);have hB:=bF.new w 367 (Og ms S cc).c;have hG:=X.keep D;have h1:=h.keep D;have e0:=hG.c0;have N:go≠w:=by have:=X.lt;omega
 obtain⟨qh,HG,HB,qg,qi,HM,r,qj⟩:=GI (fun i (hi:i<4)=>(hL i hi).keep D) hG hB D h1 hm s I;have qk:=ay (Ia (ms:=ms) I);clear X h D hG hB h1 hL hm s I;go_enter func292,ntmps292;go_wp2
 go_loopg [7,8,22] (4:Nat) (fun k v7 v8 vi wr=>∃(i:Nat) (V:Nat→cO) (F:dK) (C:Nat),i+k=4∧vi=i∧(∀j,j<i→∃B b,V j=aG B 16 b)∧bF wr go 367 (sqU ms V i).c∧bF wr w 367 (Og ms S cc).c∧
  (∀j,j<4→Own wr b (S j) 16 (cc j) (ls j))∧EO wr base g ge F C (dU m (wF ms ls i))∧bQ (fun i=>i=g∨i=ge∨In A i∨i=go) w wr∧∀i,In F i→In A i∨w≤i)
 case atStart=>exact⟨0,fun _=>.nilFunc,A,c,aj,rfl,fun j z=>aj,HG,HB,qh,qi,bQ.of_below qg,fun _ h=>.inl h⟩
 case round=>
  obtain⟨i,V,F,C,hi,rfl,hV,X,M,P,W,U,L⟩:=hrel
  by_cases Z:i<4
  ·have qv:(i:Int)<4:=aj
   have qy:=U.size;obtain⟨k,hk⟩:∃k:Nat,ms i=(k:Int):=⟨(ms i).toNat,by have:=r i Z;omega⟩;have ql:k≤3:=by have:=r i Z;omega
   have o:(ms i).toNat=k:=aj
   have H:=lI HM (Je ms ls i);have qz:=qk i aj;have O:=lI H.1 (Il k);rw[Gq]at O;have hd:=(aU wr wr).drew;have xm:wr.cell? (aH w (2+i))=some (aB (ms i)):=by rw[M.cell];exact ahs _ _ _ Z
   have H1:=aec ql H.1 aj wr.drew (aj:base≤wr) (W.keep hd);rw[←hk]at H1;obtain⟨qm,HC,qq,HV,n,qr,qs,l⟩:=GI H1 (fun F C w1 (hs:base≤w1.heap.size) (qo:Own w1 b (S i) 16 (cc i) (ls i)) (k':EO w1 base g ge F C (dU (dU m (wF ms ls i)) (Bh k)))=>ahr (qj i Z) O.1 aj w1 hs qo k') (show wF ms ls (i+1)=wF ms ls i++(Bh k++lM 14 15 (ls i) (dF 4)) by rw[←o];rfl) hV X M P W;obtain⟨qt,f⟩:=aV U L;clear hV X M P W U L H O H1 hd hk o;go_wp2
   go_region_held3(fun W'=>W'.cell? (aH w (2+i))=some (aB (ms i)))
    (first|exact xm|exact d|exact a|fail)
    ((go_at_call 313;refine qm.aQ ?_;rintro E R;have Y:=l.keep (aU wr wr).drew;have y:=bF.tH (n.drew) Y R bn bn bn;have b2:=bF.tH (qr.drew) Y R bn bn bn;have dm:E.cell? (aH go (2+i))=some (aB 0):=(by rw[y.cell];exact alf _ _ Z);have fm:=y.frozen (2+i);have d:E.cell? (aH w (2+i))=some (aB (ms i)):=(by rw[b2.cell];exact ahs _ _ _ Z);have a:(E.setCell ⟨go,2+i,none⟩ (ms i)).cell? (aH w (2+i))=some (aB (ms i)):=(by rw[(b2.far (fun e=>N e.symm) _).cell];exact ahs _ _ _ Z)))
   have Y:=l.keep (aU wr wr).drew;obtain⟨A3,c3,p1,p2,p3⟩:=jE.stored Y (n.drew) R (2+i) (ms i);have g3:=y.store (2+i) (ms i);have b3:=b2.far (p:=(aH go (2+i))) (fun e=>N e.symm) (ms i);have o3:=fun j (z:j<4)=>(((qs j z).drew).tH Y R).Qx y (2+i) (ms i)
   have q2:bQ (fun i=>i=g∨i=ge∨In A i∨i=go) w (E.setCell ⟨go,2+i,none⟩ (ms i)):=(qt.drew).step p2 (fun q x h=>by
    rcases h with h|h|h|h
    ·exact .inl h
    ·exact .inr (.inl h)
    ·rcases f q h with h|h
     ·exact .inr (.inr (.inl h))
     ·omega
    ·exact .inr (.inr (.inr h)))
   have q3:∀q,In A3 q→In A q∨w≤q:=fun q x=>by
    rcases p3 q x with h|h
    ·exact f q h
    ·have h':wr≤q:=h
     exact .inr aj
   obtain⟨u,G⟩:=kF (E.setCell ⟨go,2+i,none⟩ (ms i));have ys:(E.setCell ⟨go,2+i,none⟩ (ms i)).cell? (aH w (9+i))=some (aG (S i) 16 (cc i)):=by rw[b3.cell];exact aht _ _ _ Z
   rw[←G]at p1 g3 b3 o3 q2 ys;obtain⟨G3,B3,O3,Q1,Q2,Q3⟩:=MP g3 b3 o3 p1 q2 q3;have qA:=q2.size;have qu:=ay (HC A3 c3 u.drew (aj:base≤u) ((o3 i Z).drew) (p1.keep (aU _ _).drew));rw[←G];clear G p1 p2 p3 g3 b3 o3 q2 q3 Y y b2 R dm fm xm d a;go_wp2
   go_region_held3(fun W'=>W'.cell? (aH w (9+i))=some (aG (S i) 16 (cc i)))
    (first|exact ys|exact qa|exact qe _|fail)
    ((go_at_call 314;refine qu.mono ?_;rintro e w4 ⟨J,b4,rfl,Q⟩;have Y:=Q1.keep (aU u u).drew;have t:=bF.tH (G3.drew) Y Q bn bn bn;have K:=bF.tH (B3.drew) Y Q bn bn bn;have ds:w4.cell? (aH go (9+i))=some (bU):=(by rw[t.cell,Array.getElem?_setIfInBounds,au aj];exact alg _ _ Z);have fs:=t.frozen (9+i);have qa:w4.cell? (aH w (9+i))=some (aG (S i) 16 (cc i)):=(by rw[K.cell];exact aht _ _ _ Z);have qe:=fun v=>((K.far (p:=(aH go (9+i))) (fun e=>N e.symm) v).cell (9+i)).trans (aht ms S cc Z)))
   obtain⟨A5,c5,r1,r2,r3⟩:=jE.stored Y (G3.drew) Q (9+i) (aG J 16 b4);have g5:=t.store (9+i) (aG J 16 b4);rw[aaZ ms V (aG J 16 b4) Z]at g5;obtain⟨G5,B5,O5,R1⟩:=jH g5 (K.far (p:=(aH go (9+i))) (fun e=>N e.symm) (aG J 16 b4)) (fun j (z:j<4)=>(((O3 j z).drew).tH Y Q).Qx t (9+i) (aG J 16 b4)) r1
   have R2:=ay ((Q2.drew).step r2 (T:=fun i=>i=g∨i=ge∨In A3 i∨i=go) (fun q x h=>by
    rcases h with h|h|h|h
    ·exact .inl h
    ·exact .inr (.inl h)
    ·rcases Q3 q h with h|h
     ·exact .inr (.inr (.inl h))
     ·omega
    ·exact .inr (.inr (.inr h))))
   have R3:=ay (fun q (x:In A5 q)=>show In A q∨w≤q from by
    rcases r3 q x with h|h
    ·exact Q3 q h
    ·have h':u≤q:=h
     exact .inr aj)
   clear r1 r2 r3 g5 t K Q Y ds fs ys qa qe;go_wp2;go_roundg(gk-1)
   case measure=>omega
   case rel=>
    refine⟨i+1,fun j=>if j=i then aG J 16 b4 else V j,A5,c5,aj,fA,fun j z=>?_,G5,B5,O5,by rw[qq,fM,fM];exact R1,R2,R3⟩
    by_cases qf:j=i
    ·exact⟨J,b4,by simp[qf]⟩
    ·obtain⟨B,b,e⟩:=HV j aj
     exact⟨B,b,by simp[qf,e]⟩
  ·obtain rfl:i=4:=aj
   have HF:Hid (wJ w base g ge A (dU m (wF ms ls 4)) go 3 wr):=ay ⟨sqU ms V 4,rfl,ahu hV,X,F,C,W,U,L⟩;clear hV X M P W U L;go_wp2;go_ret;exact⟨rfl,HF⟩
end
theorem L6(s c:tC)(Z:Int):wZ (s,-1) c Z=(c,Z):=by unfold wZ;rw[aF (.inl (show(-1:Int)<0 by decide))]
theorem Jf{s:tC × Int}{c:tC}{x:Int}(h:s.1.good key)(Z:c.good key):(wZ s c x).1.good key:=by
 unfold wZ;split
 ·exact Z
 ·exact h
section
variable{W H x y qp r:Nat}{b p q:aO}
theorem Ns(Z:Bd 0 255 b)(Y:Bd 0 255 p):(tC.large (kX W x y 8 p b).1 (Df W x y 8 6 qp p b)).good key:=
 ⟨(Jb (.inr rfl) Y Z).1,fB _ _,UJ (.inr rfl) Z (IX (.inr rfl) Y)⟩
theorem Nu(Z:Bd 0 255 b)(Y:Bd 0 255 p):(tC.small (mg W x y qp b p) (xZ W x y qp b p)).good key:=fun i _=>
 ⟨(Jb (.inl rfl) (J7 Y i) (Oh Z i 64)).1,fB _ _,UJ (.inl rfl) (Oh Z i 64) (IX (.inl rfl) (J7 Y i))⟩
theorem L8(V:r≤7)(Z:Bd 0 255 b)(Y:Bd 0 255 p)(U:key=false→Bd 0 255 q):(lG W H x y qp r b p q key).good key:=by
 cases key with
 |true=>
  have e:lG W H x y qp r b p q true=FY W x y qp b p (.ahead,-1):=by unfold lG;exact aF rfl
  rw[e,FY,L6];exact Jf (Ns Z Y) (Nu Z Y)
 |false=>
  unfold lG;rw[au Bool.false_ne_true];split
  ·rfl
  ·unfold FY
   have X:=Np (W:=W) (H:=H) (p:=q) (b:=b) (x:=x) (y:=y) V;rw[L6];exact Jf (Jf ⟨rfl,⟨X.1,X.2.1⟩,⟨X.2.2.1,X.2.2.2⟩,fB _ _,UJ (.inr rfl) Z (Ed (U rfl))⟩ (Ns Z Y)) (Nu Z Y)
end
theorem aa6{c:tC}(h:c.good key):dM (EF key c):=by
 cases c with
 |ahead=>exact Fe aj
 |moved W V l=>exact(Fe aj).app ((Io _).app ((Io _).app (KT aj _ _)))
 |large Z l=>
  refine dM.app ?_ ((Il _).app (KT aj _ _));split
  ·exact dM.f1 _
  ·exact Fe aj
 |small Y X=>
  refine dM.app ?_ (Je Y X 4);split
  ·exact dM.f1 _
  ·exact Fe aj
theorem Zp{c:tC}(h:c.good key):fE (EF key c)≤3850:=by
 have W:=uz (.inr rfl);have V:∀b,fE [iH.f b]=1:=fun _=>rfl
 cases c with
 |ahead=>exact dD (DC aj) aj
 |moved N M l=>
  obtain⟨-,R,Q,-,X⟩:=h;have U:=DC (k:=1) aj;have P:=Gs R;have L:=Gs Q;have Y:=JH (base:=39) (last:=63) X (dF 8);rw[W]at Y;unfold EF;rw[fU,fU,fU];omega
 |large Z l=>
  obtain⟨-,-,X⟩:=h;have U:=DC (k:=2) aj;have P:=Gq Z.toNat;have Y:=JH (base:=39) (last:=63) X (dF 8);rw[W]at Y;unfold EF;rw[fU,fU];split
  ·rw[V];omega
  ·omega
 |small T S=>
  have U:=DC (k:=3) aj;have Y:=Ia (ms:=T) (ls:=S) (fun i O=>(h i O).2.2) 4 aj;unfold EF;rw[fU];split
  ·rw[V];omega
  ·omega
def pU(w:aK)(base:Nat)(s:Sq):tC→Prop
 | .ahead=>s={}
 | .moved Y X l=>∃L d,s={kind:=1,vx:=Y,vy:=X,L:=.slice L 64 d}∧Own w base L 64 d l
 | .large Z l=>∃L d,s={kind:=2,mode:=Z,L:=.slice L 64 d}∧Own w base L 64 d l
 | .small V U=>∃(A:Nat→dK) (W:Nat→Nat),s=Og V A W∧∀i,i<4→Own w base (A i) 16 (W i) (U i)
theorem pU.dH{w w':aK}{base:Nat}{S:Nat→Prop}{s:Sq}{ch:tC}(h:pU w base s ch)(W:bQ S w w')(V:∀i,base≤i→¬S i):pU w' base s ch:=by
 have X:∀{A n c l},Own w base A n c l→Own w' base A n c l:=fun o=>o.dH W (fun q U=>V _ (o.row.lt q.block (by subst U;rfl)).1)
 cases ch with
 |ahead=>exact h
 |moved Q P l=>obtain⟨L,d,Z,Y⟩:=h;exact⟨L,d,Z,X Y⟩
 |large m l=>obtain⟨L,d,Z,Y⟩:=h;exact⟨L,d,Z,X Y⟩
 |small O N=>obtain⟨A,T,Z,Y⟩:=h;exact⟨A,T,Z,fun i R=>X (Y i R)⟩
theorem pU.keep{s:Sq}{ch:tC}(h:pU w base s ch)(Z:aP w w'):pU w' base s ch:=h.dH (bQ.of_below (S:=fun _=>False) Z) (fun _ _ h=>h)
theorem pU.lower{w:aK}{base b:Nat}{s:Sq}{ch:tC}(h:pU w base s ch)(X:b≤base):pU w b s ch:=by
 cases ch with
 |ahead=>exact h
 |moved U T l=>obtain⟨L,d,Z,Y⟩:=h;exact⟨L,d,Z,Y.lower X⟩
 |large m l=>obtain⟨L,d,Z,Y⟩:=h;exact⟨L,d,Z,Y.lower X⟩
 |small S R=>obtain⟨A,W,Z,Y⟩:=h;exact⟨A,W,Z,fun i V=>(Y i V).lower X⟩
theorem pU.one{s:Sq}{ch:tC}(h:pU w base s ch):s.L.oneCell'=true∧s.s0.oneCell'=true∧s.s1.oneCell'=true∧s.s2.oneCell'=true∧s.s3.oneCell'=true:=by
 cases ch with
 |ahead=>subst h;exact⟨rfl,rfl,rfl,rfl,rfl⟩
 |moved Y X l=>obtain⟨L,d,rfl,Z⟩:=h;exact⟨rfl,rfl,rfl,rfl,rfl⟩
 |large m l=>obtain⟨L,d,rfl,Z⟩:=h;exact⟨rfl,rfl,rfl,rfl,rfl⟩
 |small W V=>obtain⟨A,U,rfl,Z⟩:=h;exact⟨rfl,rfl,rfl,rfl,rfl⟩
def PI(w:aK)(Z Y base:Nat)(st:tC × Int):Prop:=Z<base∧Y<base∧bF w Z 3 #[aB st.2]∧∃s:Sq,bF w Y 367 s.c∧pU w base s st.1
theorem PI.keep{w w':aK}{i j base:Nat}{st:tC × Int}(h:PI w i j base st)(Z:aP w w'):PI w' i j base st:=by
 obtain⟨Y,X,W,s,V,U⟩:=h;exact⟨Y,X,W.keep Z,s,V.keep Z,U.keep Z⟩
theorem Qy{st:tC × Int}{ch:tC}{s:Sq}{cost:Int}(w:aK)(h:PI w j k base st)(W:pU w base s ch):
  Calls prog 281 #[s.v,cost,aY j,aY k] w fun e Y=>e=bM (eP #[])∧PI Y j k base (wZ st ch cost)∧bQ (fun i=>i=j∨i=k) w Y:=by
 obtain⟨T,S,R,t,Q,P⟩:=h;refine(take_any w R Q W.one).aQ ?_;rintro Y ⟨V,Z,X⟩;refine⟨rfl,⟨T,S,?_,?_⟩,X⟩
 ·unfold wZ
  split
  ·rwa[aF ‹_›]at V
  ·rwa[au ‹_›]at V
 ·have U:∀i,base≤i→¬(i=j∨i=k):=fun i O=>aj
  unfold wZ;split
  ·rw[aF ‹_›]at Z;exact⟨s,Z,W.dH X U⟩
  ·rw[au ‹_›]at Z;exact⟨t,Z,P.dH X U⟩
theorem Fr.dH{w w':aK}{S:Nat→Prop}{W H n:Nat}{A:dK}{p:aO}(h:Fr w W H n A p)(Z:bQ S w w')(Y:∀q,A=some q→¬S q.block):Fr w' W H n A p:=⟨h.wd,h.ht,h.n1,h.size,h.may,h.ls.dH Z Y⟩
theorem Fr.pos(h:Fr w W H n A p):0<n:=by
 rw[h.size];have:=h.wd;have:=h.ht;exact Nat.mul_pos aj aj
theorem Ls.lt(h:Ls w A n l)(Y:0<n):∀q,A=some q→q.block<w:=by
 intro q Z;obtain⟨b,o,rfl,X⟩:=h.at_ Y;injection Z with Z
 subst Z;have:=lt_of_cell X;exact this
theorem Iw(h:Bd 0 255 p):Bd 0 255 (sW W H p x y):=lK fun _ _=>KW h _ _
theorem La(w:aK)(a b c d:Obj):aP w ((((w.alloc a).alloc b).alloc c).alloc d):=(GZ w a b c).trans ((aJ (((w.alloc a).alloc b).alloc c) d).mono jy)
theorem acX{q:aO}(l:qp≤15)(hx:x+8≤W)(hy:y+8≤H)(w:aK)(hs:Fr w W H j A1 f)(u:Fr w W H N A p):
  Calls prog 272 #[uf W H A1 j c1,uf W H A N c,uf W2 H2 A2 N2 c2,.bool true,x,y,qp,r] w
   fun e w'=>∃s:Sq,e=bM s.v∧pU w' w s (lG W H x y qp r (sW W H f x y) p q true)∧aP w w':=by
 have hW:=u.wd.2;have hH:=u.ht.2;have D:Bd 0 255 (sW W H f x y):=Iw hs.bd;have qo:=ay (u.ls.lt u.pos);have qa:=Jb (W:=W) (x:=x) (y:=y) (n:=8) (.inr rfl) u.bd D;have qJ:=He (W:=W) (x:=x) (y:=y) (qp:=qp) u.bd D 4 aj;have C:=ay (show lG W H x y qp r (sW W H f x y) p q true=(wZ (wZ (.ahead,-1) (.large (kX W x y 8 p (sW W H f x y)).1 (Df W x y 8 6 qp p (sW W H f x y))) (4*(kX W x y 8 p (sW W H f x y)).2+8)) (.small (mg W x y qp (sW W H f x y) p) (xZ W x y qp (sW W H f x y) p)) (jY W x y qp (sW W H f x y) p 4).2).1 from rfl);have Q:=La w (dA W H A1 j c1) (dA W H A N c) (dA W2 H2 A2 N2 c2) (.cells ({}:Sq).c 367)
 have B0:bF ((((w.alloc (dA W H A1 j c1)).alloc (dA W H A N c)).alloc (dA W2 H2 A2 N2 c2)).alloc (.cells ({}:Sq).c 367)) (w.heap.size+1) 90 #[W,H,aG A N c]:=
  ((bF.new1 w (dA W H A1 j c1) 90 #[W,H,aG A N c]).alloc (dA W2 H2 A2 N2 c2)).alloc (.cells ({}:Sq).c 367)
 have R0:bF ((((w.alloc (dA W H A1 j c1)).alloc (dA W H A N c)).alloc (dA W2 H2 A2 N2 c2)).alloc (.cells ({}:Sq).c 367)) (w.heap.size+3) 367 ({}:Sq).c:=by
  have h:=bF.new (((w.alloc (dA W H A1 j c1)).alloc (dA W H A N c)).alloc (dA W2 H2 A2 N2 c2)) 367 ({}:Sq).c;simpa using h
 have qj:((((w.alloc (dA W H A1 j c1)).alloc (dA W H A N c)).alloc (dA W2 H2 A2 N2 c2)).alloc (.cells ({}:Sq).c 367)).heap.size=w+4:=bK
 have F0:=u.keep Q;have HG:=ay (Zh (c:=c1) x y aj aj _ (hs.keep Q));obtain⟨W4,o⟩:=kF ((((w.alloc (dA W H A1 j c1)).alloc (dA W H A N c)).alloc (dA W2 H2 A2 N2 c2)).alloc (.cells ({}:Sq).c 367));rw[←o]at Q B0 R0 qj HG F0;change Hid _ at o;clear u hs;go_enter func272,ntmps272;go_wp2_with fail;rw[←o];refine HG.mono ?_;rintro e R ⟨B,b,rfl,o1,T⟩;have B1:=B0.keep T;have R1:=R0.keep T;have F1:=F0.keep T;have J:=Q.trans (T.mono aj);have qe:=T.size;obtain⟨W6,S⟩:=kF ((R.alloc (.cells ({}:Sq).c 367)).alloc (aS #[aB (-1)] 3));have Y:aP R W6:=by rw[S];exact gU R _ _
 have s6:W6.heap.size=R+2:=by rw[S];simp
 have T6:PI W6 (R.heap.size+1) R (R.heap.size+2) (.ahead,-1):=by
  rw[S];exact⟨aj,aj,bF.new1 R (.cells ({}:Sq).c 367) 3 #[aB (-1)],{},(bF.new R 367 ({}:Sq).c).alloc _,rfl⟩
 have qq:=ay S;have k:=B1.keep Y;obtain⟨g,a,a2⟩:=k.s3;rw[S]at g a a2;have HE:=ay (Zl (n:=8) (K:=6) (c:=c) (d:=b) (.inr ⟨rfl,rfl⟩) l hx hy D W6 (F1.keep Y) (o1.ls.keep Y));generalize qK:kX W x y 8 p (sW W H f x y)=BS at qa HE C;obtain⟨M,Sm⟩:=BS;generalize Df W x y 8 6 qp p (sW W H f x y)=E at HE C;simp only at HE C qa;obtain⟨qr,qs,qt,qu,qv,qw,qf⟩:=U2 (o1.ls.lt aj) k (R1.keep Y) (F1.keep Y) (o1.keep Y) T6 (J.trans (Y.mono J.size));clear S Q B0 R0 F0 HG T B1 R1 F1 Y T6 k o1 J;go_wp2_with fail;rw[←qq]at g a a2 ⊢;refine HE.mono ?_;rintro e w7 ⟨L7,l7,rfl,o7,z⟩;have T7:=qw.keep z;have h7:=z.size;have C7:Hid (pU w7 (R.heap.size+2) ({kind:=2,mode:=M,L:=aG L7 64 l7}:Sq) (.large M E)):=ay ⟨L7,l7,rfl,o7.lower aj⟩;obtain⟨qy,P,qL⟩:=dB (Qy (cost:=4*Sm+8) w7 T7 C7) z o7;clear T7 z o7 g a a2;go_wp2_with fail;refine qy.aQ ?_;rintro w8 ⟨T8,V⟩;have qM:=qf.size;have B8:=(qs.keep P).dH V aj;obtain⟨g,a,a2⟩:=B8.s3;have h8:=V.size;have F8:=(qu.keep P).dH V (fun q l=>by have:=(qo q l);omega);have O8:=(qv.keep P).dH V (fun q l=>by have:=(qr q l);omega);have H8:=eH (qf.trans (P.mono aj)) V aj (fun i hi=>aj);have R8:=(qt.keep P).dH V aj;obtain⟨HF,qz,qA,qB⟩:=jH (aeb (c:=c) (d:=b) l hx hy D w8 F8 O8.ls) T8 H8 R8;clear F8 O8 T8 V B8 H8 R8;go_wp2_with fail;refine HF.mono ?_;rintro e w9 ⟨S9,qg,rfl,O,o9⟩;have h9:=O.size;have T9:=qz.keep O;have C9:Hid (pU w9 (R.heap.size+2) (Og (mg W x y qp (sW W H f x y) p) S9 qg) (.small (mg W x y qp (sW W H f x y) p) (xZ W x y qp (sW W H f x y) p))):=ay ⟨S9,qg,rfl,fun i hi=>(o9 i hi).lower aj⟩;obtain⟨qk,qC,qD⟩:=dB (Qy (cost:=(jY W x y qp (sW W H f x y) p 4).2) w9 T9 C9) (qA.trans (O.mono aj)) (qB.keep O);clear T9 O o9 g a a2;go_wp2_with fail;refine qk.aQ ?_;rintro m ⟨qE,U⟩;obtain⟨ql,t⟩:=aV (eH qC U aj (fun i hi=>aj)) (qD.dH U aj);obtain⟨-,-,-,s,Z,I⟩:=qE;have qI:=ay Z;have qe:=Sq.cells_one I.one;have G:bQ (fun i=>i=w+3) m (m.setRow (w.heap.size+3) s.c):=Ai _ _ _;have X:=t.row s.c;obtain⟨qh,qi⟩:=aV (I.dH G (fun i hi=>aj)) (eH ql G (by have:=U.size;omega) (fun i hi=>aj));obtain⟨qN,F⟩:=kF (m.setRow (w.heap.size+3) s.c);rw[←F]at X qh qi;have qm:=ay F;obtain⟨e0,e1,e2,e3,e4,e5,e6,e7,e8,e9,qO,qP,qQ⟩:=Z.s13;obtain⟨x0,x1,x2,x3,x4,x5,x6,x7,x8,x9,qF,qG,qH⟩:=X.s13;clear X Z I G U F;go_wp2_with(refine wpList_store_rowTo rfl 367 (.tmp 16) (.tmp 105) rfl ?h1 ?h2 ?h3 ?h4 ?h5 ?h6 ?h7 ?h8 ?h9 ?h10 ?h11 ?h12;(case h1=>rfl);(case h2=>exact(w.heap.size+3));(case h3=>exact s.c);(case h4=>rfl);(case h5=>rfl);(case h6=>exact 367);(case h7=>exact({}:Sq).c);(case h8=>exact t);(case h9=>rfl);(case h10=>rfl);(case h11=>exact qe);rw[←qm]);exact aT (by simp[results,results272,go_sem,x0,x1,x2,x3,x4,x5,x6,x7,x8,x9,qF,qG,qH]) rfl ⟨s,rfl,by rw[C];exact qh.out.lower aj,qi.out⟩
theorem aa7{q:aO}(hr:r≤7)(hq:qp≤15)(hx:x+8≤W)(hy:y+8≤H)(w:aK)(hs:Fr w W H j A1 f)(hf:Fr w W H N A p)(hp:Fr w W H N2 A2 q):
  Calls prog 272 #[uf W H A1 j c1,uf W H A N c,uf W H A2 N2 c2,.bool false,x,y,qp,r] w
   fun e w'=>∃s:Sq,e=bM s.v∧pU w' w s (lG W H x y qp r (sW W H f x y) p q false)∧aP w w':=by
 have hW:=hf.wd.2;have hH:=hf.ht.2;have qh:Bd 0 255 (sW W H f x y):=Iw hs.bd;have qR:=ay (hf.ls.lt hf.pos);have qS:=Jb (W:=W) (x:=x) (y:=y) (n:=8) (.inr rfl) hf.bd qh;have zX:=He (W:=W) (x:=x) (y:=y) (qp:=qp) hf.bd qh 4 aj;have qT:=fun G F=>Ed (W:=W) (H:=H) (x:=x) (y:=y) (vx:=G) (vy:=F) hp.bd
 have qU:=Np (W:=W) (H:=H) (p:=q) (b:=sW W H f x y) (x:=x) (y:=y) hr;have qV:Hid (Bl (xY 6 qp (sW W H f x y) (gK W H q x y 0 0))=true→lG W H x y qp r (sW W H f x y) p q false= .ahead):=ay (fun hz=>by unfold lG;rw[au bn,aF hz]);have qv:=fun(hz:Bl (xY 6 qp (sW W H f x y) (gK W H q x y 0 0))=false)=>show lG W H x y qp r (sW W H f x y) p q false=FY W x y qp (sW W H f x y) p (wZ (.ahead,-1) (.moved (iZ W H q (sW W H f x y) x y r).vx (iZ W H q (sW W H f x y) x y r).vy (xY 6 qp (sW W H f x y) (gK W H q x y (iZ W H q (sW W H f x y) x y r).vx (iZ W H q (sW W H f x y) x y r).vy))) (ED (gK W H q x y (iZ W H q (sW W H f x y) x y r).vx (iZ W H q (sW W H f x y) x y r).vy) (sW W H f x y) (iZ W H q (sW W H f x y) x y r).vx (iZ W H q (sW W H f x y) x y r).vy)) by unfold lG;rw[au bn,au (by rw[hz];decide)]
 have ql:=La w (dA W H A1 j c1) (dA W H A N c) (dA W H A2 N2 c2) (.cells ({}:Sq).c 367)
 have B0:bF ((((w.alloc (dA W H A1 j c1)).alloc (dA W H A N c)).alloc (dA W H A2 N2 c2)).alloc (.cells ({}:Sq).c 367)) (w.heap.size+1) 90 #[W,H,aG A N c]:=
  ((bF.new1 w (dA W H A1 j c1) 90 #[W,H,aG A N c]).alloc (dA W H A2 N2 c2)).alloc (.cells ({}:Sq).c 367)
 have P0:bF ((((w.alloc (dA W H A1 j c1)).alloc (dA W H A N c)).alloc (dA W H A2 N2 c2)).alloc (.cells ({}:Sq).c 367)) (w.heap.size+2) 90 #[W,H,aG A2 N2 c2]:=by
  have h:=(bF.new ((w.alloc (dA W H A1 j c1)).alloc (dA W H A N c)) 90 #[W,H,aG A2 N2 c2]).alloc (.cells ({}:Sq).c 367);simpa using h
 have R0:bF ((((w.alloc (dA W H A1 j c1)).alloc (dA W H A N c)).alloc (dA W H A2 N2 c2)).alloc (.cells ({}:Sq).c 367)) (w.heap.size+3) 367 ({}:Sq).c:=by
  have h:=bF.new (((w.alloc (dA W H A1 j c1)).alloc (dA W H A N c)).alloc (dA W H A2 N2 c2)) 367 ({}:Sq).c;simpa using h
 have zn:((((w.alloc (dA W H A1 j c1)).alloc (dA W H A N c)).alloc (dA W H A2 N2 c2)).alloc (.cells ({}:Sq).c 367)).heap.size=w+4:=bK
 have F0:=hf.keep ql;have G0:=hp.keep ql;have HG:=ay (Zh (c:=c1) x y aj aj _ (hs.keep ql));obtain⟨W4,qD⟩:=kF ((((w.alloc (dA W H A1 j c1)).alloc (dA W H A N c)).alloc (dA W H A2 N2 c2)).alloc (.cells ({}:Sq).c 367));rw[←qD]at ql B0 P0 R0 zn HG F0 G0;change Hid _ at qD;clear hf hs hp;obtain⟨zu,qW⟩:=aV qU qT;clear qU qT;go_enter func272,ntmps272;go_wp2_with fail;rw[←qD];refine HG.mono ?_;rintro e m ⟨B,b,rfl,o1,k⟩;have qw:=ql.trans (k.mono aj);have qz:=k.size;obtain⟨W6,qi⟩:=kF ((m.alloc (.cells ({}:Sq).c 367)).alloc (aS #[aB (-1)] 3));have g:aP m W6:=by rw[qi];exact gU m _ _
 have s6:W6.heap.size=m+2:=by rw[qi];simp
 have zv:Hid (PI W6 (m.heap.size+1) m (m.heap.size+2) (.ahead,-1)):=by
  rw[qi];exact ay ⟨aj,aj,bF.new1 m (.cells ({}:Sq).c 367) 3 #[aB (-1)],{},(bF.new m 367 ({}:Sq).c).alloc _,rfl⟩
 have S6:bF W6 m 367 ({}:Sq).c:=by rw[qi];exact(bF.new m 367 ({}:Sq).c).alloc _
 obtain⟨zw,zx,qE,qX,zy,zA,qY,qq⟩:=GI qi ((B0.keep k).keep g) ((P0.keep k).keep g) ((R0.keep k).keep g) S6 ((F0.keep k).keep g) ((G0.keep k).keep g) (o1.keep g);obtain⟨a,qZ⟩:=aV (qw.trans (g.mono qw.size)) (o1.ls.lt aj);obtain⟨p0,p1,p2⟩:=qE.s3;obtain⟨HK,qH,qI,za⟩:=jH (fun(G F:Int) (qF: -15≤G∧G≤15) (qG: -15≤F∧F≤15) W' (hw:aP W6 W')=>Vy (c:=c2) (x:=x) (y:=y) aj aj qF qG W' (qY.keep hw)) (fun(l:aO) (hl:Bd 0 255 l) W' (hw:aP W6 W') Z z (hz:Ls W' Z 64 l)=>ad9 (K:=6) (c:=b) (d:=z) (qp:=qp) (.inr rfl) hq qh hl W' (qq.ls.keep hw) hz) (fun W' (hw:aP W6 W')=>afi (c:=c2) (d:=b) (x:=x) (y:=y) hx hy hr qh W' (qY.keep hw) (qq.ls.keep hw)) (fun(l:aO) (hl:Bd 0 255 l) (G F:Int) (qF: -15≤G∧G≤15) (qG: -15≤F∧F≤15) W' (hw:aP W6 W') Z z (hz:Ls W' Z 64 l)=>Zj (c:=z) (d:=b) qF qG hl qh W' hz (qq.ls.keep hw));rw[qi]at p0 p1 p2;clear qi ql B0 P0 R0 F0 G0 HG k g S6 o1 qw;go_wp2_with fail;rw[←zw]at p0 p1 p2 ⊢;refine(HK 0 0 aj aj W6 (aU _ _)).mono ?_;rintro e w7 ⟨Z,z,rfl,oz,t⟩;have zB:=qW 0 0;generalize gK W H q x y 0 0=Z0 at*;go_wp2_with fail;refine(qH Z0 zB w7 t Z z oz.ls).mono ?_;rintro e w8 ⟨L,l,rfl,ol,qJ⟩;generalize xY 6 qp (sW W H f x y) Z0=V0 at*;go_wp2_with fail;refine(Vu (c:=l) aj w8 ol.ls).aQ ?_;rintro w9 qa;have zC:=t.size;have zY:=qJ.size;have k9:=(t.trans (qJ.mono zC)).trans (qa.mono aj);have p0:=aC p0 k9;have p1:=aC p1 k9;have p2:=aC p2 k9;have zD:=k9.size;clear t qJ qa oz ol;cases hz:Bl V0
 ·have R:=qv hz
  unfold FY at R;generalize zZ:iZ W H q (sW W H f x y) x y r=VE at*;obtain⟨G,F,vc⟩:=VE;have hv:=zu.out;unfold uI at hv;simp only at hv R qI;have zb:=ay (qW G F);generalize hP:gK W H q x y G F=P at*;go_wp2_with fail;refine(qI w9 k9).aQ ?_;rintro S D;have p0:=aC p0 D;have p1:=aC p1 D;have p2:=aC p2 D;have zc:=k9.trans (D.mono zD);have Y:=D.size;obtain⟨qm,U⟩:=kF (S.alloc (Aj G F));have qe:aP S qm:=by rw[U];exact aJ S _
  have qA:bF qm S 364 #[G,F]:=by rw[U];exact bF.new S _ _
  have xa:qm.heap.size=S+1:=by rw[U];simp
  have qB:=zc.trans (qe.mono aj);have p0:=aC p0 qe;have p1:=aC p1 qe;have p2:=aC p2 qe;have v0:=qA.c0;have v1:=qA.c1;obtain⟨VV,qf⟩:=aV qA U;rw[U]at p0 p1 p2 v0 v1;clear D k9 zc U qA qe;go_wp2_with fail;rw[←qf]at p0 p1 p2 v0 v1 ⊢;refine(HK G F aj aj qm qB).mono ?_;rintro e zE ⟨X,xx,rfl,ox,u⟩;rw[hP]at ox;have v0:=aC v0 u;have v1:=aC v1 u;have zo:=qB.size;have qK:=qB.trans (u.mono zo);have zT:=u.size;go_wp2_with fail;refine(za P zb G F aj aj zE qK X xx ox.ls).aQ ?_;rintro qo Q;have v0:=aC v0 Q;have v1:=aC v1 Q;have qr:=qK.trans (Q.mono aj);have zU:=Q.size;obtain⟨OX,xc⟩:=aV (ox.keep Q) ((VV.keep u).keep Q);clear u Q qB qK ox p0 p1 p2;have hk:=aU qo qo;have qL:=qr.size;have ze:¬(S.heap.size=m+1∨S.heap.size=m):=aj
  generalize hV:xY 6 qp (sW W H f x y) P=V at R;generalize hC:ED P (sW W H f x y) G F=C at*;go_wp2_with fail
  go_region_held3(fun W'=>aN W' S 0 (aB G)∧aN W' S 1 (aB F))
   (first|exact⟨v0,v1⟩|exact⟨bG (aC v0 hk) o ze,bG (aC v1 hk) o ze⟩|exact⟨aC v0 hk,aC v1 hk⟩|fail)
   (first
     |(go_at_call 283;refine(qH P zb _ (qr.trans (hk.mono qL)).drew X xx (OX.ls.keep hk.drew)).mono ?_;rintro e zf ⟨zg,zh,rfl,zF,zq⟩;have hk:aP qo zf:=hk.drew.trans zq)
     |(go_at_call 281;refine(Qy (cost:=C) (ch:=.moved G F V) (s:={kind:=1,vx:=G,vy:=F,L:=.slice zg 64 zh}) zf (zv.keep (qr.trans (hk.mono qL))) ⟨zg,zh,rfl,hV▸zF.lower (by have h1:qo.drew.heap.size=qo:=rfl;omega)⟩).aQ ?_;rintro zG ⟨zi,o⟩)
     |fail)
  have qj:=qr.trans (hk.mono qL);have zV:=qj.size;have zW:=o.size;obtain⟨qC,zH,zj,zk,zI,zl⟩:=MP ((zx.keep qj).dH o aj) ((qX.keep qj).dH o aj) ((zA.keep qj).dH o (fun q hq=>by have:=(qR q hq);have:=a.size;omega)) ((qq.keep qj).dH o (fun q hq=>by have:=(qZ q hq);have:=(qq.row.lt q.block (by subst hq;rfl)).1;omega)) zi (eH (a.trans (qj.mono (by have:=a.size;omega))) o (by have:=a.size;omega) (fun i hi=>by have:=a.size;omega));obtain⟨a0,a1,a2⟩:=qC.s3;have HE:=ay (Zl (n:=8) (K:=6) (c:=c) (d:=b) (.inr ⟨rfl,rfl⟩) hq hx hy qh zG zj zk.ls);generalize xd:kX W x y 8 p (sW W H f x y)=BS at qS HE R;obtain⟨M,Sm⟩:=BS;generalize Df W x y 8 6 qp p (sW W H f x y)=E at HE R;simp only at HE R qS;have qM:=ay R;clear R qv zi o qj hk qr v0 v1 qH qI za HK;go_wp2_with fail
  skip
  refine HE.mono ?_;rintro e w7 ⟨L7,l7,rfl,o7,t⟩;have T7:=zI.keep t;have h7:=t.size;have C7:Hid (pU w7 (m.heap.size+2) ({kind:=2,mode:=M,L:=aG L7 64 l7}:Sq) (.large M E)):=ay ⟨L7,l7,rfl,o7.lower aj⟩;obtain⟨zJ,qs,xe⟩:=dB (Qy (cost:=4*Sm+8) w7 T7 C7) t o7;clear T7 t o7 a0 a1 a2;go_wp2_with fail;refine zJ.aQ ?_;rintro w8 ⟨T8,qk⟩;have xf:=zl.size;have B8:=(qC.keep qs).dH qk aj;obtain⟨a0,a1,a2⟩:=B8.s3;have h8:=qk.size;have F8:=(zj.keep qs).dH qk (fun q hq=>by have:=(qR q hq);omega);have O8:=(zk.keep qs).dH qk (fun q hq=>by have:=(qZ q hq);omega);have H8:=eH (zl.trans (qs.mono aj)) qk aj (fun i hi=>aj);have R8:=(zH.keep qs).dH qk aj;obtain⟨HF,zK,zL,zM⟩:=jH (aeb (c:=c) (d:=b) hq hx hy qh w8 F8 O8.ls) T8 H8 R8;clear F8 O8 T8 qk B8 H8 R8;go_wp2_with fail;refine HF.mono ?_;rintro e w9 ⟨S9,zm,rfl,qa,o9⟩;have h9:=qa.size;have T9:=zK.keep qa;have C9:Hid (pU w9 (m.heap.size+2) (Og (mg W x y qp (sW W H f x y) p) S9 zm) (.small (mg W x y qp (sW W H f x y) p) (xZ W x y qp (sW W H f x y) p))):=ay ⟨S9,zm,rfl,fun i hi=>(o9 i hi).lower aj⟩;obtain⟨zr,zN,zO⟩:=dB (Qy (cost:=(jY W x y qp (sW W H f x y) p 4).2) w9 T9 C9) (zL.trans (qa.mono aj)) (zM.keep qa);clear T9 qa o9 a0 a1 a2;go_wp2_with fail;refine zr.aQ ?_;rintro S ⟨zP,O⟩;obtain⟨qy,qg⟩:=aV (eH zN O aj (fun i hi=>aj)) (zO.dH O aj);obtain⟨-,-,-,s,Y,J⟩:=zP;have zt:=ay Y;have qz:=Sq.cells_one J.one;have I:bQ (fun i=>i=w+3) S (S.setRow (w.heap.size+3) s.c):=Ai _ _ _;have T:=qg.row s.c;obtain⟨qt,qu⟩:=aV (J.dH I (fun i hi=>aj)) (eH qy I (by have:=O.size;omega) (fun i hi=>aj));obtain⟨qm,U⟩:=kF (S.setRow (w.heap.size+3) s.c);rw[←U]at T qt qu;have qf:=ay U;obtain⟨e0,e1,e2,e3,e4,e5,e6,e7,e8,e9,zQ,zR,zS⟩:=Y.s13;obtain⟨x0,x1,x2,x3,x4,x5,x6,x7,x8,x9,qN,qO,qP⟩:=T.s13;clear T Y J I O U;go_wp2_with(refine wpList_store_rowTo rfl 367 (.tmp 16) (.tmp 105) rfl ?h1 ?h2 ?h3 ?h4 ?h5 ?h6 ?h7 ?h8 ?h9 ?h10 ?h11 ?h12;(case h1=>rfl);(case h2=>exact(w.heap.size+3));(case h3=>exact s.c);(case h4=>rfl);(case h5=>rfl);(case h6=>exact 367);(case h7=>exact({}:Sq).c);(case h8=>exact qg);(case h9=>rfl);(case h10=>rfl);(case h11=>exact qz);rw[←qf]);exact aT (by simp[results,results272,go_sem,x0,x1,x2,x3,x4,x5,x6,x7,x8,x9,qN,qO,qP]) rfl ⟨s,rfl,by rw[qM];exact qt.out.lower aj,qu.out⟩
 ·have qM:=ay (qV hz)
  clear qv qV;obtain⟨s,qQ⟩:∃s:Sq,s={}:=⟨_,rfl⟩;have Y:bF w9 m 367 s.c:=by rw[qQ];exact zy.keep k9
  have J:pU w9 (m.heap.size+2) s .ahead:=qQ;obtain⟨qy,qg⟩:=aV (a.trans (k9.mono (by have:=a.size;omega))) (qX.keep k9);have O:=bQ.refl (fun _=>False) w9;have xg:=a.size;clear p0 p1 p2 qQ;have zt:=ay Y;have qz:=Sq.cells_one J.one;have I:bQ (fun i=>i=w+3) w9 (w9.setRow (w.heap.size+3) s.c):=Ai _ _ _;have T:=qg.row s.c;obtain⟨qt,qu⟩:=aV (J.dH I (fun i hi=>aj)) (eH qy I (by have:=O.size;omega) (fun i hi=>aj));obtain⟨qm,U⟩:=kF (w9.setRow (w.heap.size+3) s.c);rw[←U]at T qt qu;have qf:=ay U;obtain⟨e0,e1,e2,e3,e4,e5,e6,e7,e8,e9,zQ,zR,zS⟩:=Y.s13;obtain⟨x0,x1,x2,x3,x4,x5,x6,x7,x8,x9,qN,qO,qP⟩:=T.s13;clear T Y J I O U;go_upto_region 6 with(fail)
  go_wp2_with(refine wpList_store_rowTo rfl 367 (.tmp 16) (.tmp 46) rfl rfl (w.heap.size+3) s.c rfl rfl 367 ({}:Sq).c qg rfl rfl qz ?_);rw[←qf];exact aT (by simp[results,results272,go_sem,x0,x1,x2,x3,x4,x5,x6,x7,x8,x9,qN,qO,qP]) rfl ⟨s,rfl,by rw[qM];exact qt.out.lower aj,qu.out⟩
theorem ahv(a:Addr)(w:aK):(Instr.typeAssert (.iface 360 (aY (some a))) 392 419 true).run prog w= .ok (eP #[aY none,.bool false]) w:=aW
theorem ahw(g:Nat)(w:aK):Calls prog 289 #[cdV g] w fun e Z=>e=bM (.bool false)∧w=Z:=by
 have Y:=ahv (aH g 0);go_enter func289,ntmps289;go_wp2;go_ret;exact sD
section
variable{base g ge c:Nat}{A:dK}{m:jD}
theorem bF.anL{go:Nat}(Z:bF w q 367 cs)(h:EO w base g ge A1 c1 m)(X:bQ (fun i=>i=g∨i=ge∨In A1 i∨i=go) w w')(Y:q≠go):bF w' q 367 cs:=by
 refine Z.dH X ?_;rintro(e|e|e|e)
 ·exact Z.apart h.blk bn e
 ·exact Z.apart h.enc.blk bn e
 ·exact h.enc.own.I7 Z bn e
 ·exact Y e
theorem Qz{q:Int}{d:Sq}{ks rest:List iH}(hS:d.kind=q)(a:q=k)(H:(key=false∧k≤3∧ks=Ey k)∨(key=true∧k=2∧ks=[.f false])∨(key=true∧k=3∧ks=[.f true]))(hm:m.ok)(hl:m.e.out.length≤400000)(w:aK)(qt:base≤w)(h:EO w base g ge A c m)
  (qa:∀O:aK,aP w O→Calls prog 290 #[.bool key,d.v] O (Val O iI))
  (hp:(dU m ks).ok→(dU m ks).e.out.length≤500000→∀(O:aK) (go:Nat) A' c',base≤O→bQ (fun i=>i=g∨i=ge∨In A i∨w≤i) w O→EO O base g ge A' c' (dU m ks)→bF O go 367 ({kind:=q}:Sq).c→
    Calls prog 292 #[cdV g,d.v,aY go] O fun e w2=>e=bM iI∧wJ O base g ge A' (dU (dU m ks) rest) go q w2):
  Calls prog 273 #[cdV g,.bool key,d.v] w fun e O=>∃s:Sq,e=bM (eP #[s.v,iI])∧jE w base g ge A (dU m (ks++rest)) O:=by
 obtain⟨Y,vx,vy,Q,m0,m1,m2,m3,L,s0,s1,s2,s3⟩:=d;obtain rfl:Y=q:=hS;have J:=gU w (aS (Sq.c ⟨Y,vx,vy,Q,m0,m1,m2,m3,L,s0,s1,s2,s3⟩) 367) (.cells ({}:Sq).c 367);have hB:=(bF.new w 367 (Sq.c ⟨Y,vx,vy,Q,m0,m1,m2,m3,L,s0,s1,s2,s3⟩)).alloc (.cells ({}:Sq).c 367);have hR:=bF.new1 w (aS (Sq.c ⟨Y,vx,vy,Q,m0,m1,m2,m3,L,s0,s1,s2,s3⟩) 367) 367 ({}:Sq).c;obtain⟨t,E⟩:∃t:aK,t=(w.alloc (aS (Sq.c ⟨Y,vx,vy,Q,m0,m1,m2,m3,L,s0,s1,s2,s3⟩) 367)).alloc (.cells ({}:Sq).c 367):=⟨_,rfl⟩;have qu:t.heap.size=w+2:=by rw[E];simp
 rw[←E]at J hB hR;have qi:=ay (qa t J)
 have r:(dU m ks).ok∧(dU m ks).e.out.length≤500000:=by
  have hf:dM ks∧fE ks≤6:=by
   rcases H with⟨-,h1,rfl⟩|⟨-,-,rfl⟩|⟨-,-,rfl⟩
   ·exact⟨Fe h1,DC h1⟩
   ·exact⟨dM.f1 _,bn⟩
   ·exact⟨dM.f1 _,bn⟩
  have:=lI hm hf.1;exact⟨this.1,by have:=this.2;omega⟩
 obtain⟨HP,HM,R,HR,HH,N,qj,P⟩:=GI (hp r.1 r.2) hm hB hR (h.keep J) J E H;have l:=ay a;clear a hm hB hR J E h r H qa hp;go_enter func273,ntmps273;go_wp2_with fail;rw[←qj.out];refine(ahw g t).mono ?_;rintro e O ⟨rfl,rfl⟩;obtain⟨e0,e1,e2,e3,e4,e5,e6,e7,e8,e9,D,C,B⟩:=R.out.s13;go_wp2_with fail;refine qi.out.mono ?_;rintro e W ⟨rfl,o⟩;have qk:=o.size;obtain⟨x,M⟩:∃x:aK,x=W.alloc (.cells ({}:Sq).c 367):=⟨_,rfl⟩;have z:aP t x:=by rw[M];exact o.trans ((aJ W _).mono qk)
 have g3:bF x W 367 ({}:Sq).c:=by rw[M];exact bF.new W _ _
 have qv:x.heap.size=W+1:=by rw[M];simp
 have y0:=aC e0 z;obtain⟨G3,X,n⟩:=dB g3 z M;have K:=HH.vI.keep z;rw[M]at y0;clear o z M g3 e0 e1 e2 e3 e4 e5 e6 e7 e8 e9 D C B;rcases P.out with⟨rfl,h1,rfl⟩|⟨rfl,rfl,rfl⟩|⟨rfl,rfl,rfl⟩
 focus(
  have HK:=ay (ajN h1 HM.vI aj x aj K);obtain rfl:=l.out;obtain⟨v,u⟩:∃v:Int,v=k:=⟨_,rfl⟩;have HV:=ay u;clear h1 K P l u;go_wp2_with fail;rw[←n.out]at y0 ⊢;refine HK.vI.mono ?_;rintro e w4 ⟨rfl,S⟩)
 rotate_left
 focus(
  have HK:=ay (EC (b:=false) HM.vI aj x aj K);have mF:=aa0 (aH g 0);obtain rfl:Y=2:=l.out;obtain⟨v,u⟩:∃v:Int,v=2:=⟨_,rfl⟩;have HV:=ay u;clear K P l u;go_wp2_with fail;rw[←n.out]at y0 ⊢;refine HK.vI.mono ?_;rintro e w4 ⟨rfl,S⟩)
 rotate_left
 focus(
  have HK:=ay (EC (b:=true) HM.vI aj x aj K);have mF:=aa0 (aH g 0);obtain rfl:Y=3:=l.out;obtain⟨v,u⟩:∃v:Int,v=3:=⟨_,rfl⟩;have HV:=ay u;clear K P l u;go_wp2_with fail;rw[←n]at y0 ⊢;refine HK.aQ ?_;rintro w4 S)
 rotate_left
 all_goals(
  have I:=HH.keep X;have g4:=G3.tH I S bn bn bn;have b4:=(R.keep X).tH I S bn bn bn;have r4:=(HR.keep X).tH I S bn bn bn;have d0:=g4.c0;have f0:=g4.frozen 0;obtain⟨A5,c5,p1,p2,p3⟩:=jE.stored I G3 S 0 v;have V:=b4.far (p:=(aH W 0)) (aj:w.heap.size≠W) v;have r5:=r4.far (p:=(aH W 0)) (aj:w.heap.size+1≠W.heap.size) v;have g5:bF (w4.setCell ⟨W,0,none⟩ v) W 367 ({kind:=v}:Sq).c:=g4.store 0 v;obtain⟨W5,y⟩:∃W5:aK,W5=w4.setCell ⟨W,0,none⟩ v:=⟨_,rfl⟩;rw[←y]at p1 p2 V r5 g5;have qw:=p2.size;have q1:=((bQ.of_below N).trans (bQ.of_below X)).step p2 (T:=fun i=>i=g∨i=ge∨In A i∨i=W) (fun _ _ h=>h);have hz:=N.size;have ql:=X.size;obtain rfl:=HV;obtain⟨qm,Q1,P1,P2,P3,R5,qo⟩:=U2 (HP W5 W A5 c5 aj (q1.mono (fun i _ h=>h.imp_right (.imp_right (.imp_right fun e=>aj)))) p1 g5) q1 p1 p2 p3 r5 y;obtain⟨e0,e1,e2,e3,e4,e5,e6,e7,e8,e9,D,C,B⟩:=V.s13;rw[y]at e0 e1 e2 e3 e4 e5 e6 e7 e8 e9 D C B;clear I g4 b4 r4 V r5 g5 p1 p2 p3 y S y0 q1 hz ql;go_wp2_with fail;rw[←qo];refine qm.aQ ?_;rintro w6 hp;obtain⟨s,-,qe,Z,A7,c7,t1,t2,t3⟩:=hp;have qg:=Sq.cells_one qe;have j:=R5.anL P1 t2 (aj:w.heap.size+1≠W.heap.size);have R6:=ay j
  have q2:bQ (fun i=>i=g∨i=ge∨In A i∨i=W) w w6:=Q1.step t2 (fun q a h=>by
   rcases h with h|h|h|h
   ·exact .inl h
   ·exact .inr (.inl h)
   ·rcases P3 q h with h|h
    ·exact .inr (.inr (.inl h))
    ·have:=N.size;have:=X.size;omega
   ·exact .inr (.inr (.inr h)))
  have q3:∀q,In A7 q→In A q∨w≤q:=fun q a=>by
   rcases t3 q a with h|h
   ·rcases P3 q h with h|h
    ·exact .inl h
    ·have:=N.size;have:=X.size;exact .inr aj
   ·have:=N.size;have:=X.size;exact .inr aj
  have qy:=q2.size;have G:bQ (fun i=>i=w+1) w6 (w6.setRow (w.heap.size+1) s.c):=Ai _ _ _;have U:=j.row s.c
  have HO:=ay (show jE w base g ge A (dU m (_++rest)) (w6.setRow (w.heap.size+1) s.c) by
   rw[fM]
   refine⟨A7,c7,t1.dH G ?_ ?_ ?_,(q2.mono (T:=fun i=>i=g∨i=ge∨In A i) (fun i hi h=>by
    rcases h with h|h|h|h
    ·exact .inl h
    ·exact .inr (.inl h)
    ·exact .inr (.inr h)
    ·have:=N.size;omega)).step G (fun i hi e=>aj),q3⟩
   ·intro e;exact j.apart t1.blk bn e.symm
   ·intro e;exact j.apart t1.enc.blk bn e.symm
   ·intro i hi e;subst e;exact t1.enc.own.I7 j bn hi)
  obtain⟨qf,F⟩:∃qf:aK,qf=w6.setRow (w.heap.size+1) s.c:=⟨_,rfl⟩;rw[←F]at U HO;have qh:=ay F;obtain⟨k0,k1,k2,k3,k4,k5,k6,k7,k8,k9,qz,qA,qB⟩:=Z.s13;obtain⟨x0,x1,x2,x3,x4,x5,x6,x7,x8,x9,qq,qr,qs⟩:=U.s13;clear U Z G F t1 t2 t3 q2 q3 j qe e0 e1 e2 e3 e4 e5 e6 e7 e8 e9 D C B;go_upto_region 20 with(fail)
  go_wp2_with(refine wpList_store_rowTo rfl 367 (.tmp 6) (.tmp 57) rfl rfl (w.heap.size+1) s.c rfl rfl 367 ({}:Sq).c R6 rfl rfl qg ?_);rw[←qh];exact aT (by simp[results,results273,go_sem,x0,x1,x2,x3,x4,x5,x6,x7,x8,x9,qq,qr,qs]) rfl ⟨s,rfl,HO⟩)
end
section
variable{base g ge c:Nat}{A:dK}{m:jD}
theorem Own.alI{b:Nat}(Z:Own w b B n d l)(h:EO w base g ge A c m)(X:bQ (fun i=>i=g∨i=ge∨In A i∨w≤i) w w'):Own w' b B n d l:=by
 refine⟨Z.len,mO Z.row X fun i Y=>?_⟩;rintro(e|e|⟨p,rfl,e⟩|e)
 ·subst e;exact dP Z.row h.blk bn Y
 ·subst e;exact dP Z.row h.enc.blk bn Y
 ·exact EZ Z.row h.enc.own.row bn i Y (by simp[Value.ownBlock,e])
 ·have:=(Z.row.lt i Y).2;omega
theorem ahx{b:Nat}{s:Sq}{ch:tC}(Q:ch.good key)(J:m.ok)(I:m.e.out.length≤400000)(w:aK)(U:base≤w)(V:pU w b s ch)(h:EO w base g ge A c m):
  Calls prog 273 #[cdV g,.bool key,s.v] w fun e Z=>∃s:Sq,e=bM (eP #[s.v,iI])∧jE w base g ge A (dU m (EF key ch)) Z:=by
 cases ch with
 |ahead=>
  obtain rfl:key=false:=Q;obtain rfl:=V;have:=Qz (k:=0) (rest:=[]) rfl rfl (.inl ⟨rfl,aj,rfl⟩) J I w U h (fun Z _=>afm Z) (fun _ _ Z G F E _ _ k Y=>afq Z k Y);rw[gI]at this;exact this
 |moved x u l=>
  obtain⟨rfl,z,y,C,W⟩:=Q;obtain⟨L,d,rfl,T⟩:=V;exact Qz (k:=1) rfl rfl (.inl ⟨rfl,aj,rfl⟩) J I w U h (fun Z P=>afn z y W Z (T.keep P).ls) (fun O N Z G F E V M k Y=>afs z y W O N Z V (T.alI h M) k Y)
 |large R l=>
  obtain⟨B,C,W⟩:=Q;obtain⟨L,d,rfl,T⟩:=V;obtain⟨k,rfl⟩:∃k:Nat,R=(k:Int):=⟨R.toNat,aj⟩;have H:=fun K D=>Qz (k:=2) (key:=key) (ks:=K) rfl rfl D J I w U h (fun Z P=>afo B W Z (T.keep P).ls) (fun O N Z G F E V M k Y=>afr aj W O N Z V (T.alI h M) k Y)
  cases key
  ·exact H _ (.inl ⟨rfl,aj,rfl⟩)
  ·exact H _ (.inr (.inl ⟨rfl,rfl,rfl⟩))
 |small t r=>
  obtain⟨S,q,rfl,T⟩:=V;have H:=fun K D=>Qz (k:=3) (key:=key) (ks:=K) rfl rfl D J I w U h (fun Z P=>afp (fun i X=>(Q i X).1) (fun i X=>(Q i X).2.2) Z (fun i X=>((T i X).keep P).ls)) (fun O N Z G F E V M k Y=>aft (fun i X=>(Q i X).1) (fun i X=>(Q i X).2.2) O N Z V (fun i X=>(T i X).alI h M) k Y)
  cases key
  ·exact H _ (.inl ⟨rfl,aj,rfl⟩)
  ·exact H _ (.inr (.inr ⟨rfl,rfl,rfl⟩))
end
theorem ajO{bs:Nat}{q:aO}{s:Sq}{ch:tC}(U:ch.good key)(Q:qp≤15)(hx:x+8≤W)(hy:y+8≤H)(w:aK)(T:pU w bs s ch)(E:g<bs)
  (R:Jr w base W H N g c p) (Z:key=false→W2=W∧H2=H∧Fr w W H N2 A2 q):
  Calls prog 274 #[uf W H g N c,uf W2 H2 A2 N2 c2,x,y,qp,s.v] w
   fun e I=>e=bM (eP #[])∧Jr I base W H N g c (Oi W H x y qp p q ch)∧bQ (fun i=>i=g) w I:=by
 cases ch with
 |ahead=>
  obtain⟨rfl,rfl,Z⟩:=Z U;have P:=T;subst P;exact ahn hx hy w R Z
 |moved D C l=>
  obtain⟨F,O,M,K,X⟩:=U;obtain⟨rfl,rfl,Z⟩:=Z F;obtain⟨L,d,rfl,V⟩:=T;exact aho Q O M X hx hy w R Z V.ls
 |large G l=>
  obtain⟨J,K,X⟩:=U;obtain⟨L,d,rfl,V⟩:=T;exact ahm Q J hx hy X w R V.ls
 |small B A=>
  obtain⟨S,z,rfl,V⟩:=T
  exact ahp Q (fun i Y=>(U i Y).1) hx hy (fun i Y=>(U i Y).2.2) w R (fun i Y=>(V i Y).ls) (fun i Y r Z e=>by
   have:=((V i Y).row.lt r.block (by rw[Z];rfl)).1;omega)
theorem acY{q:aO}(S:r≤7)(R:qp≤15)(hx:x+8≤W)(hy:y+8≤H)(w:aK)(X:Fr w W H i A1 f)(V:Fr w W H N A p)(Z:key=false→W2=W∧H2=H∧Fr w W H N2 A2 q):
  Calls prog 272 #[uf W H A1 i c1,uf W H A N c,uf W2 H2 A2 N2 c2,.bool key,x,y,qp,r] w
   fun e Y=>∃s:Sq,e=bM s.v∧pU Y w s (lG W H x y qp r (sW W H f x y) p q key)∧(lG W H x y qp r (sW W H f x y) p q key).good key∧aP w Y:=by
 have Q:=L8 (W:=W) (H:=H) (x:=x) (y:=y) (qp:=qp) (r:=r) (b:=sW W H f x y) (p:=p) (q:=q) (key:=key) S (Iw X.bd) V.bd (fun h=>(Z h).2.2.bd);cases key with
 |true=>
  refine(acX (q:=q) (r:=r) R hx hy w X V).mono ?_;rintro e Y ⟨s,rfl,U,T⟩;exact⟨s,rfl,U,Q,T⟩
 |false=>
  obtain⟨rfl,rfl,Z⟩:=Z rfl;refine(aa7 S R hx hy w X V Z).mono ?_;rintro e Y ⟨s,rfl,U,T⟩;exact⟨s,rfl,U,Q,T⟩
theorem afu{v:Int}(h:0≤v∧v≤255)(w:aK):Calls prog 217 #[v] w (Val w (.bool true)):=by
 go_enter func217,ntmps217;go_wp2;go_ret;exact⟨rfl,aU _ _⟩
theorem aee(h:yu n=true)(w:aK):Calls prog 216 #[n] w (Val w (.bool true)):=by
 refine(GL n w).mono ?_;rw[h];rintro e Z ⟨rfl,rfl⟩;exact⟨rfl,aU _ _⟩
def AX(n:Nat)(v:Int):aO:=jK n fun _=>v
theorem acZ{v:Int}(x:yu W=true)(u:yu H=true)(f:0≤v∧v≤255)(w:aK):
  Calls prog 153 #[aB W,aB H,aB v] w fun e V=>∃g,e=bM (eP #[uf W H (some (aH g 0)) (W*H) (W*H),iI])∧w≤g∧Jr V w W H (W*H) g (W*H) (AX (W*H) v)∧aP w V:=by
 have h1:=GN x;have h2:=GN u;have m:1≤W*H∧W*H≤1024:=⟨Nat.mul_pos aj aj,fC (by omega:W≤32) (by omega:H≤32)⟩
 have G:∀V Q g,Own V Q (some (aH g 0)) (W*H) (W*H) (AX (W*H) v)→Jr V Q W H (W*H) g (W*H) (AX (W*H) v):=fun V Q g ho=>by
  refine⟨aj,aj,rfl,?_,ho⟩;unfold GK;rw[x,u,(oG 0 255 (AX (W*H) v)).2 (lK fun _ _=>f),AX,fB];simp
 obtain⟨F,S1,S2,S3⟩:=jH G (fun V=>aee x V) (fun V=>aee u V) (fun V=>afu f V);obtain⟨N,s⟩:∃N,W*H=N:=⟨_,rfl⟩;have e1:(W:Int)*H=(N:Int):=by rw[←s];simp
 rw[s]at m F ⊢;have e2:IntKind.i64.wrap (N:Int)=N:=iE _ aj;unfold AX at*;clear x u s G;have l:=aJ w (dA 0 0 none 0 0);obtain⟨HR,HB⟩:=aV (bF.new w 90 #[aB 0,aB 0,bU]) l;go_enter func153,ntmps153;go_wp2_with fail;refine(S1 _).aQ ?_;rintro w1 L;go_wp2_with fail;refine(S2 _).aQ ?_;rintro w2 U;have U:=L.trans (U.mono L.size);go_wp2_with fail;refine(S3 _).aQ ?_;rintro Y T;have T:=U.trans (T.mono U.size);have E:=T.size;have d:w.heap.size+1≤Y.heap.size:=by simpa using E
 change Hid _ at T;clear L U E;go_wp2_with(at_make;refine aaL rfl _ _ rfl rfl rfl rfl aj ?_;intro t P D);have K:=aJ t (dA W H Y N N);have y:=P.keep K;have qa:Y.heap.size<t:=(P.row.lt Y rfl).2;obtain⟨C,A⟩:=aV (bF.new t 90 #[W,H,aG Y N N]) (T.trans ((D.trans (K.mono aj)).mono jy));have r:=C.c2;clear P D K;go_wp2;clear r
 go_loopg [9,35] N (fun k v9 vi wr=>∃i:Nat,i+k=N∧vi=i∧Own wr Y Y N N (rV N (fun _=>v) (fun _=>0) i)∧bQ (fun i=>i=Y) (t.alloc (dA W H Y N N)) wr)
 case atStart=>exact⟨0,aj,rfl,by rw[Dv];exact y,bQ.refl _ _⟩
 case round=>
  obtain⟨i,hi,rfl,own,S⟩:=hrel;have R:=C.dH S aj
  by_cases J:i<N
  ·have c:(i:Int)<(N:Int):=aj
   have r:=R.c2;obtain⟨g',z,_,a,O,M⟩:=own.form aj;obtain rfl:Y=g':=by injection z with e;injection e
   have f1:=M i;have k4:=O i J;rw[GU _ _ J (bC i)]at k4;obtain⟨X,o,h⟩:=dB (Dx (fun _=>v) (fun _=>0) J) (own.store i v) (S.setCell (p:=(aH Y i)) (fun _=>rfl) v);clear own O M z R;go_wp2;go_roundg(gk-1)
   case measure=>omega
   case rel=>exact⟨i+1,aj,fA,by rw[X.out];exact o,h⟩
  ·obtain rfl:i=N:=aj
   rw[E8]at own;obtain⟨c0,c1,r⟩:=R.s3;have Z:=(HR.keep A).dH S aj;obtain⟨y0,y1,y2⟩:=Z.s3;have f0:=Z.frozen 0;have f1:=Z.frozen 1;have f2:=Z.frozen 2;have X:=((Z.store 0 W).store 1 H).store 2 (aG Y i i);have I:=(((bQ.refl (fun j=>j=w) wr).setCell (p:=(aH w 0)) (fun _=>rfl) W).setCell (p:=(aH w 1)) (fun _=>rfl) H).setCell (p:=(aH w 2)) (fun _=>rfl) (aG Y i i);obtain⟨o,HE⟩:=aV ((own.dH I (fun q n=>by injection n with n;subst n;simp;omega)).lower (b:=w.heap.size) aj) (eH (B:=w.heap.size) ((HB.trans (A.mono bK)).trans (S.below (B:=w.heap.size) jy (fun j hj=>aj))) I (by have:=S.size;simp at this;omega) (fun j hj=>aj));have x0:=(X.cell 0).trans (show _=some (aB W)from rfl);have x1:=(X.cell 1).trans (show _=some (aB H)from rfl);have x2:=(X.cell 2).trans (show _=some (aG Y i i)from rfl);clear X I Z own;go_wp2;exact aT (by simp[results,results153,go_sem,x0,x1,x2]) rfl ⟨_,rfl,aj,F.out _ _ _ o.out,HE.vI⟩
section
variable(W H qp r:Nat)(key:Bool)(f q:aO)
def Ee(x y:Nat)(st:jD × aO):jD × aO:=
 (dU st.1 (EF key (lG W H x y qp r (sW W H f x y) st.2 q key)),Oi W H x y qp st.2 q (lG W H x y qp r (sW W H f x y) st.2 q key))
def yc(y:Nat)(st:jD × aO):Nat→jD × aO
 |0=>st
 |k+1=>Ee W H qp r key f q (8*k) y (yc y st k)
def xu:Nat→jD × aO
 |0=>({},AX (W*H) 128)
 |k+1=>yc W H qp r key f q (8*k) (xu k) (W/8)
def yI:aO:=(qp:Int)::uP (xu W H qp r key f q (H/8)).1.e
def Ef:aO:=(xu W H qp r key f q (H/8)).2
end
theorem Yl:({}:jD).ok:=⟨fB _ _,lK fun _ _=>aj,⟨(fun v Z=>absurd Z kS),by show(0:Int)≤0;omega,by show(0:Int)≤4294967295;omega,by show(16777216:Int)≤4294967295;omega,by show(4294967295:Int)≤4294967295;omega⟩⟩
theorem Ym{q:aO}{st:jD × aO}(h:st.1.ok)(Z:(lG W H x y qp r (sW W H f x y) st.2 q key).good key):
  (Ee W H qp r key f q x y st).1.ok∧(Ee W H qp r key f q x y st).1.e.out.length≤st.1.e.out+3850:=by
 have Y:=lI h (aa6 Z);have X:=Zp Z;exact⟨Y.1,by have V:=Y.2;show(dU _ _).e.out.length≤_;omega⟩
theorem ac0(S:qp≤15)(R:r≤7)(w:aK)(U:Fr w W H n A p):
  Calls prog 270 #[uf W H A n c,uf W2 H2 B i c2,.bool true,qp,r] w (Val w iI):=by
 have X:=gU w (dA W H A n c) (dA W2 H2 B i c2);obtain⟨T,V⟩:=aV (FI (c:=c) (U.keep X)) X;go_enter func270,ntmps270;go_wp2_with fail;refine T.aQ ?_;rintro Q Z;have Y:=ay (V.trans (Z.mono V.size));go_wp2;go_ret;exact⟨rfl,Y⟩
theorem aa8{q:aO}(C:qp≤15)(z:r≤7)(w:aK)(O:Fr w W H n A p)(N:Fr w W H i B q):
  Calls prog 270 #[uf W H A n c,uf W H B i c2,.bool false,qp,r] w (Val w iI):=by
 have V:=gU w (dA W H A n c) (dA W H B i c2);obtain⟨M,L,Q,P⟩:=jH (FI (c:=c) (O.keep V)) (fun U (T:Below ((w.alloc (dA W H A n c)).alloc (dA W H B i c2)) ((w.alloc (dA W H A n c)).alloc (dA W H B i c2)) U)=>FI (c:=c2) ((N.keep V).keep T)) (fun U (T:Below ((w.alloc (dA W H A n c)).alloc (dA W H B i c2)) ((w.alloc (dA W H A n c)).alloc (dA W H B i c2)) U)=>I8 T) V;go_enter func270,ntmps270;go_wp2_with fail;refine M.aQ ?_;rintro K Y;have Z:=ay Y;obtain⟨⟨J,I,G⟩,F,E,b2⟩:=Q K Y;go_wp2_with fail;refine(L _ Z).aQ ?_;rintro D S;have X:=ay (Z.trans (S.mono Z.size));obtain⟨⟨J,I,G⟩,F,E,b2⟩:=Q D X;have R:=ay (P.trans (X.mono P.size));go_wp2;go_ret;exact⟨rfl,R⟩
abbrev Xe(l:aO):Array cO:=(l.map (Value.int .i64)).toArray
theorem ahy(w:aK):Calls prog 279 #[] w (Val w (.agg (Xe (jK 64 fun _=>1024)))):=by
 have Q:=gU w (aS (Xe (jK 64 fun _=>0)) 375) (aS (Xe (jK 64 fun _=>0)) 375);have P:=(bF.new w 375 (Xe (jK 64 fun _=>0))).alloc (aS (Xe (jK 64 fun _=>0)) 375);have O:=bF.new1 w (aS (Xe (jK 64 fun _=>0)) 375) 375 (Xe (jK 64 fun _=>0));obtain⟨I,X⟩:=kF ((w.alloc (aS (Xe (jK 64 fun _=>0)) 375)).alloc (aS (Xe (jK 64 fun _=>0)) 375));rw[←X]at Q P O;obtain⟨N,H,G,R⟩:=jH Q P O X;go_enter func279,ntmps279;go_wp2;change Code.wp _ _ _ _ ((w.alloc (aS (Xe (jK 64 fun _=>0)) 375)).alloc (aS (Xe (jK 64 fun _=>0)) 375));rw[←R]
 go_loopg [2,3] (64:Nat) (fun k A F wr=>∃i:Nat,i+k=64∧F=i∧bF wr (w.heap.size+1) 375 (Xe (rV 64 (fun _=>1024) (fun _=>0) i))∧bQ (fun i=>i=w+1) I wr)
 case atStart=>exact⟨0,aj,rfl,by rw[Dv];exact G,bQ.refl _ _⟩
 case round=>
  obtain⟨i,M,rfl,Z,W⟩:=hrel
  by_cases Y:i<64
  ·have J:(i:Int)<64:=aj
   have L:(rV 64 (fun _=>(1024:Int)) (fun _=>0) i).length=64:=DT _ _ _ _
   have z:wr.cell? (aH (w.heap.size+1) i)=some (aB 0):=by
    rw[Z.cell];simp only[Xe,oC,gX];have:=GU (fun _=>(1024:Int)) (fun _=>0) Y (bC i);rw[dG,fP (by rw[L];exact Y)]at this;rw[fP (by rw[L];exact Y)];simp only[jV]at this;simp only[Option.map_some,this]
   have y:=Z.frozen i;have V:=Z.store i (aB 1024)
   have e:(Xe (rV 64 (fun _=>1024) (fun _=>0) i)).setIfInBounds i (aB 1024)=Xe (rV 64 (fun _=>1024) (fun _=>0) (i+1)):=by
    rw[Dx _ _ Y];apply Array.ext';simp only[Xe,oh,List.map_set]
   rw[e]at V;obtain⟨E,S⟩:=aV V (W.setCell (p:=(aH (w.heap.size+1) i)) (fun _=>rfl) (aB 1024));go_wp2;go_roundg(gk-1)
   case measure=>omega
   case rel=>exact⟨i+1,aj,fA,E,S⟩
  ·obtain rfl:i=64:=aj
   rw[E8]at Z;obtain⟨D,S⟩:=aV Z W;have K:=H.dH S aj;have C:=ay K;have T:(Xe (jK 64 fun _=>1024)).all (·.oneCell')=true:=by decide+kernel
   obtain⟨B,U⟩:=aV (K.row (Xe (jK 64 fun _=>1024))) ((eH N S (by have:=N.size;omega) (fun i M=>aj)));go_upto_region 7 with(fail)
   go_wp2_with(first
    |(refine wpList_load_row rfl 375 (.tmp 1) rfl (w.heap.size+1) rfl 375 (Xe (jK 64 fun _=>1024)) (0,0) _ D underlying375 rfl rfl ?_)
    |(refine wpList_store_rowTo rfl 375 (.tmp 0) (.tmp 9) rfl rfl w (Xe (jK 64 fun _=>1024)) rfl rfl 375 (Xe (jK 64 fun _=>0)) C rfl rfl T ?_))
   refine aT (results_cell_row rfl _ _ w 375 (Xe (jK 64 fun _=>1024)) (0,0) _ rfl B underlying375 rfl rfl) rfl ⟨rfl,eH U (Ai _ _ _) (by have:=U.size;omega) (fun i M=>aj)⟩
theorem afv(w:aK):Calls prog 280 #[] w fun e Z=>e=bM (aY w)∧EN Z w w none 0 {}∧aP w Z:=by
 obtain⟨Y,X⟩:=aV (aJ w (aS #[bU,.int .u64 0,.int .u64 4294967295] 402)) (bF.new w 402 #[bU,.int .u64 0,.int .u64 4294967295]);go_enter func280,ntmps280;go_wp2;go_ret;exact⟨rfl,⟨X.out,OwnB.nil _ _ []⟩,Y.out⟩
theorem Zq(w:aK):Calls prog 271 #[] w fun e N=>∃g X,e=bM (BG g)∧w.heap.size≤g∧w.heap.size≤X∧EO N w g X none 0 {}∧aP w N:=by
 have K:=ay (ahy w);have Q:(jK 64 (fun _=>(1024:Int))).length=64:=fB _ _;have P:=ay (fun X:Nat=>show((List.foldl (fun(S:Array cO) (x:cO × Nat)=>S.setIfInBounds x.snd x.fst) Tryz.zeroCells380 ((jK 64 (fun _=>(1024:Int))).map (Value.int .i64)).zipIdx).setIfInBounds 64 (aY X))=Ip {} X by kernel_rfl);have G:(List.foldl (fun(S:Array cO) (x:cO × Nat)=>S.setIfInBounds x.snd x.fst) Tryz.zeroCells380 ((jK 64 (fun _=>(1024:Int))).map (Value.int .i64)).zipIdx).size=65:=aW
 generalize J:jK 64 (fun _=>(1024:Int))=M at*;go_enter func271,ntmps271;go_wp2_with fail;refine K.aQ ?_;rintro T Z;go_wp2_with fail;refine(afv T).aQ ?_;rintro R ⟨I,O⟩;obtain⟨L,W,V⟩:=dB I (Z.trans (O.mono Z.size)) Z.size;go_wp2;subst J;have H:=bF.new R 380 (Ip {} T.heap.size);have Y:=aJ R (aS (Ip {} T.heap.size) 380);rw[P];have U:=W.size;go_ret;refine⟨R,T.heap.size,rfl,U,V,⟨Q,H,?_⟩,W.trans (Y.mono U)⟩;exact⟨L.blk.keep Y,(L.own.keep Y).lower V⟩
theorem ahz{k:Int}(Z:k=1∨k=2)(w:aK):Calls prog 277 #[k] w fun e Y=>e=bM (.bool true)∧w=Y:=by
 rcases Z with rfl|rfl
 all_goals(
  go_enter func277,ntmps277;go_wp2;go_ret;exact sD)
theorem Zt{k:Int}(Z:k=1∨k=2)(w:aK):Calls prog 278 #[k] w fun e Y=>e=bM (.bool false)∧w=Y:=by
 rcases Z with rfl|rfl
 all_goals(
  go_enter func278,ntmps278;go_wp2;go_ret;exact sD)
theorem aef{k qp:Int}(H:k=1∨k=2)(q:0≤qp∧qp≤15)(hn:n<65536)(w:aK)(o:Lb w A n l):
  Calls prog 275 #[.agg #[k,qp,aG A n c]] w
   fun e m=>∃B b,e=bM (eP #[.agg #[k,aG B (1+n) b],iI])∧OwnB m w B (1+n) b (qp::l)∧aP w m:=by
 have G:=gU w (aS #[k,qp,aG A n c] 348) (aS #[aB 0,bU] 257);obtain⟨j,J⟩:=aV (o.keep G) (show(n:Int)<65536 by omega);change Hid _ at G hn H;clear o;have M:=(bF.new w 348 #[k,qp,aG A n c]).alloc (aS #[aB 0,bU] 257);have E:=bF.new1 w (aS #[k,qp,aG A n c] 348) 257 #[aB 0,bU];obtain⟨X,T⟩:=kF ((w.alloc (aS #[k,qp,aG A n c] 348)).alloc (aS #[aB 0,bU] 257));rw[←T]at M E j G;obtain⟨h,g,f⟩:=M.s3;obtain⟨C,HR,z⟩:=dB T E M;have R:X.heap.size=w+2:=by rw[T];simp
 have q1:decide (qp<0)=false:=jy
 have q2:decide (15<qp)=false:=jy
 have HQ:=ay q;clear T M E q;go_enter func275,ntmps275;go_upto_region 1 with(fail)
 change Code.wp _ _ _ _ ((w.alloc (aS #[k,qp,aG A n c] 348)).alloc (aS #[aB 0,bU] 257));rw[←C];go_wp2_with fail;refine(ahz H _).aQ ?_;rintro V rfl;go_wp2_with fail;refine(Zt H _).aQ ?_;rintro V rfl;have y:decide ((65536:Int)≤(n:Int))=false:=by have:=J.out;rw[decide_eq_false_iff_not];omega
 go_wp2_with fail;refine(Zt H _).aQ ?_;rintro V rfl;go_wp2;have t:Hid (∀x:Int,OwnB (X.alloc (aS #[.int .u8 x] 5)) w X 1 1 [x]):=ay (fun x=>OwnB.built (w:=X) (l:=[x]) aj bK);have Q:w.heap.size≤X:=aj
 change Hid _ at R Q;clear y q1 q2
 go_region_held3(fun W=>aN W w 0 (aB k)∧aN W w 1 (aB qp)∧aN W w 2 (aG A n c))
  (first|exact⟨h,g,f⟩|exact⟨aC h (aJ X _).drew,aC g (aJ X _).drew,aC f (aJ X _).drew⟩|exact⟨d,a,y2⟩|exact⟨(F _ _).at rfl,(F _ _).at rfl,(F _ _).at rfl⟩|fail)
  (first
    |(refine Pq (base:=w.heap.size) (r:=l) kE (.tmp 58) (.tmp 60) kE kE ((t.out _).drew) kE (j.keep (aJ X _).drew) (by have:=J.out;omega) (by have h9:=Q.out;simp;omega) ?_;intro L K V D I P;have U:=((z.keep (aJ X _).drew).dH P (fun e=>by have:=e.eq;have:=R.out;omega));have Z:=((HR.keep (aJ X _).drew).dH P (fun e=>by have:=e.eq;have:=R.out;omega));have d:aN V w 0 (.int .i64 k):=(U.at rfl);have a:aN V w 1 (.int .i64 qp):=(U.at rfl);have y2:aN V w 2 (.slice A n c):=(U.at rfl);have r0:aN V (w.heap.size+1) 0 (.int .i64 0):=(Z.at rfl);have r1:aN V (w.heap.size+1) 1 (.slice none 0 0):=(Z.at rfl);have f0:=Z.frozen 0;have f1:=Z.frozen 1;have F:=fun(u v:cO)=>(U.far (p:=⟨w.heap.size+1,0,none⟩) (aj:w.heap.size≠w+1) u).far (p:=⟨w.heap.size+1,1,none⟩) (aj:w.heap.size≠w+1) v)
    |fail)
 have Y:=(Z.store 0 k).store 1 (aG L (1+n:Nat) K);have O:aP w ((V.setCell ⟨w.heap.size+1,0,none⟩ k).setCell ⟨w.heap.size+1,1,none⟩ (aG L (1+n:Nat) K)):=(((G.trans ((aJ X _).mono Q).drew).trans I).setCell (p:=(aH (w.heap.size+1) 0)) (aj:w.heap.size≤w+1) _).setCell (p:=(aH (w.heap.size+1) 1)) (aj:w.heap.size≤w+1) _;have S:=D.dH (((bQ.refl (fun i=>i=w+1) V).setCell (p:=(aH (w.heap.size+1) 0)) (fun _=>rfl) k).setCell (p:=(aH (w.heap.size+1) 1)) (fun _=>rfl) (aG L (1+n:Nat) K)) (fun i hi e=>by subst e;exact D.I7 Z bn hi);have s:IntKind.u8.wrap qp=qp:=by rw[Ew];have:=HQ.vI;omega
 rw[s]at S;obtain⟨W9,N⟩:=kF ((V.setCell ⟨w.heap.size+1,0,none⟩ k).setCell ⟨w.heap.size+1,1,none⟩ (aG L (1+n:Nat) K));rw[←N]at Y O S;have x0:=Y.c0;have x1:=Y.c1;change Hid _ at O S N;clear Y d a y2 r0 r1 f0 f1 F U Z D I P;go_wp2;rw[←N];exact aT (by simp[results,results275,go_sem,x0,x1]) rfl ⟨L,K,rfl,S,O⟩
theorem ac1{q:aO}(Y:qp≤15)(X:r≤7)(w:aK)(V:Fr w W H n A p)(Z:key=false→W2=W∧H2=H∧Fr w W H i B q):
  Calls prog 270 #[uf W H A n c,uf W2 H2 B i c2,.bool key,qp,r] w (Val w iI):=by
 cases key with
 |true=>exact ac0 Y X w V
 |false=>
  obtain⟨rfl,rfl,Z⟩:=Z rfl;exact aa8 Y X w V Z
structure RJ(w wr:World)(b0 W H N gf gb g ge B1:Nat)(A:Option Addr)(c:Nat)(m:jD)(p:List Int):Prop where
 fr:Jr wr b0 W H N gf N p
 mw:EO wr B1 g ge A c m
 box:bF wr gb 90 #[aB W,aB H,aG (some (aH gf 0)) N N]
 bel:aP w wr
 gf:w.heap.size≤gf
 g:w.heap.size≤g
 ge:w.heap.size≤ge
 b1:w.heap.size≤B1
 b2:B1≤wr.heap.size
section
variable{w wr w':aK}{b0 W H N gf gb g ge B1 c:Nat}{A:dK}{m m2:jD}{p p2:aO}
theorem RJ.keep(h:RJ w wr b0 W H N gf gb g ge B1 A c m p)(Z:aP wr w'):RJ w w' b0 W H N gf gb g ge B1 A c m p:=
 ⟨h.fr.keep Z,h.mw.keep Z,h.box.keep Z,h.bel.trans (Z.mono h.bel.size),h.gf,h.g,h.ge,h.b1,dD h.b2 Z.size⟩
theorem RJ.code(h:RJ w wr b0 W H N gf gb g ge B1 A c m p)(Z:jE wr B1 g ge A m2 w'):∃Y X,RJ w w' b0 W H N gf gb g ge B1 Y X m2 p:=by
 have V:=h.fr.own.tH h.mw Z;have U:=h.box.tH h.mw Z bn bn bn;have T:=Z.size
 have S:∀i,In A i→w≤i:=by
  rintro i ⟨q,rfl,rfl⟩;exact dD h.b1 (h.mw.enc.own.row.lt q.block rfl).1
 obtain⟨Y,X,R,Q,O⟩:=Z;refine⟨Y,X,⟨h.fr.wd,h.fr.ht,h.fr.size,h.fr.may,V⟩,R,U,eH h.bel Q h.bel.size ?_,h.gf,h.g,h.ge,h.b1,dD h.b2 T⟩;rintro i (rfl|rfl|P)
 ·exact h.g
 ·exact h.ge
 ·exact S i P
theorem RJ.lay(h:RJ w wr b0 W H N gf gb g ge B1 A c m p)(Y:Jr w' b0 W H N gf N p2)(Z:bQ (fun i=>i=gf) wr w'):RJ w w' b0 W H N gf gb g ge B1 A c m p2:=by
 refine⟨Y,h.mw.dH Z (fun e=>?_) (fun e=>?_) (fun i X e=>?_),h.box.dH Z (fun e=>?_),eH h.bel Z h.bel.size (fun i e=>by subst e;exact h.gf),h.gf,h.g,h.ge,h.b1,dD h.b2 Z.size⟩
 ·subst e;exact dP h.fr.own.row h.mw.blk bn rfl
 ·subst e;exact dP h.fr.own.row h.mw.enc.blk bn rfl
 ·obtain⟨q,rfl,V⟩:=X
  exact EZ h.fr.own.row h.mw.enc.own.row bn i (by rw[e];rfl) (by simp[Value.ownBlock,V])
 ·subst e;exact dP h.fr.own.row h.box bn rfl
end
theorem pU.tH{w w':aK}{b base g j c:Nat}{A:dK}{m V:jD}{s:Sq}{ch:tC}(h:pU w b s ch)(X:EO w base g j A c m)(W:jE w base g j A V w'):pU w' b s ch:=by
 cases ch with
 |ahead=>exact h
 |moved S R l=>obtain⟨L,d,Z,Y⟩:=h;exact⟨L,d,Z,Y.tH X W⟩
 |large m l=>obtain⟨L,d,Z,Y⟩:=h;exact⟨L,d,Z,Y.tH X W⟩
 |small Q P=>obtain⟨A,U,Z,Y⟩:=h;exact⟨A,U,Z,fun i T=>(Y i T).tH X W⟩
theorem mD(h:bF w g 90 #[W,H,aG A n c]):
  aN w g 0 (aB W)∧aN w g 1 (aB H)∧aN w g 2 (aG A n c):=
 ⟨h.at rfl,h.at rfl,h.at rfl⟩
theorem Yn{v:aK}{b a C c6:Nat}{B6:dK}{m:jD}(K:Int)(F:aP w v)(y:v.heap.size=w+4)
  (B:bF v (w.heap.size+2) 257 #[aB 0,bU]) (z:bF v (w.heap.size+3) 90 #[aB 0,aB 0,bU])
  (h:RJ v wr b W H N j k g a C A c m p) (J:w≤b) (E:aP wr u) (o:OwnB u wr B6 n c6 l):
  ∃Z,Z=u.alloc (aS #[K,aG B6 n c6] 257)∧(aN Z u 0 (aB K)∧aN Z u 1 (aG B6 n c6))∧
   (aN Z k 0 (aB W)∧aN Z k 1 (aB H)∧aN Z k 2 (aG j N N))∧
   (bF Z (w.heap.size+2) 257 #[aB 0,bU])∧(bF Z (w.heap.size+3) 90 #[aB 0,aB 0,bU])∧
   ∃Q,Q=((((Z.setCell ⟨w.heap.size+2,0,none⟩ K).setCell ⟨w.heap.size+2,1,none⟩ (aG B6 n c6)).setCell ⟨w.heap.size+3,0,none⟩ W).setCell ⟨w.heap.size+3,1,none⟩ H).setCell ⟨w.heap.size+3,2,none⟩ (aG j N N)∧
    bF Q (w.heap.size+2) 257 #[K,aG B6 n c6]∧bF Q (w.heap.size+3) 90 #[W,H,aG j N N]∧
    OwnB Q w B6 n c6 l∧Jr Q w W H N j N p∧aP w Q:=by
 have I:=h.bel.size;have G:=E.size;have U:=E.trans ((aJ u (aS #[K,aG B6 n c6] 257)).mono G);have X:=h.bel.trans (U.mono I);have O:=B.keep X;have M:=z.keep X;have S:=mD (h.box.keep U);have V:=bF.new u 257 #[K,aG B6 n c6];have T:=o.keep (aJ u (aS #[K,aG B6 n c6] 257));have Y:=h.fr.keep U;obtain⟨Z,P⟩:=kF (u.alloc (aS #[K,aG B6 n c6] 257));rw[←P]at U X O M S V T Y;refine⟨Z,P,⟨V.at rfl,V.at rfl⟩,S,O,M,_,rfl,?_,?_,?_,?_,?_⟩
 ·exact(((((O.store 0 K).store 1 (aG B6 n c6)).far (aj:w.heap.size+2≠w.heap.size+3) _).far (aj:w.heap.size+2≠w.heap.size+3) _).far (aj:w.heap.size+2≠w.heap.size+3) _)
 ·exact((((M.far (aj:w.heap.size+3≠w.heap.size+2) _).far (aj:w.heap.size+3≠w.heap.size+2) _).store 0 W).store 1 H).store 2 (aG j N N)
 all_goals have R:bQ (fun i=>i=w+2∨i=w+3) Z (((((Z.setCell ⟨w.heap.size+2,0,none⟩ K).setCell ⟨w.heap.size+2,1,none⟩ (aG B6 n c6)).setCell ⟨w.heap.size+3,0,none⟩ W).setCell ⟨w.heap.size+3,1,none⟩ H).setCell ⟨w.heap.size+3,2,none⟩ (aG j N N)):=
  (((((bQ.refl _ Z).setCell (fun _=>.inl rfl) _).setCell (fun _=>.inl rfl) _).setCell (fun _=>.inr rfl) _).setCell (fun _=>.inr rfl) _).setCell (fun _=>.inr rfl) _
 ·refine(OwnB.lower ⟨T.len,mO T.row R fun i D=>?_⟩ aj)
  have x:=(T.row.lt i D).1;omega
 ·refine⟨Y.wd,Y.ht,Y.size,Y.may,(Y.own.dH R fun q L=>?_).lower J⟩
  injection L with L
  subst L;have:=h.gf;dsimp only;omega
 ·exact eH (F.trans (X.mono F.size)) R (by have:=X.size;omega) (fun i D=>aj)
theorem FZ(h:GK W H p=true):yu W=true∧yu H=true∧(∃k,W=8*k∧1≤k∧k≤4)∧∃k,H=8*k∧1≤k∧k≤4:=by
 unfold GK at h;simp only[jU]at h;obtain⟨⟨⟨Z,Y⟩,-⟩,-⟩:=h;refine⟨Z,Y,⟨W/8,?_⟩,⟨H/8,?_⟩⟩
 ·unfold yu at Z;have:=tu Z;omega
 ·unfold yu at Y;have:=tu Y;omega
theorem ahA{q:aO}(hq:qp≤15)(hr:r≤7)(w:aK)(hs:Fr w W H m A1 f)(hp:key=false→W2=W∧H2=H∧Fr w W H N2 A2 q):
  Calls prog 254 #[uf W H A1 m c1,uf W2 H2 A2 N2 c2,.bool key,aB qp,aB r] w
   fun e I=>∃B n b g,e=bM (eP #[.agg #[aB (if key then 1 else 2),aG B n b],uf W H (some (aH g 0)) (W*H) (W*H),iI])∧OwnB I w B n b (yI W H qp r key f q)∧
    Jr I w W H (W*H) g (W*H) (Ef W H qp r key f q)∧aP w I∧n≤65536:=by
 have hb:=La w (dA W H A1 m c1) (dA W2 H2 A2 N2 c2) (aS #[aB 0,bU] 257) (dA 0 0 none 0 0);obtain⟨qV,qW,⟨W8,qX,xd,xe⟩,⟨H8,qY,xf,xg⟩⟩:=FZ hs.may;have xh:=hs.wd.2;have xi:=hs.ht.2;have qZ:=ay (ac1 (c:=c1) (c2:=c2) hq hr _ (hs.keep hb) (fun h=>⟨(hp h).1,(hp h).2.1,(hp h).2.2.keep hb⟩))
 have X0:bF ((((w.alloc (dA W H A1 m c1)).alloc (dA W2 H2 A2 N2 c2)).alloc (aS #[aB 0,bU] 257)).alloc (dA 0 0 none 0 0)) w 90 #[W,H,aG A1 m c1]:=
  (((bF.new w 90 #[W,H,aG A1 m c1]).alloc _).alloc _).alloc _
 have X1:bF ((((w.alloc (dA W H A1 m c1)).alloc (dA W2 H2 A2 N2 c2)).alloc (aS #[aB 0,bU] 257)).alloc (dA 0 0 none 0 0)) (w.heap.size+1) 90 #[W2,H2,aG A2 N2 c2]:=
  ((bF.new1 w (dA W H A1 m c1) 90 #[W2,H2,aG A2 N2 c2]).alloc _).alloc _
 have X2:bF ((((w.alloc (dA W H A1 m c1)).alloc (dA W2 H2 A2 N2 c2)).alloc (aS #[aB 0,bU] 257)).alloc (dA 0 0 none 0 0)) (w.heap.size+2) 257 #[aB 0,bU]:=by
  have h:=(bF.new ((w.alloc (dA W H A1 m c1)).alloc (dA W2 H2 A2 N2 c2)) 257 #[aB 0,bU]).alloc (dA 0 0 none 0 0);simpa using h
 have X3:bF ((((w.alloc (dA W H A1 m c1)).alloc (dA W2 H2 A2 N2 c2)).alloc (aS #[aB 0,bU] 257)).alloc (dA 0 0 none 0 0)) (w.heap.size+3) 90 #[aB 0,aB 0,bU]:=by
  have h:=bF.new (((w.alloc (dA W H A1 m c1)).alloc (dA W2 H2 A2 N2 c2)).alloc (aS #[aB 0,bU] 257)) 90 #[aB 0,aB 0,bU];have e:(((w.alloc (dA W H A1 m c1)).alloc (dA W2 H2 A2 N2 c2)).alloc (aS #[aB 0,bU] 257)).heap.size=w+3:=bK
  rw[e]at h;exact h
 have s4:((((w.alloc (dA W H A1 m c1)).alloc (dA W2 H2 A2 N2 c2)).alloc (aS #[aB 0,bU] 257)).alloc (dA 0 0 none 0 0)).heap.size=w+4:=bK
 obtain⟨G,qg⟩:=kF ((((w.alloc (dA W H A1 m c1)).alloc (dA W2 H2 A2 N2 c2)).alloc (aS #[aB 0,bU] 257)).alloc (dA 0 0 none 0 0));rw[←qg]at hb qZ X0 X1 X2 X3 s4;obtain⟨zJ,HS,HP,ql,qD,za,zb,zw⟩:=GI qg (fun I (hw:aP G I)=>(hs.keep hb).keep hw) (fun I (hw:aP G I) (hk:key=false)=>show W2=W∧H2=H∧Fr I W H N2 A2 q from⟨(hp hk).1,(hp hk).2.1,((hp hk).2.2.keep hb).keep hw⟩) (fun I (hw:aP G I)=>mD (X0.keep hw)) (fun I (hw:aP G I)=>mD (X1.keep hw)) X2 X3 (fun I=>acZ (v:=128) qV qW aj I);obtain⟨HB,qm,qE,qF⟩:=jH hb s4 qX qY;clear hs hp qg hb X0 X1 X2 X3 s4 qV qW qX qY;go_enter func254,ntmps254;obtain⟨a0,a1,a2⟩:=ql G (aU _ _);obtain⟨b0,b1,b2⟩:=qD G (aU _ _);go_upto_region 1 with(fail)
 change Code.wp _ _ _ _ ((((w.alloc (dA W H A1 m c1)).alloc (dA W2 H2 A2 N2 c2)).alloc (aS #[aB 0,bU] 257)).alloc (dA 0 0 none 0 0));rw[←zJ];go_wp2_with fail;refine qZ.aQ ?_;rintro w1 qG;have z:=ay qG;obtain⟨a0,a1,a2⟩:=ql w1 qG;clear qG b0 b1 b2;go_wp2_with fail;refine(zw _).mono ?_;rintro e P ⟨gf,rfl,zc,qo,ze⟩;have qq:=z.trans (ze.mono z.size);have zK:=qo.lt;have qu:=dD z.size zc;obtain⟨N,hN⟩:∃N,W*H=N:=⟨_,rfl⟩;rw[hN]at qo ⊢;have qH:=aJ P (dA W H gf N N);obtain⟨u,zL,zM,zN,zf,t⟩:=MP (qq.trans (qH.mono qq.size)) (bF.new P 90 #[W,H,aG gf N N]) (qo.keep qH) qu qq hN;clear qq qH qo ze zc zK qu hN;go_wp2_with fail;refine(Zq _).mono ?_;rintro e w3 ⟨g,ge,rfl,hg,zg,zh,p⟩
 have Y:RJ G w3 w1 W H N gf P g ge (P.alloc (dA W H gf N N)) none 0 {} (AX N 128):=
  ⟨by rw[←t];have:=zM.keep p;rw[←t]at this;exact this,zh,zL.keep p,u.trans (p.mono u.size),zN,dD u.size hg,dD u.size zg,u.size,p.size⟩
 generalize(P.alloc (dA W H gf N N))=B1 at Y;have zO:=ay Y;have F:xu W H qp r key f q 0=({},AX N 128):=by rw[←t];rfl
 have zx:=ay F;clear Y F zh p hg zg;go_wp2_with fail
 go_loopg [17,18,19] H8 (fun k zP zi zQ wr=>∃j y A c O,j+k=H8∧Hid (y=8*j)∧zP=y∧Hid (xu W H qp r key f q j=O)∧O.1.ok∧O.1.e.out.length≤15400*j∧RJ G wr w1 W H N gf P g ge B1 A c O.1 O.2)
 case atStart=>exact⟨0,0,none,0,({},AX N 128),aj,ay rfl,rfl,zx,Yl,bK,zO⟩
 case round=>
  obtain⟨j,y,A,c,O,hj,HY,rfl,qI,R,T,Y⟩:=hrel;obtain⟨f0,f1,f2⟩:=mD Y.box;have D:=ay Y;clear Y
  by_cases xj:j<H8
  ·have zj:y+8≤H:=by have:=HY.vI;have:=qF.out;omega
   have zR:(y:Int)<(H:Int):=aj
   obtain⟨zS,zy⟩:=aV R T;clear R T;go_wp2_with fail
   go_loopg [18,19] W8 (fun k zi zQ wr=>∃i x A c Z,i+k=W8∧Hid (x=8*i)∧zi=x∧Hid (yc W H qp r key f q y O i=Z)∧Z.1.ok∧Z.1.e.out.length≤15400*j+3850*i∧RJ G wr w1 W H N gf P g ge B1 A c Z.1 Z.2)
   case atStart=>exact⟨0,0,A,c,O,aj,ay rfl,rfl,ay rfl,zS,by have:=zy.out;omega,D⟩
   case round=>
    obtain⟨i,x,A,c,Z,hi,HX,rfl,zk,R,T,Y⟩:=hrel;clear f0 f1 f2;obtain⟨f0,f1,f2⟩:=mD Y.box;have S:=ay Y;obtain⟨a0,a1,a2⟩:=ql _ Y.bel;obtain⟨b0,b1,b2⟩:=qD _ Y.bel;clear Y;obtain⟨qh,J⟩:=aV R T;clear R T
    by_cases xk:i<W8
    ·have zl:x+8≤W:=by have:=HX.vI;have:=qE.out;omega
     have zT:(x:Int)<(W:Int):=aj
     have zm:=ay (acY (key:=key) (W:=W) (H:=H) (c1:=c1) (c:=N) (x:=x) (y:=y) (qp:=qp) (r:=r) (N2:=N2) (c2:=c2) hr hq zl zj _ (HS _ S.bel) S.fr.fr (HP _ S.bel));have qr:=Ym (W:=W) (H:=H) (qp:=qp) (r:=r) (x:=x) (y:=y) (key:=key) (f:=f) (q:=q) (st:=Z) qh;have qi:=ay (show Ee W H qp r key f q x y Z=(dU Z.1 (EF key (lG W H x y qp r (sW W H f x y) Z.2 q key)),Oi W H x y qp Z.2 q (lG W H x y qp r (sW W H f x y) Z.2 q key))from rfl);generalize zn:Ee W H qp r key f q x y Z=qJ at qr qi;have zA:=ay zn;generalize lG W H x y qp r (sW W H f x y) Z.2 q key=ch at zm qr qi;have zB:=ay qr;clear zn qr;go_wp2_with fail;refine zm.mono ?_;rintro e M ⟨s,rfl,qK,qL,V⟩;have zo:=Sq.cells_one qK.one;have qv:=S.keep V;have qM:=bF.new M 367 ({}:Sq).c;have qw:=aJ M (.cells ({}:Sq).c 367);have zC:(M.alloc (.cells ({}:Sq).c 367)).heap.size=M+1:=bK
     obtain⟨W7,U⟩:=kF ((M.alloc (.cells ({}:Sq).c 367)).setRow M s.c)
     have qs:aP M W7:=by
      rw[U];exact eH qw (Ai _ _ _) aj (fun i e=>aj)
     have qy:bF W7 M 367 s.c:=by rw[U];exact qM.row s.c
     have Q:=qv.keep qs;have qj:=qK.keep qs;obtain⟨zU,zV,zW⟩:=mD Q.box;obtain⟨xa,zX,o,qz,zD,zq,zY,qU⟩:=GI (V.trans (qs.mono V.size)) qM U qy qj qL zo (ahx (b:=wr.heap.size) (s:=s) qL qh (by have:=J.out;omega) W7 Q.b2 qj Q.mw);obtain⟨qk,zZ⟩:=aV Q S.fr.lt;clear qv qM qw zC U qs qy Q qj qK qL zo V f0 f1 f2 a0 a1 a2 b0 b1 b2
     go_wp2_with(first
      |(refine wpList_store_rowTo rfl 367 (.tmp 19) (.tmp 63) rfl rfl M s.c rfl rfl 367 ({}:Sq).c zX rfl rfl zY ?_;rw[←o])
      |(refine wpList_load_row rfl 367 (.tmp 19) rfl M rfl 367 s.c (0,0) _ qz underlying367 rfl rfl ?_))
     refine qU.mono ?_;rintro e w8 ⟨s8,rfl,ho⟩;have qA:=qz.tH qk.mw ho bn bn bn;have qB:=zD.tH qk.mw ho;have xc:=ho.size;obtain⟨A8,c8,X⟩:=qk.code ho;clear ho;obtain⟨a0,a1,a2⟩:=ql _ X.bel;obtain⟨b0,b1,b2⟩:=qD _ X.bel;obtain⟨f0,f1,f2⟩:=mD X.box;obtain⟨zE,zF,zG⟩:=dB (ajO (key:=key) (bs:=wr.heap.size) (N2:=N2) (c2:=c2) (W2:=W2) (H2:=H2) (A2:=A2) (q:=q) zq hq zl zj w8 qB zZ X.fr (HP _ X.bel)) qA X;clear qA qB X zU zV zW
     go_wp2_with(first
      |(refine wpList_load_row rfl 367 (.tmp 19) rfl M rfl 367 s.c (0,0) _ zF underlying367 rfl rfl ?_))
     refine zE.aQ ?_;rintro w9 ⟨zr,zt⟩;have zH:=ay (zG.lay zr zt);clear zr zt a0 a1 a2 b0 b1 b2 f0 f1 f2;go_wp2_with fail;go_roundg(gk-1)
     case measure=>omega
     case rel=>
      have h9:=zB zq
      have zI:Hid (yc W H qp r key f q y O (i+1)=qJ):=ay (by
       show Ee W H qp r key f q (8*i) y (yc W H qp r key f q y O i)=qJ;rw[zk,←HX];exact zA)
      refine⟨i+1,x+8,A8,c8,qJ,aj,ay (by have:=HX.vI;omega),fA,zI,h9.1,by have:=J.out;omega,?_⟩;rw[qi];exact zH
    ·obtain rfl:i=W8:=aj
     have zT:¬(x:Int)<(W:Int):=by have:=HX.vI;have:=qE.out;omega
     clear a0 a1 a2 b0 b1 b2;go_wp2_with fail;go_roundg(H8-j-1)
     case measure=>omega
     case rel=>
      have F:Hid (xu W H qp r key f q (j+1)=Z):=ay (by
       show yc W H qp r key f q (8*j) (xu W H qp r key f q j) (W/8)=Z;have e8:W/8=i:=by have:=qE.out;omega
       rw[qI,←HY,e8];exact zk)
      exact⟨j+1,y+8,A,c,Z,aj,ay (by have:=HY.vI;omega),fA,F,qh,by have:=J.out;omega,S⟩
  ·obtain rfl:j=H8:=aj
   have zR:¬(y:Int)<(H:Int):=by have:=HY.vI;have:=qF.out;omega
   have e8:H/8=j:=by have:=qF.out;omega
   have zu:Hid (yI W H qp r key f q=(qp:Int)::uP O.1.e):=ay (by unfold yI;rw[e8,qI]);have zv:Hid (Ef W H qp r key f q=O.2):=ay (by unfold Ef;rw[e8,qI]);obtain⟨qC,qt,xl⟩:=dB (ajF R aj wr D.mw) (show(uP O.1.e).length<65536 by have:=Tt O.1.e;omega) (Vm R.e);clear R T e8;generalize uP O.1.e=E at*;cases key
   ·go_wp2_with fail
    refine qC.mono ?_;rintro e M ⟨B5,c5,rfl,o5,V⟩;obtain⟨K,qN⟩:=aV V (aef (c:=c5) (k:=2) (qp:=qp) (.inr rfl) aj qt M o5.lb);go_wp2_with fail;refine qN.mono ?_;rintro e w6 ⟨B6,c6,rfl,o6,l⟩;obtain⟨W7,U,⟨x0,x1⟩,⟨x2,x3,x4⟩,C,L,W9,d,Z2,Z3,a,qa,qe⟩:=Yn 2 HB qm za zb D (dD HB.size z.size) (K.out.trans (l.mono K.out.size)) (o6.lower K.out.size);obtain⟨qO,qP,qQ,o,qR⟩:=rG a qa qe U d;have y0:=C.c0;have y1:=C.c1;obtain⟨y2,y3,y4⟩:=L.s3;have g0:=C.frozen 0;have g1:=C.frozen 1;have g2:=L.frozen 0;have g3:=L.frozen 1;have g4:=L.frozen 2;have z0:=Z2.c0;have z1:=Z2.c1;obtain⟨z2,z3,z4⟩:=Z3.s3;clear U d a qa qe C L Z2 Z3 o6 l o5 V;have qS:=zf.size;have qT:=qm.out;have n1:¬P.heap.size=w+1+1:=aj
    have n2:¬w.heap.size+1+1=P.heap.size:=aj
    have n3:¬P.heap.size=w+1+1+1:=aj
    have n4:¬w.heap.size+1+1+1=P.heap.size:=aj
    clear qS qT;go_upto_region 21 with(fail)
    rw[←o]
    go_region
    go_wp2_with fail;rw[←qR];refine aT (by simp[results,results254,go_sem,z0,z1,z2,z3,z4];rfl) rfl ?_;have qf:=t.out;refine⟨B6,1+E.length,c6,gf,by rw[qf],by rw[zu.out];exact qO.out.drew,by rw[zv.out,qf];exact qP.out.keep (aU _ _).drew,qQ.out.drew,by have:=qt.out;omega⟩
   ·go_wp2_with fail
    refine qC.mono ?_;rintro e M ⟨B5,c5,rfl,o5,V⟩;obtain⟨K,qN⟩:=aV V (aef (c:=c5) (k:=1) (qp:=qp) (.inl rfl) aj qt M o5.lb);go_wp2_with fail;refine qN.mono ?_;rintro e w6 ⟨B6,c6,rfl,o6,l⟩;obtain⟨W7,U,⟨x0,x1⟩,⟨x2,x3,x4⟩,C,L,W9,d,Z2,Z3,a,qa,qe⟩:=Yn 1 HB qm za zb D (dD HB.size z.size) (K.out.trans (l.mono K.out.size)) (o6.lower K.out.size);obtain⟨qO,qP,qQ,o,qR⟩:=rG a qa qe U d;have y0:=C.c0;have y1:=C.c1;obtain⟨y2,y3,y4⟩:=L.s3;have g0:=C.frozen 0;have g1:=C.frozen 1;have g2:=L.frozen 0;have g3:=L.frozen 1;have g4:=L.frozen 2;have z0:=Z2.c0;have z1:=Z2.c1;obtain⟨z2,z3,z4⟩:=Z3.s3;clear U d a qa qe C L Z2 Z3 o6 l o5 V;have qS:G.heap.size≤P:=zf.size;have qT:=qm.out;have n1:¬P.heap.size=w+1+1:=aj
    have n2:¬w.heap.size+1+1=P.heap.size:=aj
    have n3:¬P.heap.size=w+1+1+1:=aj
    have n4:¬w.heap.size+1+1+1=P.heap.size:=aj
    clear qS qT;go_upto_region 21 with(fail)
    rw[←o]
    go_region
    go_wp2_with fail;rw[←qR];refine aT (by simp[results,results254,go_sem,z0,z1,z2,z3,z4];rfl) rfl ?_;have qf:=t.out;refine⟨B6,1+E.length,c6,gf,by rw[qf],by rw[zu.out];exact qO.out.drew,by rw[zv.out,qf];exact qP.out.keep (aU _ _).drew,qQ.out.drew,by have:=qt.out;omega⟩
structure jL where
 k:Int
 b:aO
def jL.cost(c:jL):Nat:=8+c.b.length
section
variable(W H r:Nat)(key:Bool)(f q:aO)(most:Int)
def VH:jL × aO:=if key then(⟨4,[]⟩,AX (W*H) 128)else(⟨3,[]⟩,q)
def UM(qp:Nat):jL × aO:=(⟨if key then 1 else 2,yI W H qp r key f q⟩,Ef W H qp r key f q)
def wo:Nat→Nat→jL × aO
 |0,_=>VH W H key q
 |n+1,Z=>if((UM W H r key f q Z).1.cost:Int)≤most then UM W H r key f q Z else wo n (Z+1)
def uS(qn qx:Nat):jL × aO:=wo W H r key f q most (qx+1-qn) qn
end
def kC(W H r qn qx:Nat)(key:Bool)(q:aO):List aO→aO→List (jL × aO)
 |f::l,c::Z=>uS W H r key f q c qn qx::kC W H r qn qx false (uS W H r key f q c qn qx).2 l Z
 |_,_=>[]
def BR(W H r qn qx:Nat)(l:List aO)(cs:aO):List (jL × aO):=kC W H r qn qx true [] l cs
end Go.Proofs.YtiaeohgghaaciaaGreatDoor
