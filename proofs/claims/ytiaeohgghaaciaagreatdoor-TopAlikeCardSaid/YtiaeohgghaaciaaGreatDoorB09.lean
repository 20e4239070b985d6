import Derived.Deep.DeepCutAuto
import Derived.WalkMore
import Derived.Test.YtiaeohgghaaciaaGreatDoorB08
namespace Go.Proofs.YtiaeohgghaaciaaGreatDoor
open Go Go.Maps Go.RowKit Go.Extern.Stop Go.Stop Go.Extern Go.Proofs.Tryz
set_option linter.all false
set_option maxRecDepth 100000
set_option maxHeartbeats 4000000
variable{cs:Array Value}{key:Bool}{mode vx vy:Int}{b l p s:List Int}{H N W c c1 d g hi j k lo m n q r x y:Nat}{A A1 B L:Option Addr}{v:Value}{u w w' w1 wr:World}
theorem J8{a p:Addr}{u:cO}(h:w.cell? a=some v)(Z:p≠a):(w.setCell p u).cell? a=some v:=by rw[World.cell?_setCell_other (h:=Z)];exact h
section
variable(W H:Nat)(p b:aO)(x y:Nat)
def J9(s:mW)(vx vy:Int):mW:=if s.cost=0 then s else Fh W H p b x y s vx vy
def vk(r:Nat)(s:mW)(j:Int):Nat→mW
 |0=>s
 |k+1=>J9 W H p b x y (vk r s j k) (2*((k:Int)-r)) (2*j)
def oU(r:Nat)(s:mW):Nat→mW
 |0=>s
 |m+1=>vk W H p b x y r (oU r s m) ((m:Int)-r) (2*r+1)
def vS(Z Y:Int)(s:mW)(X:Int):Nat→mW
 |0=>s
 |k+1=>Fh W H p b x y (vS Z Y s X k) (Z+((k:Int)-1)) (Y+X)
def sK(Z Y:Int)(s:mW):Nat→mW
 |0=>s
 |m+1=>vS W H p b x y Z Y (sK Z Y s m) ((m:Int)-1) 3
def Hf(r:Nat):mW:=oU W H p b x y r ⟨0,0,Dc W H p b x y 0 0⟩ (2*r+1)
def iZ(r:Nat):mW:=let s:=Hf W H p b x y r;sK W H p b x y s.vx s.vy s 3
end
section
variable{W H:Nat}{p b:aO}{x y:Nat}
theorem KY{r:Nat}{s:mW}{j:Int}{k:Nat}(h:(vk W H p b x y r s j k).cost=0):∀d,vk W H p b x y r s j (k+d)=vk W H p b x y r s j k
 |0=>rfl
 |d+1=>by
  have Z:=KY h d;rw[←iO,vk,Z,J9,aF h]
theorem Qp{r:Nat}{s:mW}{m:Nat}(h:(oU W H p b x y r s m).cost=0):∀d,oU W H p b x y r s (m+d)=oU W H p b x y r s m
 |0=>rfl
 |d+1=>by
  have Z:=Qp h d;rw[←iO,oU,Z];have:=KY (W:=W) (H:=H) (p:=p) (b:=b) (x:=x) (y:=y) (r:=r) (s:=oU W H p b x y r s m) (j:=((m+d:Nat):Int)-r) (k:=0) h (2*r+1);rw[dI]at this;exact this
theorem Xz{s:mW}(V:m<2*r+1)(U:k≤2*r+1)(h:(vk W H p b x y r (oU W H p b x y r s m) ((m:Int)-r) k).cost=0):
  oU W H p b x y r s (2*r+1)=vk W H p b x y r (oU W H p b x y r s m) ((m:Int)-r) k:=by
 have Z:=KY h (2*r+1-k);rw[(aj:k+(2*r+1-k)=2*r+1)]at Z;have Y:oU W H p b x y r s (m+1)=vk W H p b x y r (oU W H p b x y r s m) ((m:Int)-r) k:=Z;have X:=Qp (by rw[Y];exact h) (2*r+1-(m+1));rw[show m+1+(2*r+1-(m+1))=2*r+1 by omega]at X;rw[X,Y]
def uI(n:Int)(s:mW):Prop:=-n≤s.vx∧s.vx≤n∧-n≤s.vy∧s.vy≤n
theorem Tz{n:Int}{s:mW}(h:uI n s)(hx: -n≤vx∧vx≤n)(hy: -n≤vy∧vy≤n):uI n (Fh W H p b x y s vx vy):=by
 unfold Fh;split
 ·exact⟨hx.1,hx.2,hy.1,hy.2⟩
 ·exact h
theorem TA{r:Nat}{s:mW}{j:Int}(Y:r≤7)(h:uI 14 s)(X: -7≤j∧j≤7):∀{k:Nat},k≤2*r+1→uI 14 (vk W H p b x y r s j k)
 |0,_=>h
 |k+1,V=>by
  have Z:=TA Y h X (k:=k) aj;unfold vk J9;split
  ·exact Z
  ·exact Tz Z aj aj
theorem TB{r:Nat}{s:mW}(Z:r≤7)(h:uI 14 s):∀{m:Nat},m≤2*r+1→uI 14 (oU W H p b x y r s m)
 |0,_=>h
 |m+1,Y=>TA Z (TB Z h (m:=m) aj) aj (bC _)
theorem Jd(Z:r≤7):uI 14 (Hf W H p b x y r):=TB Z (by unfold uI;simp) (bC _)
theorem LZ{c d:Int}{s:mW}{Z:Int}(h:uI 15 s)(hx: -14≤c∧c≤14)(hy: -15≤d+Z∧d+Z≤15):∀{k:Nat},k≤3→uI 15 (vS W H p b x y c d s Z k)
 |0,_=>h
 |k+1,Y=>Tz (LZ h hx hy (k:=k) aj) aj hy
theorem Qq{c d:Int}{s:mW}(h:uI 15 s)(hx: -14≤c∧c≤14)(hy: -14≤d∧d≤14):∀{m:Nat},m≤3→uI 15 (sK W H p b x y c d s m)
 |0,_=>h
 |m+1,Z=>LZ (Qq h hx hy (m:=m) aj) hx aj (bC _)
theorem Np(Z:r≤7):uI 15 (iZ W H p b x y r):=by
 have h:=Jd (W:=W) (H:=H) (p:=p) (b:=b) (x:=x) (y:=y) Z;unfold uI at h;exact Qq (by unfold uI;omega) aj aj (bC _)
end
theorem afi(hx:x+8≤W)(hy:y+8≤H)(hr:r≤7)(l:Bd 0 255 b)(w:aK)(hf:Fr w W H n A p)(hB:Ls w B 64 b):
  Calls prog 285 #[uf W H A n c,aG B 64 d,x,y,r] w
   (Val w (eP #[afg (iZ W H p b x y r).vx (iZ W H p b x y r).vy,iI])):=by
 have qa:=(aJ w (dA W H A n c)).trans ((aJ (w.alloc (dA W H A n c)) (Aj 0 0)).mono bK);have HF:=((bF.new w 90 #[W,H,aG A n c]).alloc (Aj 0 0));have HV:=(bF.new1 w (dA W H A n c) 364 #[aB 0,aB 0])
 have HK:=ay (fun S (K:Below ((w.alloc (dA W H A n c)).alloc (Aj 0 0)) ((w.alloc (dA W H A n c)).alloc (Aj 0 0)) S)=>
  show Fr S W H n A p∧Ls S B 64 b∧bF S w 90 #[W,H,aG A n c]∧bF S (w.heap.size+1) 364 #[aB 0,aB 0]∧aP w S from
   ⟨(hf.keep qa).keep K,(hB.keep qa).keep K,HF.keep K,HV.keep K,qa.trans (K.mono jy)⟩)
 have hW:=hf.wd.2;have hH:=hf.ht.2;obtain⟨H1,H2,H3,ze⟩:=jH (FI (c:=c) (hf.keep qa)) (fun S=>alb (c:=c) (A:=A) (n:=n) (x:=x) (y:=y) (m:=8) hW hH aj aj aj S) (fun S (hl:Ls S B 64 b)=>KU (c:=d) aj l S hl) hf.bd;change Hid _ at l;clear hf hB qa HF HV;go_enter func285,ntmps285;go_wp2_with fail
 go_step3
 go_wp2_with fail;refine H1.aQ ?_;rintro w1 qr;obtain⟨_,_,G,_,_⟩:=HK _ qr;obtain⟨c0,c1,c2⟩:=G.s3;go_wp2_with fail;refine(H2 _).aQ ?_;rintro w2 j;have j:=qr.trans (j.mono qr.size);go_wp2_with fail;refine(H3 _ (HK _ j).2.1).aQ ?_;rintro T qe;have qe:=j.trans (qe.mono j.size);obtain⟨qf,qg,G,R,qA⟩:=HK _ qe;obtain⟨c0,c1,c2⟩:=G.s3;have qQ:=ay R;have qR:=qe.size;have zn:w.heap.size+2≤T.heap.size:=by simpa using qR
 change Hid _ at qf qg G qA;clear qr j qe R qR;have g:=aJ T (aS (Dl W H A n c B d x y ⟨0,0,0⟩) 410);have qs:=bF.new T 410 (Dl W H A n c B d x y ⟨0,0,0⟩);have k0:=aC c0 g;have k1:=aC c1 g;have k2:=aC c2 g;have k6:=qs.c6;have k7:=qs.c7;have qB:=aU (T.alloc (aS (Dl W H A n c B d x y ⟨0,0,0⟩) 410)) (T.alloc (aS (Dl W H A n c B d x y ⟨0,0,0⟩) 410))
 have qS:=ay (fun S (K:Below (T.alloc (aS (Dl W H A n c B d x y ⟨0,0,0⟩) 410)) (T.alloc (aS (Dl W H A n c B d x y ⟨0,0,0⟩) 410)) S)=>
  Px (c:=c) (vx:=0) (vy:=0) (x:=x) (y:=y) aj aj aj aj S ((qf.keep g).keep K))
 have qT:=ay (fun S A' c' (K:Below (T.alloc (aS (Dl W H A n c B d x y ⟨0,0,0⟩) 410)) (T.alloc (aS (Dl W H A n c B d x y ⟨0,0,0⟩) 410)) S) (hl:Ls S A' 64 (gK W H p x y 0 0))=>
  Zj (c:=c') (d:=d) (vx:=0) (vy:=0) aj aj (Ed ze) l S hl ((qg.keep g).keep K))
 have qt:=ay qs;clear qs g;go_wp2_with fail
 go_region_held3(fun W'=>W'.cell? (aH w 0)=some (aB W)∧W'.cell? (aH w 1)=some (aB H)∧W'.cell? (aH w 2)=some (aG A n c)∧W'.cell? (aH T 6)=some (aB 0)∧W'.cell? (aH T 7)=some (aB 0))
  (first
    |(exact⟨k0,k1,k2,k6,k7⟩)
    |(exact⟨aC k0 E,aC k1 E,aC k2 E,aC k6 E,aC k7 E⟩)
    |(exact⟨J8 (aC k0 E) (by intro e;injection e with e1 e2;omega),J8 (aC k1 E) (by intro e;injection e with e1 e2;omega),J8 (aC k2 E) (by intro e;injection e with e1 e2;omega),J8 (aC k6 E) (by intro e;injection e with e1 e2;omega),J8 (aC k7 E) (by intro e;injection e with e1 e2;omega)⟩)|fail)
  (first
    |(go_at_call 302;refine(qS _ qB.drew).mono ?_;rintro e w1 ⟨B1,b1,rfl,qY,zf⟩;have E:=qB.drew.trans zf)
    |(go_at_call 286;refine(qT _ _ _ E qY.ls).aQ ?_;rintro w2 zg;have E:=E.trans (zg.mono E.size);have zq:=(qt.keep E).frozen 8;have zr:w2.cell? ⟨T,8,none⟩=some (.int .i64 0):=((qt.keep E).at rfl))
    |fail)
 have qC:Below (T.alloc (aS (Dl W H A n c B d x y ⟨0,0,0⟩) 410)) (T.alloc (aS (Dl W H A n c B d x y ⟨0,0,0⟩) 410)) w2:=by assumption
 obtain⟨qD,zh⟩:=aV ((qt.keep qC).store 8 (Dc W H p b x y 0 0)) (((aJ T (aS (Dl W H A n c B d x y ⟨0,0,0⟩) 410)).trans (qC.mono bK)).setCell (p:=(aH T 8)) bK (Dc W H p b x y 0 0));rw[show ED (gK W H p x y 0 0) b 0 0=Dc W H p b x y 0 0 from rfl];obtain⟨s0,qu⟩:∃s0:mW,s0=⟨0,0,Dc W H p b x y 0 0⟩:=⟨_,rfl⟩;have qU:=ay (show Hf W H p b x y r=oU W H p b x y r s0 (2*r+1) by rw[qu];rfl);have qD:Hid (bF (w2.setCell ⟨T,8,none⟩ (Dc W H p b x y 0 0)) T 410 (Dl W H A n c B d x y s0)):=ay (by rw[qu];exact qD);have zo:=ay (show uI 14 s0 by rw[qu];unfold uI;simp);have er:IntKind.i64.wrap (-(r:Int))= -(r:Int):=iE _ aj;clear qu qC k0 k1 k2 k6 k7 c0 c1 c2 qB qS qT qt;go_wp2_with fail
 go_step3
 go_wp2_with fail
 go_loopg [13,14] (2*r+1) (fun k zi qV wr=>∃m:Nat,m+k=2*r+1∧zi= aB ((m:Int)-r)∧bF wr T 410 (Dl W H A n c B d x y (oU W H p b x y r s0 m))∧aP T wr)
 case atStart=>exact⟨0,aj,bK,qD,zh⟩
 case round=>
  obtain⟨m,hm,rfl,Z,Y⟩:=hrel
  by_cases qE:m<2*r+1
  ·have qv:(m:Int)-r≤r:=aj
   go_wp2_with fail
   go_loopg [14] (2*r+1) (fun k qV wr=>∃i:Nat,i+k=2*r+1∧qV= aB ((i:Int)-r)∧bF wr T 410 (Dl W H A n c B d x y (vk W H p b x y r (oU W H p b x y r s0 m) ((m:Int)-r) i))∧aP T wr)
   case atStart=>exact⟨0,aj,bK,Z,Y⟩
   case round=>
    obtain⟨i,hi,rfl,Z,Y⟩:=hrel
    by_cases qW:i<2*r+1
    ·have qw:(i:Int)-r≤r:=aj
     obtain⟨qy,f⟩:=aV (fun h=>Xz (W:=W) (H:=H) (p:=p) (b:=b) (x:=x) (y:=y) (s:=s0) qE (aj:i≤2*r+1) h) (show vk W H p b x y r (oU W H p b x y r s0 m) ((m:Int)-r) (i+1)=J9 W H p b x y (vk W H p b x y r (oU W H p b x y r s0 m) ((m:Int)-r) i) (2*((i:Int)-r)) (2*((m:Int)-r))from rfl);generalize vk W H p b x y r (oU W H p b x y r s0 m) ((m:Int)-r) i=a at*;have g8:=Z.c8
     by_cases hc:a.cost=0
     ·have zj:(a.cost==0)=true:=by simpa using hc
      have qz:=qy.out hc;rw[←qU]at qz;rw[←qz]at Z;obtain⟨X,V,J,qh⟩:∃X V J,Hid (Hf W H p b x y r=⟨X,V,J⟩):=⟨_,_,_,ay rfl⟩;have P:=Jd (W:=W) (H:=H) (p:=p) (b:=b) (x:=x) (y:=y) hr;rw[qh.out]at P Z;have zk: -14≤X∧X≤14:=⟨P.1,P.2.1⟩;have zl: -14≤V∧V≤14:=⟨P.2.2.1,P.2.2.2⟩;have u:uI 15 ⟨X,V,J⟩:=by unfold uI;simp only;omega
      have t6:=Z.c6;have t7:=Z.c7;have qZ:=Z.lt;obtain⟨qF,qG,qH,qI⟩:=jH (bF.new wr 364 #[X,V]) (Z.alloc (Aj X V)) (Y.alloc aj (Aj X V)) (show iZ W H p b x y r=sK W H p b x y X V ⟨X,V,J⟩ 3 by unfold iZ;rw[qh.out]);change Hid _ at u;clear P Z Y;go_wp2_with fail
      go_loopg [16,17,18] (3:Nat) (fun k qJ qi qK D=>∃m:Nat,m+k=3∧qJ= aB ((m:Int)-1)∧bF D T 410 (Dl W H A n c B d x y (sK W H p b x y X V ⟨X,V,J⟩ m))∧bF D wr 364 #[X,V]∧aP T D)
      case atStart=>exact⟨0,aj,kE,qG,qF,qH⟩
      case round=>
       obtain⟨m,hm,rfl,Z,U,Y⟩:=hrel
       by_cases qE:m<3
       ·have qv:(m:Int)-1≤1:=aj
        go_wp2_with fail
        go_loopg [17,18] (3:Nat) (fun k qi qK D=>∃i:Nat,i+k=3∧qi= aB ((i:Int)-1)∧bF D T 410 (Dl W H A n c B d x y (vS W H p b x y X V (sK W H p b x y X V ⟨X,V,J⟩ m) ((m:Int)-1) i))∧bF D _ 364 #[X,V]∧aP T D)
        case atStart=>exact⟨0,aj,kE,Z,U,Y⟩
        case round=>
         obtain⟨i,hi,rfl,Z,U,Y⟩:=hrel
         by_cases qW:i<3
         ·have qw:(i:Int)-1≤1:=aj
          have q0:=(U.cell 0).trans (show(#[Value.int .i64 X,Value.int .i64 V]:Array cO)[0]? =some (aB X)from rfl);have q1:=(U.cell 1).trans (show(#[Value.int .i64 X,Value.int .i64 V]:Array cO)[1]? =some (aB V)from rfl);have e1:IntKind.i64.wrap (X+((i:Int)-1))=X+((i:Int)-1):=iE _ aj;have e2:IntKind.i64.wrap (V+((m:Int)-1))=V+((m:Int)-1):=iE _ aj;obtain⟨M,qj⟩:∃M,X+((i:Int)-1)=M:=⟨_,rfl⟩;obtain⟨L,qk⟩:∃L,V+((m:Int)-1)=L:=⟨_,rfl⟩;have f:=ay (show vS W H p b x y X V (sK W H p b x y X V ⟨X,V,J⟩ m) ((m:Int)-1) (i+1)=Fh W H p b x y (vS W H p b x y X V (sK W H p b x y X V ⟨X,V,J⟩ m) ((m:Int)-1) i) M L by rw[←qj,←qk];rfl);have ql: -15≤M∧M≤15:=aj
          have qm: -15≤L∧L≤15:=aj
          generalize vS W H p b x y X V (sK W H p b x y X V ⟨X,V,J⟩ m) ((m:Int)-1) i=a at*;rw[qj]at e1;rw[qk]at e2;have za:=Z.lt;have O:=aJ wr (Aj M L);have C:=bF.new wr 364 #[M,L];have qL:=ay (fun S=>UL ql qm S)
          have qo:=ay (fun S (K:Below (wr.alloc (Aj M L)) (wr.alloc (Aj M L)) S)=>
           show(S.cell? (aH wr 0)=some (aB M)∧S.cell? (aH wr 1)=some (aB L))∧bF S T 410 (Dl W H A n c B d x y a)∧aP wr S from
            ⟨⟨(C.keep K).at rfl,(C.keep K).at rfl⟩,(Z.keep O).keep K,O.trans (K.mono bK)⟩)
          obtain⟨qM,qN⟩:=aV Y U;clear O C Z Y U;go_wp2_with fail;refine(qL _).aQ ?_;rintro w6 O;obtain⟨⟨r0,r1⟩,N,z⟩:=qo _ O;have Q:=qM.trans (z.mono aj);have t:=qN.keep z;have zb:=N.lt;have HT:=ay (try_any (c:=c) (d:=d) (x:=x) (y:=y) (s:=a) aj aj ql qm l w6 (qf.keep Q) (qg.keep Q) N);clear O z;go_wp2_with fail;refine HT.aQ ?_;rintro w7 ⟨qO,F⟩;have q:=Q.trans (F.below (B:=T.heap.size) aj (fun i hi=>aj));have o:=t.dH F aj;go_wp2_with fail;go_roundg(2-i)
          case measure=>omega
          case rel=>exact⟨i+1,aj,fA,by rw[f.out];exact qO,o,q⟩
         ·obtain rfl:i=3:=aj
          go_wp2_with fail;go_roundg(2-m)
          case measure=>omega
          case rel=>exact⟨m+1,aj,fA,Z,U,Y⟩
       ·obtain rfl:m=3:=aj
        rw[←qI]at Z;generalize iZ W H p b x y r=I at*;have z6:=Z.c6;have z7:=Z.c7;have R:=qQ.keep Y;have y0:=R.c0;have y1:=R.c1;have f0:=R.frozen 0;have f1:=R.frozen 1;have v:=(R.store 0 I.vx).store 1 I.vy;have qq:=ay (((qA.trans (Y.mono aj)).setCell (p:=(aH (w.heap.size+1) 0)) bK I.vx).setCell (p:=(aH (w.heap.size+1) 1)) bK I.vy);have x0:=v.c0;have x1:=v.c1;clear R v;go_wp2_with fail;exact aT (by simp[results,results285,go_sem,x0,x1]) rfl ⟨rfl,qq.out⟩
     ·have zj:(a.cost==0)=false:=by simpa using hc
      have HT:=ay (try_any (c:=c) (d:=d) (x:=x) (y:=y) (s:=a) (vx:=2*((i:Int)-r)) (vy:=2*((m:Int)-r)) aj aj aj aj l wr (qf.keep Y) (qg.keep Y) Z);have hs:=Z.lt;have qX:J9 W H p b x y a (2*((i:Int)-r)) (2*((m:Int)-r))=Fh W H p b x y a (2*((i:Int)-r)) (2*((m:Int)-r)):=au hc;rw[qX]at f;clear qX qy;go_wp2_with fail;refine HT.aQ ?_;rintro w5 ⟨zm,zc⟩;have qP:=Y.trans (zc.below (B:=T.heap.size) aj (fun i hi=>aj));go_wp2_with fail;go_roundg(2*r-i)
      case measure=>omega
      case rel=>exact⟨i+1,aj,fA,by rw[f.out];exact zm,qP⟩
    ·obtain rfl:i=2*r+1:=aj
     go_wp2_with fail;go_roundg(2*r-m)
     case measure=>omega
     case rel=>exact⟨m+1,aj,fA,Z,Y⟩
  ·obtain rfl:m=2*r+1:=aj
   rw[←qU]at Z;obtain⟨X,V,J,qh⟩:∃X V J,Hid (Hf W H p b x y r=⟨X,V,J⟩):=⟨_,_,_,ay rfl⟩;have P:=Jd (W:=W) (H:=H) (p:=p) (b:=b) (x:=x) (y:=y) hr;rw[qh.out]at P Z;have zk: -14≤X∧X≤14:=⟨P.1,P.2.1⟩;have zl: -14≤V∧V≤14:=⟨P.2.2.1,P.2.2.2⟩;have u:uI 15 ⟨X,V,J⟩:=by unfold uI;simp only;omega
   have t6:=Z.c6;have t7:=Z.c7;have qZ:=Z.lt;obtain⟨qF,qG,qH,qI⟩:=jH (bF.new wr 364 #[X,V]) (Z.alloc (Aj X V)) (Y.alloc aj (Aj X V)) (show iZ W H p b x y r=sK W H p b x y X V ⟨X,V,J⟩ 3 by unfold iZ;rw[qh.out]);change Hid _ at u;clear P Z Y;go_wp2_with fail
   go_loopg [16,17,18] (3:Nat) (fun k qJ qi qK D=>∃m:Nat,m+k=3∧qJ= aB ((m:Int)-1)∧bF D T 410 (Dl W H A n c B d x y (sK W H p b x y X V ⟨X,V,J⟩ m))∧bF D wr 364 #[X,V]∧aP T D)
   case atStart=>exact⟨0,aj,kE,qG,qF,qH⟩
   case round=>
    obtain⟨m,hm,rfl,Z,U,Y⟩:=hrel
    by_cases qE:m<3
    ·have qv:(m:Int)-1≤1:=aj
     go_wp2_with fail
     go_loopg [17,18] (3:Nat) (fun k qi qK D=>∃i:Nat,i+k=3∧qi= aB ((i:Int)-1)∧bF D T 410 (Dl W H A n c B d x y (vS W H p b x y X V (sK W H p b x y X V ⟨X,V,J⟩ m) ((m:Int)-1) i))∧bF D _ 364 #[X,V]∧aP T D)
     case atStart=>exact⟨0,aj,kE,Z,U,Y⟩
     case round=>
      obtain⟨i,hi,rfl,Z,U,Y⟩:=hrel
      by_cases qW:i<3
      ·have qw:(i:Int)-1≤1:=aj
       have q0:=(U.cell 0).trans (show(#[Value.int .i64 X,Value.int .i64 V]:Array cO)[0]? =some (aB X)from rfl);have q1:=(U.cell 1).trans (show(#[Value.int .i64 X,Value.int .i64 V]:Array cO)[1]? =some (aB V)from rfl);have e1:IntKind.i64.wrap (X+((i:Int)-1))=X+((i:Int)-1):=iE _ aj;have e2:IntKind.i64.wrap (V+((m:Int)-1))=V+((m:Int)-1):=iE _ aj;obtain⟨M,qj⟩:∃M,X+((i:Int)-1)=M:=⟨_,rfl⟩;obtain⟨L,qk⟩:∃L,V+((m:Int)-1)=L:=⟨_,rfl⟩;have f:=ay (show vS W H p b x y X V (sK W H p b x y X V ⟨X,V,J⟩ m) ((m:Int)-1) (i+1)=Fh W H p b x y (vS W H p b x y X V (sK W H p b x y X V ⟨X,V,J⟩ m) ((m:Int)-1) i) M L by rw[←qj,←qk];rfl);have ql: -15≤M∧M≤15:=aj
       have qm: -15≤L∧L≤15:=aj
       generalize vS W H p b x y X V (sK W H p b x y X V ⟨X,V,J⟩ m) ((m:Int)-1) i=a at*;rw[qj]at e1;rw[qk]at e2;have za:=Z.lt;have O:=aJ wr (Aj M L);have C:=bF.new wr 364 #[M,L];have qL:=ay (fun S=>UL ql qm S)
       have qo:=ay (fun S (K:Below (wr.alloc (Aj M L)) (wr.alloc (Aj M L)) S)=>
        show(S.cell? (aH wr 0)=some (aB M)∧S.cell? (aH wr 1)=some (aB L))∧bF S T 410 (Dl W H A n c B d x y a)∧aP wr S from
         ⟨⟨(C.keep K).at rfl,(C.keep K).at rfl⟩,(Z.keep O).keep K,O.trans (K.mono bK)⟩)
       obtain⟨qM,qN⟩:=aV Y U;clear O C Z Y U;go_wp2_with fail;refine(qL _).aQ ?_;rintro w6 O;obtain⟨⟨r0,r1⟩,N,z⟩:=qo _ O;have Q:=qM.trans (z.mono aj);have t:=qN.keep z;have zb:=N.lt;have HT:=ay (try_any (c:=c) (d:=d) (x:=x) (y:=y) (s:=a) aj aj ql qm l w6 (qf.keep Q) (qg.keep Q) N);clear O z;go_wp2_with fail;refine HT.aQ ?_;rintro w7 ⟨qO,F⟩;have q:=Q.trans (F.below (B:=T.heap.size) aj (fun i hi=>aj));have o:=t.dH F aj;go_wp2_with fail;go_roundg(2-i)
       case measure=>omega
       case rel=>exact⟨i+1,aj,fA,by rw[f.out];exact qO,o,q⟩
      ·obtain rfl:i=3:=aj
       go_wp2_with fail;go_roundg(2-m)
       case measure=>omega
       case rel=>exact⟨m+1,aj,fA,Z,U,Y⟩
    ·obtain rfl:m=3:=aj
     rw[←qI]at Z;generalize iZ W H p b x y r=I at*;have z6:=Z.c6;have z7:=Z.c7;have R:=qQ.keep Y;have y0:=R.c0;have y1:=R.c1;have f0:=R.frozen 0;have f1:=R.frozen 1;have v:=(R.store 0 I.vx).store 1 I.vy;have qq:=ay (((qA.trans (Y.mono aj)).setCell (p:=(aH (w.heap.size+1) 0)) bK I.vx).setCell (p:=(aH (w.heap.size+1) 1)) bK I.vy);have x0:=v.c0;have x1:=v.c1;clear R v;go_wp2_with fail;exact aT (by simp[results,results285,go_sem,x0,x1]) rfl ⟨rfl,qq.out⟩
inductive tC
 |ahead
 |moved (vx vy:Int) (l:aO)
 |large (mode:Int) (l:aO)
 |small (ms:Nat→Int) (ls:Nat→aO)
def wZ(s:tC × Int)(c:tC)(Z:Int):tC × Int:=if s.2<0∨Z<s.2 then(c,Z)else s
section
variable(W H x y qp r:Nat)(b p q:aO)
def FY(s:tC × Int):tC:=(wZ (wZ s (.large (kX W x y 8 p b).1 (Df W x y 8 6 qp p b)) (4*(kX W x y 8 p b).2+8)) (.small (mg W x y qp b p) (xZ W x y qp b p)) (jY W x y qp b p 4).2).1
def lG(key:Bool):tC:=
 if key then FY W x y qp b p (.ahead,-1)
 else if Bl (xY 6 qp b (gK W H q x y 0 0))then .ahead
 else FY W x y qp b p (wZ (.ahead,-1) (.moved (iZ W H q b x y r).vx (iZ W H q b x y r).vy (xY 6 qp b (gK W H q x y (iZ W H q b x y r).vx (iZ W H q b x y r).vy)))
  (ED (gK W H q x y (iZ W H q b x y r).vx (iZ W H q b x y r).vy) b (iZ W H q b x y r).vx (iZ W H q b x y r).vy))
def Oi:tC→aO
 | .ahead=>DI W x y 8 (gK W H q x y 0 0) p
 | .moved Y X l=>DI W x y 8 (GY 6 qp (gK W H q x y Y X) l) p
 | .large Z l=>AO W x y 8 6 qp Z l p
 | .small V U=>Ad W x y qp V U p 4
end
def wF(ms:Nat→Int)(ls:Nat→aO):Nat→List iH
 |0=>[]
 |i+1=>wF ms ls i++(Bh (ms i).toNat++lM 14 15 (ls i) (dF 4))
def EF(key:Bool):tC→List iH
 | .ahead=>Ey 0
 | .moved Y X l=>Ey 1++(sV Y++(sV X++lM 39 63 l (dF 8)))
 | .large Z l=>(if key then [.f false]else Ey 2)++(Bh Z.toNat++lM 39 63 l (dF 8))
 | .small W V=>(if key then [.f true]else Ey 3)++wF W V 4
def tC.good(key:Bool):tC→Prop
 | .ahead=>key=false
 | .moved Y X l=>key=false∧(-15≤Y∧Y≤15)∧(-15≤X∧X≤15)∧l.length=64∧∀v∈l,-16320≤v∧v≤16320
 | .large Z l=>(0≤Z∧Z≤3)∧l.length=64∧∀v∈l,-16320≤v∧v≤16320
 | .small W V=>∀i,i<4→(0≤W i∧W i≤3)∧(V i).length=16∧∀v∈V i,-16320≤v∧v≤16320
theorem Nr{bs:Nat}(h:bs≤39)(n:Nat):dM (l9 (fun i=>bs+17+min i 7) n 14):=KR (fun i=>aj) _ _
section
variable{base g ge c:Nat}{A:dK}{m:jD}
theorem Qw{bs:Nat}{v:Int}(J:bs≤39)(hk: -16320≤v∧v≤16320)(hv:v≠0)(z:m.ok)(hl:m.e.out.length≤700000)(w:aK)(qa:base≤w)(h:EO w base g ge A c m):
  Calls prog 332 #[cdV g,bs,v] w fun e w'=>e=bM v∧jE w base g ge A (dU m (sJ bs v)) w':=by
 have H1:=ay (fun b=>EC (b:=b) z aj w qa h);have mB:=afj (aH g 0);have mF:=aa0 (aH g 0);obtain⟨S,hS⟩:∃S:Nat,v.natAbs=S+1:=⟨v.natAbs-1,aj⟩;have qj:max v (-v)=(S:Int)+1:=aj
 obtain⟨T,q⟩:∃T:Nat,T=min S 14:=⟨_,rfl⟩;have t:T≤14:=aj
 have qk:T≤S:=aj
 have ql:T=S∨T=14:=aj
 change Hid _ at q;have r:=fun d=>dM.f1 d
 change Hid _ at z;clear h
 by_cases hd:v<0
 ·have y:Hid (sJ bs v=[.f true]++l9 (fun i=>bs+17+min i 7) T 14++(if 14≤S then BK (S+1-14)else [])):=ay (by unfold sJ;rw[(aj:v.natAbs-1=S),←q,(aj:v.natAbs-14=S+1-14),show decide (v<0)=true by simpa using hd])
  go_enter func332,ntmps332;go_wp2_with fail;refine(H1 _).aQ ?_;rintro M N
  skip
  have G:Hid (jE w base g ge A (dU m [.f true]) M):=ay N;clear N;go_wp2_with fail
  go_loopg [9] (14:Nat) (fun n p wr=>∃j:Nat,j+n=14∧j≤T∧p=j∧jE w base g ge A (dU m ([.f true]++jZ (fun i=>bs+17+min i 7) j)) wr)
  case atStart=>exact⟨0,aj,aj,rfl,by simpa[jZ]using G.out⟩
  case round=>
   obtain⟨j,hj,qe,rfl,N⟩:=hrel;have qf:=N.size;have X:=dM.app (r true) (BN (fun i hi=>(aj:bs+17+min i 7<64)) j aj);have Y:=lI z X;have O:=AV (fun i=>bs+17+min i 7) j;have W:=fU [.f true] (jZ (fun i=>bs+17+min i 7) j);have F:=(show fE ([.f true]:List iH)=1 from rfl)
   by_cases o:j<14
   ·have qg:(j:Int)<14:=aj
    obtain⟨l,k,V,R,Q⟩:=N
    by_cases qh:j<T
    ·have s:(j:Int)<(T:Nat):=aj
     have L:=ay (rW (b:=true) (x:=(fun i=>bs+17+min i 7) j) (by have:=(aj:bs+17+min j 7<64);omega) Y.1 aj wr aj V);change Hid _ at R Q;clear V X Y;have I:Hid ((bs:Int)+17+min (j:Int) 7=((bs+17+min j 7:Nat):Int)):=ay aj;have E:(j:Int)<(S:Int):=aj
     go_wp2_with fail;rw[I.out];refine L.aQ ?_;rintro M Z;have P:=ay (jE.step R Q Z);clear Z;go_wp2_with fail;go_roundg(gk-1)
     case measure=>omega
     case rel=>exact⟨j+1,aj,aj,fA,by rw[AU,←wQ,fM,ku];exact P⟩
    ·obtain rfl:j=T:=aj
     have L:=ay (rW (b:=false) (x:=(fun i=>bs+17+min i 7) j) (by have:=(aj:bs+17+min j 7<64);omega) Y.1 aj wr aj V);change Hid _ at R Q;clear V X Y;have I:Hid ((bs:Int)+17+min (j:Int) 7=((bs+17+min j 7:Nat):Int)):=ay aj;have E:¬(j:Int)<(S:Int):=aj
     go_wp2_with fail;rw[I.out];refine L.aQ ?_;rintro M Z;have P:=ay (jE.step R Q Z);clear Z;have P:Hid (jE w base g ge A (dU m ([.f true]++l9 (fun i=>bs+17+min i 7) j 14)) M):=ay (by rw[Hg o,←wQ,fM,ku];exact P);have qi:S=j:=aj
     go_wp2_with fail;go_ret;exact⟨by rw[(aj:v= -(j:Int)-1)];rfl,by rw[y,au aj,gI];exact P⟩
   ·obtain rfl:j=14:=aj
    have P:Hid (jE w base g ge A (dU m ([.f true]++l9 (fun i=>bs+17+min i 7) T 14)) wr):=ay (by rw[(aj:T=14),Hl];exact N);obtain⟨U,H⟩:∃U:Nat,U=S+1-14:=⟨_,rfl⟩;have a:Hid ((S:Int)-14+1=(U:Int)):=ay aj;have D:1≤U∧U<16384:=aj
    have Y:=lI z (dM.app (r true) (Nr J T));have O:=Dy (ctx:=fun i=>bs+17+min i 7) (n:=T) (most:=14) t;have W:=fU [.f true] (l9 (fun i=>bs+17+min i 7) T 14);have F:=(show fE ([.f true]:List iH)=1 from rfl);obtain⟨l,k,V,R,Q⟩:=P;have L:=ay (aa2 (u:=U) D Y.1 aj wr aj V);have K:14≤S:=aj
    change Hid _ at R Q H;clear V Y;go_wp2_with fail;rw[a];refine L.aQ ?_;rintro M Z;have C:=ay (jE.step R Q Z);clear Z;go_wp2_with fail;go_ret;have B:v= -(13+(U:Int))-1:=by have:=H.out;omega
    exact⟨by rw[B];rfl,by rw[y,aF K,←H,fM];exact C⟩
 ·have y:Hid (sJ bs v=[.f false]++l9 (fun i=>bs+17+min i 7) T 14++(if 14≤S then BK (S+1-14)else [])):=ay (by unfold sJ;rw[(aj:v.natAbs-1=S),←q,(aj:v.natAbs-14=S+1-14),show decide (v<0)=false by simp;omega])
  go_enter func332,ntmps332;go_wp2_with fail;refine(H1 _).aQ ?_;rintro M N
  skip
  have G:Hid (jE w base g ge A (dU m [.f false]) M):=ay N;clear N;go_wp2_with fail
  go_loopg [9] (14:Nat) (fun n p wr=>∃j:Nat,j+n=14∧j≤T∧p=j∧jE w base g ge A (dU m ([.f false]++jZ (fun i=>bs+17+min i 7) j)) wr)
  case atStart=>exact⟨0,aj,aj,rfl,by simpa[jZ]using G.out⟩
  case round=>
   obtain⟨j,hj,qe,rfl,N⟩:=hrel;have qf:=N.size;have X:dM ([.f false]++jZ (fun i=>bs+17+min i 7) j):=dM.app (r false) (BN (fun i hi=>(aj:bs+17+min i 7<64)) j aj);have Y:=lI z X;have O:=AV (fun i=>bs+17+min i 7) j;have W:=fU [.f false] (jZ (fun i=>bs+17+min i 7) j);have F:=(show fE ([.f false]:List iH)=1 from rfl)
   by_cases o:j<14
   ·have qg:(j:Int)<14:=aj
    obtain⟨l,k,V,R,Q⟩:=N
    by_cases qh:j<T
    ·have s:(j:Int)<(T:Nat):=aj
     have L:=ay (rW (b:=true) (x:=(fun i=>bs+17+min i 7) j) (by have:=(aj:bs+17+min j 7<64);omega) Y.1 aj wr aj V);change Hid _ at R Q;clear V X Y;have I:Hid ((bs:Int)+17+min (j:Int) 7=((bs+17+min j 7:Nat):Int)):=ay aj;have E:(j:Int)<(S:Int):=aj
     go_wp2_with fail;rw[I.out];refine L.aQ ?_;rintro M Z;have P:=ay (jE.step R Q Z);clear Z;go_wp2_with fail;go_roundg(gk-1)
     case measure=>omega
     case rel=>exact⟨j+1,aj,aj,fA,by rw[AU,←wQ,fM,ku];exact P⟩
    ·obtain rfl:j=T:=aj
     have L:=ay (rW (b:=false) (x:=(fun i=>bs+17+min i 7) j) (by have:=(aj:bs+17+min j 7<64);omega) Y.1 aj wr aj V);change Hid _ at R Q;clear V X Y;have I:Hid ((bs:Int)+17+min (j:Int) 7=((bs+17+min j 7:Nat):Int)):=ay aj;have E:¬(j:Int)<(S:Int):=aj
     go_wp2_with fail;rw[I.out];refine L.aQ ?_;rintro M Z;have P:=ay (jE.step R Q Z);clear Z;have P:Hid (jE w base g ge A (dU m ([.f false]++l9 (fun i=>bs+17+min i 7) j 14)) M):=ay (by rw[Hg o,←wQ,fM,ku];exact P);have qi:S=j:=aj
     go_wp2_with fail;go_ret;exact⟨by rw[(aj:v=(j:Int)+1)];rfl,by rw[y,au aj,gI];exact P⟩
   ·obtain rfl:j=14:=aj
    have P:Hid (jE w base g ge A (dU m ([.f false]++l9 (fun i=>bs+17+min i 7) T 14)) wr):=ay (by rw[(aj:T=14),Hl];exact N);obtain⟨U,H⟩:∃U:Nat,U=S+1-14:=⟨_,rfl⟩;have a:Hid ((S:Int)-14+1=(U:Int)):=ay aj;have D:1≤U∧U<16384:=aj
    have Y:=lI z (dM.app (r false) (Nr J T));have O:=Dy (ctx:=fun i=>bs+17+min i 7) (n:=T) (most:=14) t;have W:=fU [.f false] (l9 (fun i=>bs+17+min i 7) T 14);have F:=(show fE ([.f false]:List iH)=1 from rfl);obtain⟨l,k,V,R,Q⟩:=P;have L:=ay (aa2 (u:=U) D Y.1 aj wr aj V);have K:14≤S:=aj
    change Hid _ at R Q H;clear V Y;go_wp2_with fail;rw[a];refine L.aQ ?_;rintro M Z;have C:=ay (jE.step R Q Z);clear Z;go_wp2_with fail;go_ret;have B:v=13+(U:Int)+1:=by have:=H.out;omega
    exact⟨by rw[B];rfl,by rw[y,aF K,←H,fM];exact C⟩
end
theorem afl(h:Bd (-16320) 16320 l)(w:aK):Tests 338 #[] (fun _=>false) l w:=by
 refine⟨enters_of func338 aW rfl,fun v Z Y X=>?_⟩;have W:=h v Z;have V:¬v< -16320:=aj
 have U:¬v>16320:=aj
 show Calls _ _ #[v] _ _;go_enter func338,ntmps338;go_wp2;go_ret;exact⟨rfl,aU _ _⟩
theorem VG(Y:n=16∨n=64)(h:Bd (-16320) 16320 l)(w:aK)(X:Ls w A n l):Calls prog 329 #[aG A n c] w (Val w iI):=by
 have H:=ay (Ez (c:=c) aj _ (afl h w) X);rcases Y with rfl|rfl
 all_goals(
  go_enter func329,ntmps329;go_wp2_with fail;refine H.aQ ?_;rintro W Z;go_wp2;go_ret;exact⟨rfl,Z⟩)
theorem alG(w:aK):Calls prog 330 #[aB 4] w fun e Z=>e=bM (aB 14)∧w=Z:=by
 go_enter func330,ntmps330;go_wp2;go_ret;exact sD
theorem alH(w:aK):Calls prog 330 #[aB 8] w fun e Z=>e=bM (aB 39)∧w=Z:=by
 go_enter func330,ntmps330;go_wp2;go_ret;exact sD
section
variable{base g ge c:Nat}{A:dK}{m:jD}
structure Hz(w:World)(base g ge:Nat)(A:Option Addr)(M:jD)(wr:World)(N b:Nat)(L:Option Addr)(d:Nat)(l:List Int)(b2:Nat)(O:Option Addr)(oc:Nat)(ol:List Int)(q qc:Nat)(X:List Int):Prop where
 tH:jE w base g ge A M wr
 own:Own wr b L N d l
 ord:Own wr b2 O N oc ol
 out:Own wr w.heap.size (some (aH q 0)) N qc X
theorem Hz.call{b:Nat}{O:dK}{X:aO}{M Y:jD}(st:Hz w base g ge A M wr N b L d l j O k s q n X)(h1:EO wr base g ge A1 c1 M)(h2:bQ (fun i=>i=g∨i=ge∨In A i) w wr)(W:∀i,In A1 i→In A i∨w≤i)
  (Z:jE wr base g ge A1 Y u):Hz w base g ge A Y u N b L d l j O k s q n X:=⟨jE.step h2 W Z,st.own.tH h1 Z,st.ord.tH h1 Z,st.out.tH h1 Z⟩
theorem Hz.store{w wr:aK}{N b d k n q o:Nat}{L O:dK}{l s X:aO}{M:jD}(st:Hz w base g ge A M wr N b L d l k O n s q o X)(V:∀i,In L i→i≠q)(U:∀i,In O i→i≠q)(P:w≤q)(j:Nat)(v:Int):
  Hz w base g ge A M (wr.setCell ⟨q,j,none⟩ v) N b L d l k O n s q o (X.set j v):=by
 have Z:=(bQ.refl (fun i=>i=q) wr).setCell (p:=(aH q j)) (fun _=>rfl) v;obtain⟨T,S,Y,R,Q⟩:=st.tH;refine⟨⟨T,S,Y.dH Z ?_ ?_ ?_,R.step Z (fun i K e=>aj),Q⟩,st.own.dH Z (fun p W e=>V p.block ⟨p,W,rfl⟩ e),st.ord.dH Z (fun p W e=>U p.block ⟨p,W,rfl⟩ e),st.out.store j v⟩
 ·rintro rfl;exact dP st.out.row Y.blk bn rfl
 ·rintro rfl;exact dP st.out.row Y.enc.blk bn rfl
 ·rintro i ⟨p,rfl,rfl⟩ rfl
  exact EZ st.out.row Y.enc.own.row bn p.block rfl rfl
theorem ahr{b:Nat}(qo:Bd (-16320) 16320 l)(hm:m.ok)(hl:m.e.out.length≤600000)(w:aK)(qR:base≤w)(hL:Own w b L 16 d l)(h:EO w base g ge A c m):
  Calls prog 314 #[cdV g,aG L 16 d] w fun e w'=>∃B b',e=bM (eP #[aG B 16 b',iI])∧jE w base g ge A (dU m (lM 14 15 l (dF 4))) w':=by
 have qK:=hL.len;have qS:=ay (VG (c:=d) (.inl rfl) qo w hL.ls);have qi:(uh 4).length=16:=by decide+kernel
 have qA:=ay (fun w'=>aaS (n:=4) (.inl rfl) w');rw[qi]at qA;obtain⟨qT,HZ⟩:=aV qi (fun w' (hw:aP w w')=>Vu (c:=d) aj w' (hL.ls.keep hw))
 have G:Bl l=decide (jS l (dF 4)=0):=by
  have hi:=Ko (n:=4) (l:=l) (.inl rfl) qK;unfold Bl
  by_cases y:jS l (dF 4)=0
  ·rw[su y,Bool.not_eq_true',kG]
   intro v hv;simpa using hi.1 y v hv
  ·rw[vH y,Bool.not_eq_false',lT]
   apply kL;intro qB;exact y (hi.2 fun v hv=>kL fun R=>qB ⟨v,hv,by simpa using R⟩)
 have H:=ay h;have mB:=afj (aH g 0);have nB:=amM (aH g 0);have qC:FX l 16=jS l (dF 4):=Pz (n:=4) (.inl rfl);change Hid _ at hm hL qo qC;clear h;go_enter func314,ntmps314;go_wp2_with fail;refine qS.aQ ?_;rintro w1 qD;go_wp2_with fail;refine(alG w1).aQ ?_;rintro w1 rfl;go_wp2_with fail;refine(qA _).mono ?_;rintro e w2 ⟨O,oc,rfl,o2,qE⟩;have qU:=qD.size;have qL:=qD.trans (qE.mono qU);have zo:=qE.size;go_wp2_with(refine aaL rfl _ _ rfl (n:=16) rfl rfl rfl aj ?_;intro w3 o3 qq);have zq:=qq.size;have Z:=qL.trans (qq.mono aj);have qM:=ay (fun p (hp:In O p)=>show p<w2 from(o2.row.lt p (by obtain⟨q,rfl,rfl⟩:=hp;rfl)).2);have o2:=o2.keep qq;have k3:=H.keep Z;have J:=aU w3 w3;have U:=Z.size;have U:=Z.size;obtain⟨qV,qW,HB⟩:=dB o2 o3 (fun b W' (hw:aP w W')=>rW (b:=b) (x:=14) aj hm aj W' (dD qR hw.size) (H.keep hw))
 by_cases y:jS l (dF 4)=0
 ·rw[su y]at G
  rw[G]at HZ;have HS:=ay (show lM 14 15 l (dF 4)=[.c 14 false] by unfold lM;rw[aF y]);clear G y o2 o3 k3
  go_region_held3(fun _=>True) (trivial) (first
   |(go_at_call 282;refine(HZ _ (Z.trans (J.mono U)).drew).aQ ?_;rintro w4 qr;have J:aP w3 w4:=J.drew.trans qr)
   |(go_at_call 376;refine(HB _ _ (Z.trans (J.mono U))).aQ ?_;rintro w5 ho;have F:=Z.trans (J.mono U))
   |fail)
  all_goals(
   have HO:=ay (jE.step (A1:=A) (bQ.of_below F) (fun _ h=>.inl h) ho);clear ho;go_wp2;go_ret2;exact⟨_,_,rfl,by rw[HS];exact HO⟩)
 ·rw[vH y]at G
  rw[G]at HZ;have HS:=ay (show lM 14 15 l (dF 4)=[.c 14 true]++jX 14 15 l 0 (dF 4) by unfold lM;rw[au y]);change Hid _ at y;clear G o2 o3 k3;go_cut [46] (fun qX wx=>qX= .bool false∧Hz w base g ge A (ug m (.c 14 true)) wx 16 b L d l w1 O oc (uh 4) w2 16 (jK 16 fun _=>0))
  case first=>
   go_region_held3(fun _=>True) (trivial) (first
    |(go_at_call 282;refine(HZ _ (Z.trans (J.mono U)).drew).aQ ?_;rintro w4 qr;have J:aP w3 w4:=J.drew.trans qr)
    |(go_at_call 376;refine(HB _ _ (Z.trans (J.mono U))).aQ ?_;rintro w5 ho;have F:=Z.trans (J.mono U))
    |fail)
   all_goals(
    have k5:=H.keep F;have ST:=ay (Hz.mk (L:=L) (O:=O) (jE.step (A1:=A) (bQ.of_below F) (fun _ h=>.inl h) ho) ((hL.keep F).tH k5 ho) ((qV.out.keep J).tH k5 ho) (((qW.out.keep J).lower aj).tH k5 ho));clear ho k5 F J;go_wp2;go_meet;exact⟨rfl,ST⟩)
  case rest=>
   obtain⟨rfl,qs⟩:=hcut;change Hid _ at qs;clear J;go_wp2_with fail
   go_loopg [12,14,50] (16:Nat) (fun k qt zr qY wr=>∃j:Nat,j+k=16∧qt=(FX l j)∧qY=j∧wr=wc)
   case atStart=>exact⟨0,aj,rfl,rfl,rfl⟩
   case round=>
    obtain⟨j,hj,rfl,rfl,rfl⟩:=hrel
    by_cases D:j<16
    ·obtain⟨bb,oo,rfl,kk⟩:=qs.own.ls.at_ D
     have qN:(j:Int)<16:=aj
     have z:=TG l j;have zt:=Yk l j;generalize FX l j=C at*;generalize l.getD j 0=x at*
     by_cases hx:x=0
     ·rw[au aj]at z
      have qZ:(x != 0)=false:=by simpa using hx
      change Hid _ at z;go_wp2_with fail;go_roundg(gk-1)
      case measure=>omega
      case rel=>exact⟨j+1,aj,by rw[z],fA,rfl⟩
     ·rw[aF hx]at z
      have qZ:(x != 0)=true:=by simpa using hx
      change Hid _ at z;go_wp2_with fail;go_roundg(gk-1)
      case measure=>omega
      case rel=>exact⟨j+1,aj,by rw[z];go_num,fA,rfl⟩
    ·obtain rfl:j=16:=aj
     have qi:=qT.out;have qj:=sU (s:=.c 14 true) hm (fun n b e=>by injection e;omega);simp only[nI]at qj;have za:=ay (show dU (ug m (.c 14 true)) (jX 14 15 l 0 ((dF 4).drop 0))=dU m (lM 14 15 l (dF 4)) by rw[HS,fM];rfl);generalize qu:dU m (lM 14 15 l (dF 4))=E at*;change Hid _ at qu qj;clear qi;rw[qC];go_wp2_with fail
     go_loopg [12,15,16,17,18,61] (16:Nat) (fun k qt zu zv zw zx zb wq=>∃(i:Nat) (M:jD) (X:aO),i+k=16∧zb=i∧qt=(jS l ((dF 4).drop i))∧M.ok∧M.e.out.length+59*(16-i)≤605000∧
      dU M (jX 14 15 l i ((dF 4).drop i))=E∧(i<16→0<jS l ((dF 4).drop i))∧Hz w base g ge A M wq 16 b L d l w1 O oc (uh 4) w2 16 X)
     case atStart=>exact⟨0,_,_,aj,rfl,rfl,qj.1,by have:=qj.2;omega,za,fun _=>Nat.pos_of_ne_zero y,qs⟩
     case round=>
      obtain⟨i,M,X,hi,rfl,rfl,T,zy,hE,qm,st⟩:=hrel
      by_cases D:i<16
      ·have qN:(i:Int)<16:=aj
       have hd:=Qr (n:=4) (.inl rfl) D;have ha:=VA (n:=4) (.inl rfl) D;obtain⟨ob,oo,hO,ok⟩:=st.ord.ls.at_ D;rw[VB (n:=4) (.inl rfl)]at ok;generalize(dF 4).getD i 0=a at*;have S:=qm D;rw[hd]at hE S;rw[hd];obtain⟨lb,lo,zc,lk⟩:=st.own.ls.at_ (i:=a) ha;have qv:=Qs l a ((dF 4).drop (i+1));have hv:=dO qo aj aj a;have zn:jS l ((dF 4).drop (i+1))≤16:=dD (VD _ _) (by rw[Hw,uz (n:=4) (.inl rfl)];omega)
       rw[show jX 14 15 l i (a::(dF 4).drop (i+1))=if i<15∧l.getD a 0=0 then [.c (14+1+min i 7) false]++jX 14 15 l (i+1) ((dF 4).drop (i+1))
        else(if i<15 then [.c (14+1+min i 7) true]else [])++sJ 14 (l.getD a 0)++(if i<15 then [.c (14+9+min i 7) (decide (jS l ((dF 4).drop (i+1))=0))]++(if jS l ((dF 4).drop (i+1))=0 then []else jX 14 15 l (i+1) ((dF 4).drop (i+1)))else [])from rfl]at hE
       have qO:i+1=16→jS l ((dF 4).drop (i+1))=0:=fun e=>by rw[e,iU (by rw[uz (n:=4) (.inl rfl)];omega)];rfl
       have qh:i+1=16→jX 14 15 l (i+1) ((dF 4).drop (i+1))=[]:=fun e=>by rw[e,iU (by rw[uz (n:=4) (.inl rfl)];omega)];rfl
       rw[(aj:14+1+min i 7=15+min i 7),(aj:14+9+min i 7=23+min i 7)]at hE;rw[qv]at S;rw[qv];generalize hT:jX 14 15 l (i+1) ((dF 4).drop (i+1))=TT at hE qh;generalize hC:jS l ((dF 4).drop (i+1))=C at*;generalize hV:l.getD a 0=v at*;have zA:(a:Int)<16:=aj
       have qF:Hid ((15:Int)+min (i:Int) 7=((15+min i 7:Nat):Int)):=ay aj;have qG:Hid ((23:Int)+min (i:Int) 7=((23+min i 7:Nat):Int)):=ay aj;have zB:=st.tH.size;obtain⟨A1,c1,h1,h2,h3⟩:=st.tH;obtain⟨qH,qI⟩:=aV (fun p (hp:In L p)=>show p≠w2 from by have:=(hL.row.lt p (by obtain⟨q,rfl,rfl⟩:=hp;rfl)).2;omega) (fun p (hp:In O p)=>show p≠w2 from by have:=qM p hp;omega);subst hO;subst zc;change Hid _ at hE hC hT hd h1 h2 h3 st;clear qv
       by_cases R:v=0
       ·rw[au aj]at S ⊢
        have hl:i<15:=by
         apply kL;intro qB;have:=qO aj;omega
        have qJ:(i:Int)<15:=aj
        have W:=hE.out;rw[aF ⟨hl,R⟩,fM,ku]at W;obtain⟨HW,Q⟩:=aV (rW (b:=false) (x:=15+min i 7) aj T aj wr aj h1) (sU (s:=.c (15+min i 7) false) T (fun n b e=>by injection e;omega));have ze:(v != 0)=false:=by simpa using R
        change Hid _ at W;clear T;go_wp2_with fail;rw[qF.out];refine HW.aQ ?_;rintro w6 u;have zf:=ay (st.call h1 h2 h3 u);clear u;go_wp2_with fail;go_roundg(gk-1)
        case measure=>omega
        case rel=>exact⟨i+1,_,X,aj,fA,by rw[hC],Q.out.1,by have:=Q.out.2;simp only[nI]at this;omega,by rw[hT];exact W,fun _=>by rw[hC];omega,zf⟩
       ·rw[aF R]at S ⊢
        have ze:(v != 0)=true:=by simpa using R
        by_cases hl:i<15
        ·have qJ:(i:Int)<15:=aj
         have W:=hE.out;rw[au aj,aF hl,aF hl,fM,fM,ku,fM,ku]at W;have HW:=ay (rW (b:=true) (x:=15+min i 7) aj T aj wr aj h1);have Q:=sU (s:=.c (15+min i 7) true) T (fun n b e=>by injection e;omega);simp only[nI]at Q;have Y:=lI Q.1 (Dz (base:=14) aj v);have zg:=BL (base:=14) hv;have I:=sU (s:=.c (23+min i 7) (decide (C=0))) Y.1 (fun n b e=>by injection e;omega);simp only[nI]at I;obtain⟨zh,qg,qP⟩:=dB Q.1 Y.1 I.1;have zC:=Q.2;have zi:=Y.2;have zD:=I.2;change Hid _ at W;clear Q Y I;generalize zj:ug M (.c (15+min i 7) true)=M6 at*;generalize t:dU M6 (sJ 14 v)=M7 at*;generalize r:ug M7 (.c (23+min i 7) (decide (C=0)))=M9 at*;change Hid _ at t r T;clear zj;go_wp2_with fail;rw[qF.out];refine HW.aQ ?_;rintro w6 u;have qk:=st.call h1 h2 h3 u;have zE:=qk.tH.size;obtain⟨A2,c2,k1,k2,k3⟩:=qk.tH;have o:=ay (Qw (bs:=14) aj hv R zh aj w6 aj k1);change Hid _ at qk k1 k2 k3;clear u HW;go_wp2_with fail;refine o.aQ ?_;rintro w7 N;rw[t]at N;have P:=qk.call k1 k2 k3 N;have zF:=P.tH.size;obtain⟨q,V,qw,zk,f,qa⟩:=P.out.form aj;injection V with V
         injection V with V
         subst V;have z1:=f a aj;have z2:=qa a;have qe:=P.store qH qI qw a v;obtain⟨A3,c3,j1,j2,j3⟩:=qe.tH;have ql:=ay (rW (b:=decide (C=0)) (x:=23+min i 7) aj qg aj _ (by have:=qe.tH.size;omega) j1);change Hid _ at qe j1 j2 j3;clear N P o f qa
         by_cases qf:C=0
         ·have qy:decide (C=0)=true:=su qf
          rw[qy]at ql r;have qQ:(C:Int)=0:=aj
          go_wp2_with fail;rw[qG.out];refine ql.aQ ?_;rintro w9 K;rw[r]at K;have qz:=ay (qe.call j1 j2 j3 K);clear K z1 z2;go_wp2_with fail;go_ret2;exact⟨_,_,rfl,by rw[qu,←W,aF qf,Tv];exact qz.tH⟩
         ·have qy:decide (C=0)=false:=vH qf
          rw[qy]at ql r;have qQ:¬(C:Int)=0:=aj
          have zG:((C:Int)==0)=false:=by simpa using qf
          go_wp2_with fail;rw[qG.out];refine ql.aQ ?_;rintro w9 K;rw[r]at K;have qz:=ay (qe.call j1 j2 j3 K);clear K z1 z2;go_wp2_with fail;go_roundg(gk-1)
          case measure=>omega
          case rel=>exact⟨i+1,M9,_,aj,fA,by rw[hC],qP,aj,by rw[hT,←W,au qf],fun _=>by rw[hC];omega,qz⟩
        ·have qJ:¬(i:Int)<15:=aj
         have W:=hE.out;rw[au aj,au hl,au hl,jI,gI]at W;have Y:=lI T (Dz (base:=14) aj v);have zg:=BL (base:=14) hv;have qg:=ay Y.1;have zi:=Y.2;obtain⟨o,zl⟩:=aV (Qw (bs:=14) aj hv R T aj wr aj h1) (qh aj);generalize t:dU M (sJ 14 v)=M7 at*;change Hid _ at W t;clear Y T;go_wp2_with fail;refine o.aQ ?_;rintro w7 N
         try rw[t]at N
         have P:=st.call h1 h2 h3 N;obtain⟨q,V,qw,zk,f,qa⟩:=P.out.form aj;injection V with V
         injection V with V
         subst V;have z1:=f a aj;have z2:=qa a;have zm:=ay (P.store qH qI qw a v);clear N P o f qa;go_wp2_with fail;go_roundg(gk-1)
         case measure=>omega
         case rel=>exact⟨i+1,M7,_,aj,fA,by rw[hC],qg,aj,by rw[hT,zl];exact W,fun h=>aj,zm⟩
      ·obtain rfl:i=16:=aj
       change Hid _ at hE st;clear qm;go_wp2_with fail;go_ret2;exact⟨_,_,rfl,by rw[qu,←hE,iU (by rw[uz (n:=4) (.inl rfl)];omega)];exact st.tH⟩
end
section
variable{base g ge c:Nat}{A:dK}{m:jD}
theorem aa3{b:Nat}(qo:Bd (-16320) 16320 l)(hm:m.ok)(hl:m.e.out.length≤600000)(w:aK)(qR:base≤w)(hL:Own w b L 64 d l)(h:EO w base g ge A c m):
  Calls prog 314 #[cdV g,aG L 64 d] w fun e w'=>∃B b',e=bM (eP #[aG B 64 b',iI])∧jE w base g ge A (dU m (lM 39 63 l (dF 8))) w':=by
 have qK:=hL.len;have qS:=ay (VG (c:=d) (.inr rfl) qo w hL.ls);have qi:(uh 8).length=64:=by decide+kernel
 have qA:=ay (fun w'=>aaS (n:=8) (.inr rfl) w');rw[qi]at qA;obtain⟨qT,HZ⟩:=aV qi (fun w' (hw:aP w w')=>Vu (c:=d) aj w' (hL.ls.keep hw))
 have G:Bl l=decide (jS l (dF 8)=0):=by
  have hi:=Ko (n:=8) (l:=l) (.inr rfl) qK;unfold Bl
  by_cases y:jS l (dF 8)=0
  ·rw[su y,Bool.not_eq_true',kG]
   intro v hv;simpa using hi.1 y v hv
  ·rw[vH y,Bool.not_eq_false',lT]
   apply kL;intro qB;exact y (hi.2 fun v hv=>kL fun R=>qB ⟨v,hv,by simpa using R⟩)
 have H:=ay h;have mB:=afj (aH g 0);have nB:=amM (aH g 0);have qC:FX l 64=jS l (dF 8):=Pz (n:=8) (.inr rfl);change Hid _ at hm hL qo qC;clear h;go_enter func314,ntmps314;go_wp2_with fail;refine qS.aQ ?_;rintro w1 qD;go_wp2_with fail;refine(alH w1).aQ ?_;rintro w1 rfl;go_wp2_with fail;refine(qA _).mono ?_;rintro e w2 ⟨O,oc,rfl,o2,qE⟩;have qU:=qD.size;have qL:=qD.trans (qE.mono qU);have zo:=qE.size;go_wp2_with(refine aaL rfl _ _ rfl (n:=64) rfl rfl rfl aj ?_;intro w3 o3 qq);have zq:=qq.size;have Z:=qL.trans (qq.mono aj);have qM:=ay (fun p (hp:In O p)=>show p<w2 from(o2.row.lt p (by obtain⟨q,rfl,rfl⟩:=hp;rfl)).2);have o2:=o2.keep qq;have k3:=H.keep Z;have J:=aU w3 w3;have U:=Z.size;have U:=Z.size;obtain⟨qV,qW,HB⟩:=dB o2 o3 (fun b W' (hw:aP w W')=>rW (b:=b) (x:=39) aj hm aj W' (dD qR hw.size) (H.keep hw))
 by_cases y:jS l (dF 8)=0
 ·rw[su y]at G
  rw[G]at HZ;have HS:=ay (show lM 39 63 l (dF 8)=[.c 39 false] by unfold lM;rw[aF y]);clear G y o2 o3 k3
  go_region_held3(fun _=>True) (trivial) (first
   |(go_at_call 282;refine(HZ _ (Z.trans (J.mono U)).drew).aQ ?_;rintro w4 qr;have J:aP w3 w4:=J.drew.trans qr)
   |(go_at_call 376;refine(HB _ _ (Z.trans (J.mono U))).aQ ?_;rintro w5 ho;have F:=Z.trans (J.mono U))
   |fail)
  all_goals(
   have HO:=ay (jE.step (A1:=A) (bQ.of_below F) (fun _ h=>.inl h) ho);clear ho;go_wp2;go_ret2;exact⟨_,_,rfl,by rw[HS];exact HO⟩)
 ·rw[vH y]at G
  rw[G]at HZ;have HS:=ay (show lM 39 63 l (dF 8)=[.c 39 true]++jX 39 63 l 0 (dF 8) by unfold lM;rw[au y]);change Hid _ at y;clear G o2 o3 k3;go_cut [46] (fun qX wx=>qX= .bool false∧Hz w base g ge A (ug m (.c 39 true)) wx 64 b L d l w1 O oc (uh 8) w2 64 (jK 64 fun _=>0))
  case first=>
   go_region_held3(fun _=>True) (trivial) (first
    |(go_at_call 282;refine(HZ _ (Z.trans (J.mono U)).drew).aQ ?_;rintro w4 qr;have J:aP w3 w4:=J.drew.trans qr)
    |(go_at_call 376;refine(HB _ _ (Z.trans (J.mono U))).aQ ?_;rintro w5 ho;have F:=Z.trans (J.mono U))
    |fail)
   all_goals(
    have k5:=H.keep F;have ST:=ay (Hz.mk (L:=L) (O:=O) (jE.step (A1:=A) (bQ.of_below F) (fun _ h=>.inl h) ho) ((hL.keep F).tH k5 ho) ((qV.out.keep J).tH k5 ho) (((qW.out.keep J).lower aj).tH k5 ho));clear ho k5 F J;go_wp2;go_meet;exact⟨rfl,ST⟩)
  case rest=>
   obtain⟨rfl,qs⟩:=hcut;change Hid _ at qs;clear J;go_wp2_with fail
   go_loopg [12,14,50] (64:Nat) (fun k qt zr qY wr=>∃j:Nat,j+k=64∧qt=(FX l j)∧qY=j∧wr=wc)
   case atStart=>exact⟨0,aj,rfl,rfl,rfl⟩
   case round=>
    obtain⟨j,hj,rfl,rfl,rfl⟩:=hrel
    by_cases D:j<64
    ·obtain⟨bb,oo,rfl,kk⟩:=qs.own.ls.at_ D
     have qN:(j:Int)<64:=aj
     have z:=TG l j;have zt:=Yk l j;generalize FX l j=C at*;generalize l.getD j 0=x at*
     by_cases hx:x=0
     ·rw[au aj]at z
      have qZ:(x != 0)=false:=by simpa using hx
      change Hid _ at z;go_wp2_with fail;go_roundg(gk-1)
      case measure=>omega
      case rel=>exact⟨j+1,aj,by rw[z],fA,rfl⟩
     ·rw[aF hx]at z
      have qZ:(x != 0)=true:=by simpa using hx
      change Hid _ at z;go_wp2_with fail;go_roundg(gk-1)
      case measure=>omega
      case rel=>exact⟨j+1,aj,by rw[z];go_num,fA,rfl⟩
    ·obtain rfl:j=64:=aj
     have qi:=qT.out;have qj:=sU (s:=.c 39 true) hm (fun n b e=>by injection e;omega);simp only[nI]at qj;have za:=ay (show dU (ug m (.c 39 true)) (jX 39 63 l 0 ((dF 8).drop 0))=dU m (lM 39 63 l (dF 8)) by rw[HS,fM];rfl);generalize qu:dU m (lM 39 63 l (dF 8))=E at*;change Hid _ at qu qj;clear qi;rw[qC];go_wp2_with fail
     go_loopg [12,15,16,17,18,61] (64:Nat) (fun k qt zu zv zw zx zb wq=>∃(i:Nat) (M:jD) (X:aO),i+k=64∧zb=i∧qt=(jS l ((dF 8).drop i))∧M.ok∧M.e.out.length+59*(64-i)≤605000∧
      dU M (jX 39 63 l i ((dF 8).drop i))=E∧(i<64→0<jS l ((dF 8).drop i))∧Hz w base g ge A M wq 64 b L d l w1 O oc (uh 8) w2 64 X)
     case atStart=>exact⟨0,_,_,aj,rfl,rfl,qj.1,by have:=qj.2;omega,za,fun _=>Nat.pos_of_ne_zero y,qs⟩
     case round=>
      obtain⟨i,M,X,hi,rfl,rfl,T,zy,hE,qm,st⟩:=hrel
      by_cases D:i<64
      ·have qN:(i:Int)<64:=aj
       have hd:=Qr (n:=8) (.inr rfl) D;have ha:=VA (n:=8) (.inr rfl) D;obtain⟨ob,oo,hO,ok⟩:=st.ord.ls.at_ D;rw[VB (n:=8) (.inr rfl)]at ok;generalize(dF 8).getD i 0=a at*;have S:=qm D;rw[hd]at hE S;rw[hd];obtain⟨lb,lo,zc,lk⟩:=st.own.ls.at_ (i:=a) ha;have qv:=Qs l a ((dF 8).drop (i+1));have hv:=dO qo aj aj a;have zn:jS l ((dF 8).drop (i+1))≤64:=dD (VD _ _) (by rw[Hw,uz (n:=8) (.inr rfl)];omega)
       rw[show jX 39 63 l i (a::(dF 8).drop (i+1))=if i<63∧l.getD a 0=0 then [.c (39+1+min i 7) false]++jX 39 63 l (i+1) ((dF 8).drop (i+1))
        else(if i<63 then [.c (39+1+min i 7) true]else [])++sJ 39 (l.getD a 0)++(if i<63 then [.c (39+9+min i 7) (decide (jS l ((dF 8).drop (i+1))=0))]++(if jS l ((dF 8).drop (i+1))=0 then []else jX 39 63 l (i+1) ((dF 8).drop (i+1)))else [])from rfl]at hE
       have qO:i+1=64→jS l ((dF 8).drop (i+1))=0:=fun e=>by rw[e,iU (by rw[uz (n:=8) (.inr rfl)];omega)];rfl
       have qh:i+1=64→jX 39 63 l (i+1) ((dF 8).drop (i+1))=[]:=fun e=>by rw[e,iU (by rw[uz (n:=8) (.inr rfl)];omega)];rfl
       rw[(aj:39+1+min i 7=40+min i 7),(aj:39+9+min i 7=48+min i 7)]at hE;rw[qv]at S;rw[qv];generalize hT:jX 39 63 l (i+1) ((dF 8).drop (i+1))=TT at hE qh;generalize hC:jS l ((dF 8).drop (i+1))=C at*;generalize hV:l.getD a 0=v at*;have zA:(a:Int)<64:=aj
       have qF:Hid ((40:Int)+min (i:Int) 7=((40+min i 7:Nat):Int)):=ay aj;have qG:Hid ((48:Int)+min (i:Int) 7=((48+min i 7:Nat):Int)):=ay aj;have zB:=st.tH.size;obtain⟨A1,c1,h1,h2,h3⟩:=st.tH;obtain⟨qH,qI⟩:=aV (fun p (hp:In L p)=>show p≠w2 from by have:=(hL.row.lt p (by obtain⟨q,rfl,rfl⟩:=hp;rfl)).2;omega) (fun p (hp:In O p)=>show p≠w2 from by have:=qM p hp;omega);subst hO;subst zc;change Hid _ at hE hC hT hd h1 h2 h3 st;clear qv
       by_cases R:v=0
       ·rw[au aj]at S ⊢
        have hl:i<63:=by
         apply kL;intro qB;have:=qO aj;omega
        have qJ:(i:Int)<63:=aj
        have W:=hE.out;rw[aF ⟨hl,R⟩,fM,ku]at W;obtain⟨HW,Q⟩:=aV (rW (b:=false) (x:=40+min i 7) aj T aj wr aj h1) (sU (s:=.c (40+min i 7) false) T (fun n b e=>by injection e;omega));have ze:(v != 0)=false:=by simpa using R
        change Hid _ at W;clear T;go_wp2_with fail;rw[qF.out];refine HW.aQ ?_;rintro w6 u;have zf:=ay (st.call h1 h2 h3 u);clear u;go_wp2_with fail;go_roundg(gk-1)
        case measure=>omega
        case rel=>exact⟨i+1,_,X,aj,fA,by rw[hC],Q.out.1,by have:=Q.out.2;simp only[nI]at this;omega,by rw[hT];exact W,fun _=>by rw[hC];omega,zf⟩
       ·rw[aF R]at S ⊢
        have ze:(v != 0)=true:=by simpa using R
        by_cases hl:i<63
        ·have qJ:(i:Int)<63:=aj
         have W:=hE.out;rw[au aj,aF hl,aF hl,fM,fM,ku,fM,ku]at W;have HW:=ay (rW (b:=true) (x:=40+min i 7) aj T aj wr aj h1);have Q:=sU (s:=.c (40+min i 7) true) T (fun n b e=>by injection e;omega);simp only[nI]at Q;have Y:=lI Q.1 (Dz (base:=39) aj v);have zg:=BL (base:=39) hv;have I:=sU (s:=.c (48+min i 7) (decide (C=0))) Y.1 (fun n b e=>by injection e;omega);simp only[nI]at I;obtain⟨zh,qg,qP⟩:=dB Q.1 Y.1 I.1;have zC:=Q.2;have zi:=Y.2;have zD:=I.2;change Hid _ at W;clear Q Y I;generalize zj:ug M (.c (40+min i 7) true)=M6 at*;generalize t:dU M6 (sJ 39 v)=M7 at*;generalize r:ug M7 (.c (48+min i 7) (decide (C=0)))=M9 at*;change Hid _ at t r T;clear zj;go_wp2_with fail;rw[qF.out];refine HW.aQ ?_;rintro w6 u;have qk:=st.call h1 h2 h3 u;have zE:=qk.tH.size;obtain⟨A2,c2,k1,k2,k3⟩:=qk.tH;have o:=ay (Qw (bs:=39) aj hv R zh aj w6 aj k1);change Hid _ at qk k1 k2 k3;clear u HW;go_wp2_with fail;refine o.aQ ?_;rintro w7 N;rw[t]at N;have P:=qk.call k1 k2 k3 N;have zF:=P.tH.size;obtain⟨q,V,qw,zk,f,qa⟩:=P.out.form aj;injection V with V
         injection V with V
         subst V;have z1:=f a aj;have z2:=qa a;have qe:=P.store qH qI qw a v;obtain⟨A3,c3,j1,j2,j3⟩:=qe.tH;have ql:=ay (rW (b:=decide (C=0)) (x:=48+min i 7) aj qg aj _ (by have:=qe.tH.size;omega) j1);change Hid _ at qe j1 j2 j3;clear N P o f qa
         by_cases qf:C=0
         ·have qy:decide (C=0)=true:=su qf
          rw[qy]at ql r;have qQ:(C:Int)=0:=aj
          go_wp2_with fail;rw[qG.out];refine ql.aQ ?_;rintro w9 K;rw[r]at K;have qz:=ay (qe.call j1 j2 j3 K);clear K z1 z2;go_wp2_with fail;go_ret2;exact⟨_,_,rfl,by rw[qu,←W,aF qf,Tv];exact qz.tH⟩
         ·have qy:decide (C=0)=false:=vH qf
          rw[qy]at ql r;have qQ:¬(C:Int)=0:=aj
          have zG:((C:Int)==0)=false:=by simpa using qf
          go_wp2_with fail;rw[qG.out];refine ql.aQ ?_;rintro w9 K;rw[r]at K;have qz:=ay (qe.call j1 j2 j3 K);clear K z1 z2;go_wp2_with fail;go_roundg(gk-1)
          case measure=>omega
          case rel=>exact⟨i+1,M9,_,aj,fA,by rw[hC],qP,aj,by rw[hT,←W,au qf],fun _=>by rw[hC];omega,qz⟩
        ·have qJ:¬(i:Int)<63:=aj
         have W:=hE.out;rw[au aj,au hl,au hl,jI,gI]at W;have Y:=lI T (Dz (base:=39) aj v);have zg:=BL (base:=39) hv;have qg:=ay Y.1;have zi:=Y.2;obtain⟨o,zl⟩:=aV (Qw (bs:=39) aj hv R T aj wr aj h1) (qh aj);generalize t:dU M (sJ 39 v)=M7 at*;change Hid _ at W t;clear Y T;go_wp2_with fail;refine o.aQ ?_;rintro w7 N
         try rw[t]at N
         have P:=st.call h1 h2 h3 N;obtain⟨q,V,qw,zk,f,qa⟩:=P.out.form aj;injection V with V
         injection V with V
         subst V;have z1:=f a aj;have z2:=qa a;have zm:=ay (P.store qH qI qw a v);clear N P o f qa;go_wp2_with fail;go_roundg(gk-1)
         case measure=>omega
         case rel=>exact⟨i+1,M7,_,aj,fA,by rw[hC],qg,aj,by rw[hT,zl];exact W,fun h=>aj,zm⟩
      ·obtain rfl:i=64:=aj
       change Hid _ at hE st;clear qm;go_wp2_with fail;go_ret2;exact⟨_,_,rfl,by rw[qu,←hE,iU (by rw[uz (n:=8) (.inr rfl)];omega)];exact st.tH⟩
end
section
variable{base g ge c:Nat}{A:dK}{m:jD}
theorem TJ(b d:Bool):dM [.c 6 b,.f d]:=(dM.c1 aj b).app (dM.f1 d)
theorem aed{v:Int}(hk: -15≤v∧v≤15)(E:m.ok)(hl:m.e.out.length≤800000)(w:aK)(p:base≤w)(h:EO w base g ge A c m):
  Calls prog 315 #[cdV g,v] w fun e D=>e=bM v∧jE w base g ge A (dU m (sV v)) D:=by
 obtain⟨t,r,H2⟩:=dB (fun D=>VF hk D) (fun b=>rW (b:=b) (x:=6) aj E aj w p h) (fun b B z C (hs:w.heap.size≤C.heap.size) d (W:EO C base g ge B z (ug m (.c 6 b)))=>EC (b:=d) (sU (s:=.c 6 b) E (fun n b e=>by injection e;omega)).1 (by have:=(sU (s:=.c 6 b) E (fun n b e=>by injection e;omega)).2;simp only[nI]at this;omega) C aj W);have mB:=afj (aH g 0);have mF:=aa0 (aH g 0);change Hid _ at E;clear h
 by_cases u:v=0
 ·subst u
  have N:=ay (show sV 0=[.c 6 false]from rfl);go_enter func315,ntmps315;go_wp2_with fail;refine(t _).aQ ?_;rintro D rfl;go_wp2_with fail;refine(r _).aQ ?_;rintro C V;change Hid _ at V;go_wp2_with fail;go_ret;exact⟨rfl,by rw[N];exact V⟩
 ·obtain⟨S,hS⟩:∃S:Nat,v.natAbs=S+1:=⟨v.natAbs-1,aj⟩
  have qe:S≤14:=aj
  have qf:max v (-v)=(S:Int)+1:=aj
  have qg:(v != 0)=true:=by simpa using u
  by_cases hd:v<0
  ·have N:Hid (sV v=[.c 6 true,.f true]++l9 (fun i=>7+min i 6) S 14):=ay (by unfold sV;rw[au u,(aj:v.natAbs-1=S),show decide (v<0)=true by simpa using hd])
   go_enter func315,ntmps315;go_wp2_with fail;refine(t _).aQ ?_;rintro D rfl;go_wp2_with fail;refine(r _).aQ ?_;rintro C ⟨B,z,W,U,R⟩;have K:=U.size;obtain⟨J,I,H⟩:=dB W U R;clear W U R;go_wp2_with fail;refine(H2 _ _ _ _ K _ J).aQ ?_;rintro Q V;have G:Hid (jE w base g ge A (dU m [.c 6 true,.f true]) Q):=ay (jE.step I H V);clear V;go_wp2_with fail
   go_loopg [7] (14:Nat) (fun n q wr=>∃j:Nat,j+n=14∧j≤S∧q=j∧jE w base g ge A (dU m ([.c 6 true,.f true]++jZ (fun i=>7+min i 6) j)) wr)
   case atStart=>exact⟨0,aj,aj,rfl,by simpa[jZ]using G.out⟩
   case round=>
    obtain⟨j,hj,o,rfl,V⟩:=hrel;have l:=V.size;have Y:dM ([.c 6 true,.f true]++jZ (fun i=>7+min i 6) j):=dM.app (TJ _ _) (BN (fun i hi=>(aj:7+min i 6<64)) j aj);have X:=lI E Y;have F:=AV (fun i=>7+min i 6) j;have O:=fU [.c 6 true,.f true] (jZ (fun i=>7+min i 6) j);have k:=(show fE ([.c 6 true,.f true]:List iH)=3 from rfl)
    by_cases R:j<14
    ·have a:(j:Int)<14:=aj
     obtain⟨B,z,W,U,P⟩:=V
     by_cases qa:j<S
     ·have y:(j:Int)<(S:Nat):=aj
      have M:=ay (rW (b:=true) (x:=(fun i=>7+min i 6) j) (by have:=(aj:7+min j 6<64);omega) X.1 aj wr aj W);change Hid _ at U P;clear W Y X;have L:Hid (7+min (j:Int) 6=((7+min j 6:Nat):Int)):=ay aj;go_wp2_with fail;rw[L.out];refine M.aQ ?_;rintro Q Z;have T:=ay (jE.step U P Z);clear Z;go_wp2_with fail;go_roundg(gk-1)
      case measure=>omega
      case rel=>exact⟨j+1,aj,aj,fA,by rw[AU,←wQ,fM,ku];exact T⟩
     ·obtain rfl:j=S:=aj
      have M:=ay (rW (b:=false) (x:=(fun i=>7+min i 6) j) (by have:=(aj:7+min j 6<64);omega) X.1 aj wr aj W);change Hid _ at U P;clear W Y X;have L:Hid (7+min (j:Int) 6=((7+min j 6:Nat):Int)):=ay aj;go_wp2_with fail;rw[L.out];refine M.aQ ?_;rintro Q Z;have T:=ay (jE.step U P Z);clear Z;have T:Hid (jE w base g ge A (dU m ([.c 6 true,.f true]++l9 (fun i=>7+min i 6) j 14)) Q):=ay (by rw[Hg R,←wQ,fM,ku];exact T);go_wp2_with fail;go_ret;exact⟨by first|rfl|(congr 2;omega)|(simp;omega),by rw[N];exact T⟩
    ·obtain rfl:j=14:=aj
     have T:Hid (jE w base g ge A (dU m ([.c 6 true,.f true]++l9 (fun i=>7+min i 6) S 14)) wr):=ay (by rw[(aj:S=14),Hl];exact V);go_wp2_with fail;go_ret;exact⟨by first|rfl|(congr 2;omega)|(simp;omega),by rw[N];exact T⟩
  ·have N:Hid (sV v=[.c 6 true,.f false]++l9 (fun i=>7+min i 6) S 14):=ay (by unfold sV;rw[au u,(aj:v.natAbs-1=S),show decide (v<0)=false by simp;omega])
   go_enter func315,ntmps315;go_wp2_with fail;refine(t _).aQ ?_;rintro D rfl;go_wp2_with fail;refine(r _).aQ ?_;rintro C ⟨B,z,W,U,R⟩;have K:=U.size;obtain⟨J,I,H⟩:=dB W U R;clear W U R;go_wp2_with fail;refine(H2 _ _ _ _ K _ J).aQ ?_;rintro Q V;rw[show decide (v<0)=false by simp;omega]at V;have G:Hid (jE w base g ge A (dU m [.c 6 true,.f false]) Q):=ay (jE.step I H V);clear V;go_wp2_with fail
   go_loopg [7] (14:Nat) (fun n q wr=>∃j:Nat,j+n=14∧j≤S∧q=j∧jE w base g ge A (dU m ([.c 6 true,.f false]++jZ (fun i=>7+min i 6) j)) wr)
   case atStart=>exact⟨0,aj,aj,rfl,by simpa[jZ]using G.out⟩
   case round=>
    obtain⟨j,hj,o,rfl,V⟩:=hrel;have l:=V.size;have Y:dM ([.c 6 true,.f false]++jZ (fun i=>7+min i 6) j):=dM.app (TJ _ _) (BN (fun i hi=>(aj:7+min i 6<64)) j aj);have X:=lI E Y;have F:=AV (fun i=>7+min i 6) j;have O:=fU [.c 6 true,.f false] (jZ (fun i=>7+min i 6) j);have k:=(show fE ([.c 6 true,.f false]:List iH)=3 from rfl)
    by_cases R:j<14
    ·have a:(j:Int)<14:=aj
     obtain⟨B,z,W,U,P⟩:=V
     by_cases qa:j<S
     ·have y:(j:Int)<(S:Nat):=aj
      have M:=ay (rW (b:=true) (x:=(fun i=>7+min i 6) j) (by have:=(aj:7+min j 6<64);omega) X.1 aj wr aj W);change Hid _ at U P;clear W Y X;have L:Hid (7+min (j:Int) 6=((7+min j 6:Nat):Int)):=ay aj;go_wp2_with fail;rw[L.out];refine M.aQ ?_;rintro Q Z;have T:=ay (jE.step U P Z);clear Z;go_wp2_with fail;go_roundg(gk-1)
      case measure=>omega
      case rel=>exact⟨j+1,aj,aj,fA,by rw[AU,←wQ,fM,ku];exact T⟩
     ·obtain rfl:j=S:=aj
      have M:=ay (rW (b:=false) (x:=(fun i=>7+min i 6) j) (by have:=(aj:7+min j 6<64);omega) X.1 aj wr aj W);change Hid _ at U P;clear W Y X;have L:Hid (7+min (j:Int) 6=((7+min j 6:Nat):Int)):=ay aj;go_wp2_with fail;rw[L.out];refine M.aQ ?_;rintro Q Z;have T:=ay (jE.step U P Z);clear Z;have T:Hid (jE w base g ge A (dU m ([.c 6 true,.f false]++l9 (fun i=>7+min i 6) j 14)) Q):=ay (by rw[Hg R,←wQ,fM,ku];exact T);go_wp2_with fail;go_ret;exact⟨by first|rfl|(congr 2;omega)|(simp;omega),by rw[N];exact T⟩
    ·obtain rfl:j=14:=aj
     have T:Hid (jE w base g ge A (dU m ([.c 6 true,.f false]++l9 (fun i=>7+min i 6) S 14)) wr):=ay (by rw[(aj:S=14),Hl];exact V);go_wp2_with fail;go_ret;exact⟨by first|rfl|(congr 2;omega)|(simp;omega),by rw[N];exact T⟩
end
theorem aa4{v:Int}(h: -15≤v∧v≤15)(w:aK):Calls prog 326 #[v] w fun e Z=>e=bM (.bool true)∧w=Z:=by
 go_enter func326,ntmps326;go_wp2;go_ret;exact sD
theorem aa5{v:Int}(h:0≤v∧v≤3)(w:aK):Calls prog 327 #[v] w fun e Z=>e=bM (.bool true)∧w=Z:=by
 go_enter func327,ntmps327;go_wp2;go_ret;exact sD
theorem PE(Y:n=16∨n=64)(h:Bd (-16320) 16320 l)(w:aK)(X:Ls w A n l):Calls prog 311 #[aG A n c,n] w (Val w iI):=by
 have H:=ay (VG (c:=c) Y h w X);rcases Y with rfl|rfl
 all_goals(
  go_enter func311,ntmps311;go_wp2_with fail;refine H.aQ ?_;rintro W Z;go_wp2;go_ret;exact⟨rfl,Z⟩)
theorem acS(w:aK):Calls prog 310 #[({}:Sq).v] w (Val w (.bool true)):=by
 have Z:=ay (aJ w (.cells ({}:Sq).c 367));go_enter func310,ntmps310;go_wp2;go_ret;exact⟨rfl,Z.out⟩
theorem acT{L:cO}(hx: -15≤vx∧vx≤15)(hy: -15≤vy∧vy≤15)(w:aK):Calls prog 310 #[({kind:=1,vx:=vx,vy:=vy,L:=L}:Sq).v] w (Val w (.bool true)):=by
 obtain⟨Y,X,W⟩:=dB (aJ w (.cells ({kind:=1,vx:=vx,vy:=vy,L:=L}:Sq).c 367)) (fun Z=>aa4 hx Z) (fun Z=>aa4 hy Z);go_enter func310,ntmps310;go_wp2_with fail;refine(X _).aQ ?_;rintro Z rfl;go_wp2_with fail;refine(W _).aQ ?_;rintro Z rfl;go_wp2;go_ret;exact⟨rfl,Y.out⟩
theorem acU{L:cO}(hx:0≤mode∧mode≤3)(w:aK):Calls prog 310 #[({kind:=2,mode:=mode,L:=L}:Sq).v] w (Val w (.bool true)):=by
 obtain⟨Y,X⟩:=aV (aJ w (.cells ({kind:=2,mode:=mode,L:=L}:Sq).c 367)) (fun Z=>aa5 hx Z);go_enter func310,ntmps310;go_wp2_with fail;refine(X _).aQ ?_;rintro Z rfl;go_wp2;go_ret;exact⟨rfl,Y.out⟩
theorem acV(h:Bd 0 3 l)(w:aK):Tests 328 #[] (fun _=>false) l w:=by
 refine⟨enters_of func328 aW rfl,fun v Z X W=>?_⟩;have Y:=h v Z;go_enter func328,ntmps328;go_wp2_with fail;refine(aa5 Y _).aQ ?_;rintro V rfl;go_wp2;go_ret;exact⟨rfl,aU _ _⟩
theorem acW{ms:Nat→Int}{A:Nat→dK}{cc:Nat→Nat}(Y:∀i,i<4→0≤ms i∧ms i≤3)(w:aK):Calls prog 310 #[(Og ms A cc).v] w (Val w (.bool true)):=by
 have U:=aJ w (.cells (Og ms A cc).c 367);have T:=bF.new w 367 (Og ms A cc).c
 have S:Ls (w.alloc (.cells (Og ms A cc).c 367)) (some (aH w 2)) 4 [ms 0,ms 1,ms 2,ms 3]:=⟨rfl,rfl,fun _=>⟨w,2,rfl,fun j u Z=>by
  have P:j<4:=by
   have:=(lX.1 Z).1;simpa using this
  have X:j=0∨j=1∨j=2∨j=3:=aj
  rw[T.cell];rcases X with rfl|rfl|rfl|rfl
  ·simpa[Sq.c]using Z
  ·simpa[Sq.c]using Z
  ·simpa[Sq.c]using Z
  ·simpa[Sq.c]using Z⟩⟩
 have R:Bd 0 3 [ms 0,ms 1,ms 2,ms 3]:=by
  intro v V;simp at V;rcases V with rfl|rfl|rfl|rfl
  ·exact Y 0 aj
  ·exact Y 1 aj
  ·exact Y 2 aj
  ·exact Y 3 aj
 obtain⟨H,Q⟩:=aV (Ez (c:=4) aj _ (acV R _) S) U;go_enter func310,ntmps310;go_wp2_with fail;refine H.aQ ?_;rintro O W;go_wp2;go_ret;exact⟨rfl,Q.trans (W.mono bK)⟩
theorem afm(w:aK):Calls prog 290 #[.bool false,({}:Sq).v] w (Val w iI):=by
 obtain⟨Y,X⟩:=aV (aJ w (.cells ({}:Sq).c 367)) (fun W=>acS W);go_enter func290,ntmps290;go_wp2_with fail;refine(X _).aQ ?_;rintro T Z;have V:=ay (Y.out.trans (Z.mono bK));have U:=bF.keep (bF.new w 367 ({}:Sq).c) Z;have S:=U.c0;go_wp2;go_ret;exact⟨rfl,V⟩
theorem afn(hx: -15≤vx∧vx≤15)(hy: -15≤vy∧vy≤15)(S:Bd (-16320) 16320 l)(w:aK)(R:Ls w L 64 l):Calls prog 290 #[.bool false,({kind:=1,vx:=vx,vy:=vy,L:=aG L 64 d}:Sq).v] w (Val w iI):=by
 have V:=aJ w (.cells ({kind:=1,vx:=vx,vy:=vy,L:=aG L 64 d}:Sq).c 367);obtain⟨Q,P,X⟩:=dB (fun Y=>acT (L:=aG L 64 d) hx hy Y) (fun Y (h:Below (w.alloc (.cells ({kind:=1,vx:=vx,vy:=vy,L:=aG L 64 d}:Sq).c 367)) (w.alloc (.cells ({kind:=1,vx:=vx,vy:=vy,L:=aG L 64 d}:Sq).c 367)) Y)=>PE (c:=d) (.inr rfl) S Y ((R.keep V).keep h)) V;go_enter func290,ntmps290;go_wp2_with fail;refine(Q _).aQ ?_;rintro N Z;obtain⟨O,U⟩:=aV (P _ Z) (X.trans (Z.mono bK));have T:=bF.keep (bF.new w 367 ({kind:=1,vx:=vx,vy:=vy,L:=aG L 64 d}:Sq).c) Z;have M:=T.c0;have K:=T.c8;go_wp2_with fail;refine O.aQ ?_;rintro J W;go_wp2;go_ret;exact⟨rfl,U.trans (W.mono U.size)⟩
theorem afo(hx:0≤mode∧mode≤3)(S:Bd (-16320) 16320 l)(w:aK)(R:Ls w L 64 l):Calls prog 290 #[.bool key,({kind:=2,mode:=mode,L:=aG L 64 d}:Sq).v] w (Val w iI):=by
 have V:=aJ w (.cells ({kind:=2,mode:=mode,L:=aG L 64 d}:Sq).c 367);obtain⟨Q,P,X⟩:=dB (fun Y=>acU (L:=aG L 64 d) hx Y) (fun Y (h:Below (w.alloc (.cells ({kind:=2,mode:=mode,L:=aG L 64 d}:Sq).c 367)) (w.alloc (.cells ({kind:=2,mode:=mode,L:=aG L 64 d}:Sq).c 367)) Y)=>PE (c:=d) (.inr rfl) S Y ((R.keep V).keep h)) V;cases key
 all_goals(
  go_enter func290,ntmps290;go_wp2_with fail;refine(Q _).aQ ?_;rintro N Z;obtain⟨O,U⟩:=aV (P _ Z) (X.trans (Z.mono bK));have T:=bF.keep (bF.new w 367 ({kind:=2,mode:=mode,L:=aG L 64 d}:Sq).c) Z;have M:=T.c0;have K:=T.c8;go_wp2_with fail;refine O.aQ ?_;rintro J W;go_wp2;go_ret;exact⟨rfl,U.trans (W.mono U.size)⟩)
theorem afp{ms:Nat→Int}{ls:Nat→aO}{A:Nat→dK}{cc:Nat→Nat}(M:∀i,i<4→0≤ms i∧ms i≤3)(L:∀i,i<4→Bd (-16320) 16320 (ls i))(w:aK)(K:∀i,i<4→Ls w (A i) 16 (ls i)):Calls prog 290 #[.bool key,(Og ms A cc).v] w (Val w iI):=by
 have O:=aJ w (.cells (Og ms A cc).c 367);obtain⟨J,I,T⟩:=dB (fun V=>acW (A:=A) (cc:=cc) M V) (fun i (U:i<4) V (h:Below (w.alloc (.cells (Og ms A cc).c 367)) (w.alloc (.cells (Og ms A cc).c 367)) V)=>PE (c:=cc i) (.inl rfl) (L i U) V (((K i U).keep O).keep h)) O;cases key
 all_goals(
  go_enter func290,ntmps290;go_wp2_with fail;refine(J _).aQ ?_;rintro z W;have H:=ay W;have X:=bF.keep (bF.new w 367 (Og ms A cc).c) W;obtain⟨y,-,-,-,-,-,-,-,-,x,E,D,C⟩:=X.s13;go_wp2
  go_loopg [6,7,43] (4:Nat) (fun k u t G wr=>∃i:Nat,i+k=4∧G=i∧Below (w.alloc (.cells (Og ms A cc).c 367)) (w.alloc (.cells (Og ms A cc).c 367)) wr)
  case atStart=>exact⟨0,aj,rfl,H⟩
  case round=>
   obtain⟨i,U,rfl,Y⟩:=hrel
   by_cases S:i<4
   ·have N:(i:Int)<4:=aj
    have R:i=0∨i=1∨i=2∨i=3:=aj
    have B:∀w,(Instr.index 365 (.agg #[aG (A 0) 16 (cc 0),aG (A 1) 16 (cc 1),aG (A 2) 16 (cc 2),aG (A 3) 16 (cc 3)]) i).run prog w= .ok (aG (A i) 16 (cc i)) w:=by
     rcases R with rfl|rfl|rfl|rfl
     ·exact amH _ _ _ _
     ·exact amI _ _ _ _
     ·exact amJ _ _ _ _
     ·exact amK _ _ _ _
    obtain⟨F,Z⟩:=aV (I i S wr Y) Y;go_wp2_with fail;refine F.aQ ?_;rintro s Q;have P:=ay (Z.trans (Q.mono Z.size));go_wp2;go_roundg(gk-1)
    case measure=>omega
    case rel=>exact⟨i+1,aj,fA,P⟩
   ·obtain rfl:i=4:=aj
    have Z:=ay Y;go_wp2;go_ret;exact⟨rfl,T.trans (Z.mono bK)⟩)
abbrev Sq.ones(s:Sq):Prop:=s.L.oneCell'=true∧s.s0.oneCell'=true∧s.s1.oneCell'=true∧s.s2.oneCell'=true∧s.s3.oneCell'=true
def wJ(w:aK)(base g Z:Nat)(A:dK)(M:jD)(go:Nat)(kind:Int)(w':aK):Prop:=
 ∃S:Sq,S.kind=kind∧S.ones∧bF w' go 367 S.c∧∃Y X,EO w' base g Z Y X M∧bQ (fun i=>i=g∨i=Z∨In A i∨i=go) w w'∧∀i,In Y i→In A i∨w.heap.size≤i
section
variable{base g ge c go:Nat}{A:dK}{m:jD}
theorem wJ.of{M:jD}{S:Sq}{kind:Int}(h1:S.kind=kind)(h2:S.ones)(Z:bF w' go 367 S.c)(h:jE w base g ge A M w'):wJ w base g ge A M go kind w':=by
 obtain⟨Y,X,W,V,U⟩:=h;exact⟨S,h1,h2,Z,Y,X,W,V.mono (fun i _ h=>by rcases h with h|h|h;exact .inl h;exact .inr (.inl h);exact .inr (.inr (.inl h))),U⟩
theorem jE.stored{M V:jD}(h:EO w base g ge A1 c1 M)(S:bF w go 367 cs)(U:jE w base g ge A1 V w1)(j:Nat)(v:cO):
  ∃Y W,EO (w1.setCell ⟨go,j,none⟩ v) base g ge Y W V∧bQ (fun i=>i=g∨i=ge∨In A1 i∨i=go) w (w1.setCell ⟨go,j,none⟩ v)∧∀i,In Y i→In A1 i∨w≤i:=by
 have Z:=S.tH h U bn bn bn;obtain⟨Y,W,X,R,Q⟩:=U;have T:=(bQ.refl (fun i=>i=go) w1).setCell (p:=(aH go j)) (fun _=>rfl) v;refine⟨Y,W,X.dH T ?_ ?_ ?_,(R.mono (fun i _ h=>by rcases h with h|h|h;exact .inl h;exact .inr (.inl h);exact .inr (.inr (.inl h)))).trans (T.mono fun i _ h=>.inr (.inr (.inr h))),Q⟩
 ·rintro rfl;exact Z.apart X.blk bn rfl
 ·rintro rfl;exact Z.apart X.enc.blk bn rfl
 ·rintro i P rfl;exact X.enc.own.I7 Z bn P
theorem wJ.next{M X:jD}{kind:Int}{S:Sq}(h2:bQ (fun i=>i=g∨i=ge∨In A i∨i=go) w w1)(W:∀i,In A1 i→In A i∨w≤i)(h1:EO w1 base g ge A1 c1 M)
  (V:bF w1 go 367 cs) (U:jE w1 base g ge A1 X u) (j:Nat) (v:cO) (R:S.kind=kind) (Y:S.ones) (Q:cs.setIfInBounds j v=S.c):wJ w base g ge A X go kind (u.setCell ⟨go,j,none⟩ v):=by
 have Z:=(V.tH h1 U bn bn bn).store j v;rw[Q]at Z;obtain⟨P,O,N,L,K⟩:=jE.stored h1 V U j v;refine⟨S,R,Y,Z,P,O,N,h2.step L (fun i T h=>?_),fun i T=>?_⟩
 ·rcases h with h|h|h|h
  ·exact .inl h
  ·exact .inr (.inl h)
  ·rcases W i h with h|h
   ·exact .inr (.inr (.inl h))
   ·omega
  ·exact .inr (.inr (.inr h))
 ·rcases K i T with h|h
  ·exact W i h
  ·exact .inr (dD h2.size h)
theorem Own.Qx{b:Nat}(h:Own w b L n d l)(Z:bF w q 367 cs)(j:Nat)(v:cO):Own (w.setCell ⟨q,j,none⟩ v) b L n d l:=
 ⟨h.len,mO h.row ((bQ.refl (fun i=>i=q) w).setCell (fun _=>rfl) _) (fun i Y e=>by subst e;exact dP h.row Z bn Y)⟩
theorem afq(w:aK)(h:EO w base g ge A c m)(Z:bF w go 367 ({}:Sq).c):
  Calls prog 292 #[cdV g,({}:Sq).v,aY go] w fun e W=>e=bM iI∧wJ w base g ge A m go 0 W:=by
 have Y:=aJ w (.cells ({}:Sq).c 367);obtain⟨X,V⟩:=aV (Z.keep Y) (jE.of_below h Y);have U:=X.c0;go_enter func292,ntmps292;go_wp2;go_ret;exact⟨rfl,wJ.of rfl ⟨rfl,rfl,rfl,rfl,rfl⟩ X V⟩
theorem afr{b:Nat}{mode:Nat}(J:mode≤3)(I:Bd (-16320) 16320 l)(E:m.ok)(hl:m.e.out.length≤500000)(w:aK)(qa:base≤w)(D:Own w b L 64 d l)(h:EO w base g ge A c m)(X:bF w go 367 ({kind:=2}:Sq).c):
  Calls prog 292 #[cdV g,({kind:=2,mode:=mode,L:=aG L 64 d}:Sq).v,aY go] w
   fun e s=>e=bM iI∧wJ w base g ge A (dU m (Bh mode++lM 39 63 l (dF 8))) go 2 s:=by
 have V:=aJ w (.cells ({kind:=2,mode:=mode,L:=aG L 64 d}:Sq).c 367);have C:=bF.new w 367 ({kind:=2,mode:=mode,L:=aG L 64 d}:Sq).c;have P:=X.keep V;have O:=h.keep V;have T:=lI E (Il mode);rw[Gq]at T;obtain⟨r,q⟩:=aV (aec J E aj _ jy O) (fun o n Q (j:base≤Q.heap.size) (H:Own Q b L 64 d l) (k:EO Q base g ge o n (dU m (Bh mode)))=>aa3 I T.1 aj Q j H k);have i:=P.c0;have G:go≠w:=by have:=X.lt;omega
 obtain⟨F,B,f,R,Y⟩:=rG (D.keep V) P C V O;clear X h V P C O D;go_enter func292,ntmps292;go_wp2_with fail;refine r.aQ ?_;rintro w2 Z;have U:=B.tH Y Z bn bn bn;have b2:=f.tH Y Z bn bn bn;have z:=F.tH Y Z;have a:=U.c1;have f1:=U.frozen 1;have x8:=(b2.far (p:=(aH go 1)) (fun e=>G e.symm) mode).c8;obtain⟨L3,P2,y⟩:=dB (z.Qx U 1 mode) (wJ.next (S:={kind:=2,mode:=mode}) (bQ.of_below R) (fun _ h=>.inl h) Y B Z 1 mode rfl ⟨rfl,rfl,rfl,rfl,rfl⟩ rfl) (U.store 1 mode);obtain⟨A3,c3,N,M,x⟩:=P2.choose_spec.2.2.2;have qe:=M.size;obtain⟨H3,u,Q2,Q3⟩:=jH (q A3 c3 _ aj L3 N) N M x;clear U b2 z Z N M x i;go_wp2_with fail;refine H3.mono ?_;rintro e w4 ⟨t,b4,rfl,W⟩;have K:=y.tH u W bn bn bn;have d8:=K.c8;have f8:=K.frozen 8;have HF:=ay (wJ.next (S:={kind:=2,mode:=mode,L:=aG t 64 b4}) (kind:=2) Q2 Q3 u y W 8 (aG t 64 b4) rfl ⟨rfl,rfl,rfl,rfl,rfl⟩ rfl);clear K W a f1 x8;go_wp2;go_ret;exact⟨rfl,by rw[fM];exact HF⟩
theorem afs{b:Nat}(J: -15≤vx∧vx≤15)(I: -15≤vy∧vy≤15)(u:Bd (-16320) 16320 l)(r:m.ok)(hl:m.e.out.length≤500000)(w:aK)(qe:base≤w)(q:Own w b L 64 d l)(h:EO w base g ge A c m)(R:bF w go 367 ({kind:=1}:Sq).c):
  Calls prog 292 #[cdV g,({kind:=1,vx:=vx,vy:=vy,L:=aG L 64 d}:Sq).v,aY go] w
   fun e w'=>e=bM iI∧wJ w base g ge A (dU m (sV vx++(sV vy++lM 39 63 l (dF 8)))) go 1 w':=by
 have O:=aJ w (.cells ({kind:=1,vx:=vx,vy:=vy,L:=aG L 64 d}:Sq).c 367);have o:=bF.new w 367 ({kind:=1,vx:=vx,vy:=vy,L:=aG L 64 d}:Sq).c;have E:=R.keep O;have D:=h.keep O;have Q:=lI r (Io vx);have qf:=Gs J;have V:=lI Q.1 (Io vy);have qa:=Gs I;obtain⟨H1,H2,H3⟩:=dB (aed J r aj _ jy D) (fun C B W (z:base≤W.heap.size) (k:EO W base g ge C B (dU m (sV vx)))=>aed I Q.1 aj W z k) (fun C B W (z:base≤W.heap.size) (t:Own W b L 64 d l) (k:EO W base g ge C B (dU (dU m (sV vx)) (sV vy)))=>aa3 u V.1 aj W z t k);have e0:=E.c0;have H:go≠w:=by have:=R.lt;omega
 obtain⟨s,n,HB,G,X⟩:=rG (q.keep O) E o O D;clear R h O E o D q Q V;go_enter func292,ntmps292;go_wp2_with fail;refine H1.aQ ?_;rintro w2 Z;have N:=n.tH X Z bn bn bn;have b2:=HB.tH X Z bn bn bn;have j:=s.tH X Z;have d6:=N.c6;have f6:=N.frozen 6;have y:=b2.far (p:=(aH go 6)) (fun e=>H e.symm) vx;have x7:=y.c7;obtain⟨L3,B3,P2,i⟩:=jH (j.Qx N 6 vx) y (wJ.next (S:={kind:=1,vx:=vx}) (bQ.of_below G) (fun _ h=>.inl h) X n Z 6 vx rfl ⟨rfl,rfl,rfl,rfl,rfl⟩ rfl) (N.store 6 vx);obtain⟨A3,c3,U,T,M⟩:=P2.choose_spec.2.2.2;have qg:=T.size;obtain⟨H4,F,Q2,Q3⟩:=jH (H2 A3 c3 _ aj U) U T M;clear N b2 y j Z U T M e0;go_wp2_with fail;refine H4.aQ ?_;rintro w4 Y;have K:=i.tH F.out Y bn bn bn;have b4:=B3.tH F.out Y bn bn bn;have f:=L3.tH F.out Y;have d7:=K.c7;have f7:=K.frozen 7;have a:=b4.far (p:=(aH go 7)) (fun e=>H e.symm) vy;have x8:=a.c8;obtain⟨L5,P4,G5⟩:=dB (f.Qx K 7 vy) (wJ.next (S:={kind:=1,vx:=vx,vy:=vy}) Q2.out Q3.out F.out i Y 7 vy rfl ⟨rfl,rfl,rfl,rfl,rfl⟩ rfl) (K.store 7 vy);obtain⟨A5,c5,U,T,M⟩:=P4.choose_spec.2.2.2;have qh:=T.size;obtain⟨H5,R1,R2,R3⟩:=jH (H3 A5 c5 _ aj L5 U) U T M;clear K b4 a f Y U T M d6 f6 x7;go_wp2_with fail;refine H5.mono ?_;rintro e w6 ⟨B6,b6,rfl,P⟩;have x:=G5.tH R1 P bn bn bn;have d8:=x.c8;have f8:=x.frozen 8;have HF:=ay (wJ.next (S:={kind:=1,vx:=vx,vy:=vy,L:=aG B6 64 b6}) (kind:=1) R2 R3 R1 G5 P 8 (aG B6 64 b6) rfl ⟨rfl,rfl,rfl,rfl,rfl⟩ rfl);clear x P d7 f7 x8;go_wp2;go_ret;exact⟨rfl,by rw[fM,fM];exact HF⟩
end
def RU:ByteArray:=⟨#[99,111,100,101,115]⟩
def ajT:Co.Got→Int
 | .num v=>v
 |_=>0
def QM:Co.Got→List (ByteArray × Int)
 | .num _=>[]
 | .short a=>[(Ii,(a:Int))]
 | .range a=>[(RU,(a:Int))]
def JJ:Co.Got→Int
 | .num _=>0
 | .short _=>1
 | .range _=>3
def amP(lo hi:Nat)(w:aK)(g:Nat)(b:aO)(r:Co.Got × Nat)(e:Ending)(w':aK):Prop:=
 ∃v,e=bM (eP #[aB (ajT r.1),v])∧Xl w' (QM r.1) (JJ r.1) v∧uj 299 lo hi w g b r.2 w'
theorem Jj{p:Nat}(w:aK)(h:yB 299 lo hi w g b p):
  Calls prog 243 #[aY g] w
   fun e Y=>∃v,e=bM v∧ErrAt Y [(RU,(p:Int))] (.iface 48 (aB 3)) v∧Below w w Y:=by
 have H:=ay h;go_enter func243,ntmps243;go_wp2_with fail;refine(afE _ H).aQ ?_;rintro W rfl;go_wp2_with fail;refine(xI _ _ _ _ _).aQ ?_;rintro V ⟨X,Z⟩;go_wp2;go_ret;exact⟨_,rfl,⟨_,_,rfl,X,rfl⟩,Z⟩
theorem ahK(h:n≤31):(0:Int)<2^n∧(2:Int)^n≤2147483648:=by
 refine⟨sN aj,?_⟩;have:(2:Int)^n≤2^31:=Co.JZ h;omega
theorem VU{v b:Int}(s:Nat)(Z:0≤v)(W:v*2^s+b≤4294967295)(Y:0≤b)(X:b<2^s):bits .or .i64 (v*2^s) b=v*2^s+b:=by
 obtain⟨n,rfl⟩:=D6 Z;obtain⟨m,rfl⟩:=D6 Y;have V:m<2^s:=by exact_mod_cast X
 have U:((n:Int)*2^s)=((2^s*n:Nat):Int):=by push_cast;rw[Int.mul_comm]
 rw[U]at W ⊢;have T:=tZ V n;generalize 2^s*n=N at*
 have e:(BitVec.ofInt 64 (N:Int)|||BitVec.ofInt 64 (m:Int)).toNat=N+m:=by
  rw[mY,mY,BitVec.toNat_or,nY,nY,kT aj,kT aj];exact T.symm
 show IntKind.i64.wrap (((BitVec.ofInt 64 (N:Int)|||BitVec.ofInt 64 (m:Int)).toNat:Nat):Int)=_;rw[e,iE _ aj];omega
theorem adi{v b:Int}(s:Nat)(Z:0≤v)(W:v*2^s+b≤4294967295)(Y:0≤b)(X:b<2^s):bits .or .u32 (v*2^s) b=v*2^s+b:=by
 obtain⟨n,rfl⟩:=D6 Z;obtain⟨m,rfl⟩:=D6 Y;have V:m<2^s:=by exact_mod_cast X
 have U:((n:Int)*2^s)=((2^s*n:Nat):Int):=by push_cast;rw[Int.mul_comm]
 rw[U]at W ⊢;have T:=tZ V n;generalize 2^s*n=N at*
 have e:(BitVec.ofInt 32 (N:Int)|||BitVec.ofInt 32 (m:Int)).toNat=N+m:=by
  rw[mY,mY,BitVec.toNat_or,nY,nY,kT aj,kT aj];exact T.symm
 show IntKind.u32.wrap (((BitVec.ofInt 32 (N:Int)|||BitVec.ofInt 32 (m:Int)).toNat:Nat):Int)=_;rw[e,IntWalk.u32_in _ aj];omega
end Go.Proofs.YtiaeohgghaaciaaGreatDoor
