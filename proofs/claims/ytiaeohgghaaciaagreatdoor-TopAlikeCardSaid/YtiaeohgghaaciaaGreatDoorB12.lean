import Derived.Deep.RegionLaw
import Derived.Test.YtiaeohgghaaciaaGreatDoorB11
namespace Go.Proofs.YtiaeohgghaaciaaGreatDoor
open Go Go.Maps Go.RowKit Go.Extern.Stop Go.Stop Go.Extern Go.Proofs.Tryz
set_option linter.all false
set_option maxRecDepth 100000
set_option maxHeartbeats 4000000
section
variable{b:List Int}{g hi lo z:Nat}{A:Option Addr}{a':Value}{w w':World}
def VO(lo hi:Nat)(w:aK)(g:Nat)(b:aO)(Y X:Nat)(r:So.Fr × Nat)(e:Ending)(w':aK):Prop:=
 (match r.1 with
  | .ok Z=>∃A c,e= .returned (.tuple #[.agg #[.int .i64 Y,.int .i64 X,.slice A Z.length c],.nilIface])∧w'.ownsRow w.heap.size 3 1 (.slice A Z.length c) Z.length (Z.map (Value.int .i64))
  | .bits q=>∃v,e= .returned (.tuple #[.agg #[.int .i64 0,.int .i64 0,.slice none 0 0],v])∧Xl w' (QM q) (JJ q) v
  | .sample=>e= .returned (.tuple #[.agg #[.int .i64 0,.int .i64 0,.slice none 0 0],.iface 48 (.int .i64 3)]))∧
 uj 299 lo hi w g b r.2 w'
theorem Eh{a b c b' c':cO}(h:bF w z 90 #[a,b,c]):
  bQ (fun i=>i=z) w (((w.setCell ⟨z,0,none⟩ a').setCell ⟨z,1,none⟩ b').setCell ⟨z,2,none⟩ c')∧bF (((w.setCell ⟨z,0,none⟩ a').setCell ⟨z,1,none⟩ b').setCell ⟨z,2,none⟩ c') z 90 #[a',b',c']:=
 ⟨(((bQ.refl (fun i=>i=z) w).setCell (p:=(aH z 0)) (fun _=>rfl) _).setCell (p:=(aH z 1)) (fun _=>rfl) _).setCell (p:=(aH z 2)) (fun _=>rfl) _,
   by have:=((h.store 0 a').store 1 b').store 2 c';simpa using this⟩
theorem jT{a b c:cO}(h:bF w z 90 #[a,b,c]):
  (w.cell? (aH z 0)=some a∧w.cell? (aH z 1)=some b∧w.cell? (aH z 2)=some c)∧w.frozen? (aH z 0)=false∧w.frozen? (aH z 1)=false∧w.frozen? (aH z 2)=false:=
 ⟨⟨h.at rfl,h.at rfl,h.at rfl⟩,h.frozen 0,h.frozen 1,h.frozen 2⟩
theorem ErrAt.dH{w w':aK}{z:Nat}{cs:Array cO}(Y:bF w z 90 cs)(X:bQ (fun i=>i=z) w w'){path:List (ByteArray × Int)}{t v:cO}(h:ErrAt w path t v):ErrAt w' path t v:=
 h.keep fun b W Z=>Z.dH X (fun e=>by subst e;exact bF.apart (t:=90) (t':=169) Y Z bn rfl)
theorem Yv{p o J:Nat}(hb:b.length≤1000000000)(zx:8≤o∧o≤32)(zy:8≤J∧J≤32)(w:aK)(zY:hi≤w)(h:yB 299 lo hi w g b p):
  Calls prog 145 #[aY g,o,J] w (VO lo hi w g b o J (So.frame b (8*b.length) o (o*J) p)):=by
 obtain⟨i0,qP,qQ,qR,qS⟩:=iq Ij;have H:=ay h;have hg:=h.lt;clear h;obtain⟨n,hn⟩:∃n,o*J=n:=⟨_,rfl⟩;have zZ:n≤1024:=by rw[←hn];exact fC zx.2 zy.2
 have xa:IntKind.i64.wrap ((o:Int)*(J:Int))=n:=by rw[show(o:Int)*(J:Int)=n by rw[←hn];simp];exact iE _ aj
 rw[hn];clear hn;obtain⟨qT,qU⟩:=aV (show Below w w (w.alloc (aS #[aB 0,aB 0,bU] 90))from(aU _ _).alloc (bC _) _) (bF.new w 90 #[aB 0,aB 0,bU])
 by_cases hs:8*b.length<p+3
 ·have qD:Hid (So.frame b (8*b.length) o n p=(.bits (.short p),p)):=ay (by unfold So.frame;rw[aF hs])
  go_enter func145,ntmps145;go_wp2_with(at_make;refine uJ _ rfl (.tmp 19) (.tmp 19) 34 rfl (w.heap.size+1) 3 i0 _ 1 underlying34 qP qQ qR .i64 .i64 _ _ n rfl rfl (by first|rfl|omega) (by first|rfl|omega) (by rw[qS];omega) (by unfold maxLen;omega) bK ?_;intro w1 N Z);have B:=qT.out.grown Z bK (fun k hk=>by cases hk);have zS:=Z.size;obtain⟨zA,qr⟩:=aV (qU.out.grown Z bK) (B.alloc B.size (aS #[aB o,aB J,aG (some (aH (w.heap.size+1) 0)) n n] 90));clear N Z B;refine(Om (n:=3) hb aj hs _ (H.keep qr)).mono ?_;rintro e w2 ⟨v,rfl,hE,qs⟩;obtain⟨T9,x9,rfl⟩:=hE.iface;have V:=(zA.out.alloc (aS #[aB o,aB J,aG (some (aH (w.heap.size+1) 0)) n n] 90)).keep qs;obtain⟨⟨r0,r1,r2⟩,f0,f1,f2⟩:=jT V;obtain⟨W,U⟩:=Eh (a':=aB 0) (b':=aB 0) (c':=bU) V;obtain⟨⟨s0,s1,s2⟩,_⟩:=jT U;obtain⟨Y,qE,qf,A,zo⟩:=rG W V hE ((H.keep qr).keep qs) (qr.trans (qs.mono qr.size));clear W V U hE qs;go_wp2_with fail;refine aT (v:=eP #[.agg #[aB 0,aB 0,bU],.iface T9 x9]) (by simp[results,results145,go_sem,s0,s1,s2]) rfl ?_;unfold VO;rw[qD.out];refine⟨⟨_,rfl,.inr ⟨show(1:Int)≠0 by decide,qf.dH qE Y⟩⟩,A.dH Y aj (fun i l h2=>aj),(bQ.of_below zo).step Y (fun i l h2=>aj)⟩
 ·have qF:=Bi.IW b p 3
  obtain⟨K,hK⟩:∃K:Nat,Bi.num b p 3=K:=⟨(Bi.num b p 3).toNat,aj⟩;rw[hK]at qF;have xc:K≤7:=by have:=qF.2;simp only[Int.reducePow]at this;omega
  have HK:=ay hK;have qD:Hid (So.frame b (8*b.length) o n p=So.samples b (8*b.length) K o n [] (p+3)):=ay (by unfold So.frame;rw[au hs,hK];rfl);clear qF hK;go_enter func145,ntmps145;go_wp2_with(at_make;refine uJ _ rfl (.tmp 19) (.tmp 19) 34 rfl (w.heap.size+1) 3 i0 _ 1 underlying34 qP qQ qR .i64 .i64 _ _ n rfl rfl (by first|rfl|omega) (by first|rfl|omega) (by rw[qS];omega) (by unfold maxLen;omega) bK ?_;intro w1 N Z);have B:=qT.out.grown Z bK (fun k hk=>by cases hk)
  have qm:w1.ownsRow (w.heap.size+1) 3 1 (aG (some (aH (w.heap.size+1) 0)) n n) n ((List.replicate n 0).map (Value.int .i64)):=by
   have e:(madeCells (Value.int .i64 0).cells (n*1)).toList=(List.replicate n 0).map (Value.int .i64):=by
    rw[lC,List.map_replicate];exact uG _ _
   rw[←e];simpa using N
  have zT:w.heap.size+1≤w1.heap.size:=by have:=Z.size;simpa using this
  have qv:=(qU.out.grown Z bK).alloc (aS #[aB o,aB J,aG (some (aH (w.heap.size+1) 0)) n n] 90);have qj:=B.alloc B.size (aS #[aB o,aB J,aG (some (aH (w.heap.size+1) 0)) n n] 90);have qV:=bF.new w1 90 #[aB o,aB J,aG (some (aH (w.heap.size+1) 0)) n n];have r:=qm.alloc (aS #[aB o,aB J,aG (some (aH (w.heap.size+1) 0)) n n] 90);have zB:p+3≤8*b.length:=aj
  clear N Z qm B;refine(VN (n:=3) hb aj zB _ (H.keep qj)).mono ?_;rw[HK];rintro e w2 ⟨rfl,qw,E⟩;obtain⟨zC,qE,qW,zD⟩:=jH ((bQ.of_below (S:=fun i=>i=g) qj).trans E) (qv.dH E (show¬w=g by omega)) (qV.dH E (show¬w1=g by omega)) (mO r E (fun i hi=>show¬i=g by have:=r.lt i hi;omega));obtain⟨_,_,zq⟩:=(jT qW).1;change Hid _ at qw;clear qv qj qV r E;go_wp2_with fail;clear zq
  go_loopg [34] n (fun k zE wr=>∃(j q:Nat) (P F:aO),j+k=n∧zE=j∧Hid (P.length=j)∧Hid (F.length=n)∧Hid (F.take j=P)∧Hid (∀v∈F,0≤v∧v≤255)∧
   Hid (So.frame b (8*b.length) o n p=So.samples b (8*b.length) K o k P q)∧yB 299 lo hi wr g b q∧bQ (fun i=>i=g) w wr∧
   wr.ownsRow (w.heap.size+1) 3 1 (aG (some (aH (w.heap.size+1) 0)) n n) n (F.map (Value.int .i64))∧
   bF wr w 90 #[aB 0,aB 0,bU]∧bF wr w1 90 #[aB o,aB J,aG (some (aH (w.heap.size+1) 0)) n n])
  case atStart=>exact⟨0,p+3,[],List.replicate n 0,aj,rfl,ay rfl,ay bK,ay bK,ay (fun v hv=>by have:=(List.mem_replicate.1 hv).2;omega),qD,qw.out,zC.out,zD.out,qE.out,qW.out⟩
  case round=>
   obtain⟨j,q,P,F,hj,rfl,qX,I,qG,qH,f,qY,qZ,qy,qz,qA⟩:=hrel;obtain⟨za,qt,qu,D,qB⟩:=rG qY qZ qy qz qA;clear qY qZ qy qz qA
   by_cases zb:j<n
   ·have zU:(j:Int)<(n:Int):=aj
    obtain⟨m,rfl⟩:∃m,gk=m+1:=⟨gk-1,aj⟩;go_wp2_with fail;refine(abj 510 aj hb _ za).mono ?_;obtain⟨⟨G1,G2⟩,hG⟩:∃G,Co.xJ b (8*b.length) q K 510=G:=⟨_,rfl⟩;rw[hG];rintro e w5 ⟨v,rfl,t,T,X⟩;simp only at t T;rcases G1 with u|a|a
    ·have zF:v=iI:=by
      rcases t with⟨_,_,h⟩|⟨h0,_⟩
      ·exact h
      ·exact absurd rfl h0
     subst zF;dsimp only[ajT];obtain⟨zc,_,xd,_,_,_⟩:=Co.UF hG
     have zG: -255≤Co.unfold' u∧Co.unfold' u≤255:=by
      rcases(aj:u%2=1∨u%2=0)with h|h
      ·rw[Co.Va zc aj h];omega
      ·rw[Co.Tf zc aj h];omega
     have ze:So.guess F o j=So.guess P o j:=So.aaF aj fun i hi=>by
      rw[←qG.out,dG,dG,List.getElem?_take,aF hi]
     have O:Hid (So.frame b (8*b.length) o n p=if 0≤So.guess F o j+Co.unfold' u∧So.guess F o j+Co.unfold' u≤255 then So.samples b (8*b.length) K o m (P++ [So.guess F o j+Co.unfold' u]) G2 else(.sample,G2)):=ay (by
      rw[f.out];simp only[So.samples,hG];rw[qX.out,ze])
     have zH:=So.IX qH.out o j;obtain⟨A,qg⟩:=aV T (qt.trans X);have qI:=qB.dH X (show¬w1=g by omega);obtain⟨zI,zf,zJ⟩:=dB (D.dH X (show¬w=g by omega)) (mO qu X (fun i hi=>show¬i=g by have:=qu.lt i hi;omega)) qI;have zg:=(jT qI).1.2.2;obtain⟨R,hR⟩:∃R,j%o=R:=⟨_,rfl⟩;obtain⟨Q,hQ⟩:∃Q,j/o=Q:=⟨_,rfl⟩;have qJ:Q*o+R=j:=by rw[←hQ,←hR];exact Nat.div_add_mod' j o
     have zh:R<o:=by rw[←hR];exact Nat.mod_lt _ aj
     have zK:Q≤j:=by rw[←hQ];exact Nat.div_le_self _ _
     have qC:=(yK.ER zf).1
     have CG:∀C,Below w5 w5 C→Calls prog 206 #[aG (some (aH (w.heap.size+1) 0)) n n,aB o,aB R,aB Q] C fun e qh=>e=bM (aB (So.guess F o j))∧Below C C qh:=fun C zL=>by
      have h:=afC (L:=F) (w:=o) (x:=R) (y:=Q) (c:=n) aj zh (by rw[qJ,I.out];omega) (by rw[I.out];omega) qH.out aj aj C (qC.keep zL);rw[qJ,I.out]at h;exact h.mono fun e qh ⟨he,m,hm⟩=>⟨he,hm▸jM (aU _ _) m⟩
     obtain⟨gs,zi⟩:∃gs,So.guess F o j=gs:=⟨_,rfl⟩;obtain⟨y,hy⟩:∃y,Co.unfold' u=y:=⟨_,rfl⟩;rw[zi]at CG O zH;rw[hy]at O zG
     have CU:∀C,Below w5 w5 C→Calls prog 207 #[u] C fun e qh=>e=bM y∧Below C C qh:=fun C _=>by
      rw[←hy];exact(acF u aj C).mono fun e qh h=>⟨h.1,h.2▸aU _ _⟩
     have zV:¬o=0:=aj
     have zR:¬(o:Int)=0:=aj
     have zW:Int.tmod (j:Int) (o:Int)=(R:Int):=by rw[←hR];rfl
     have zX:IntKind.i64.wrap ((j:Int)/(o:Int))=(Q:Int):=by rw[show(j:Int)/(o:Int)=(Q:Int) by rw[←hQ];rfl];exact iE _ aj
     have zr:IntKind.i64.wrap (gs+y)=gs+y:=iE _ aj;obtain⟨C1,C2⟩:=aV (Calls.grown CG) (Calls.grown CU);have zM:=fun p:Go.Regrown=>Go.cell_regrown zg p.d p.os
     clear t hG ze T X qI hR hQ qJ zh zK qC CG CU zi hy;go_wp2_with fail
     (refine AQ aW aW ?_;(repeat(refine DV (fun K hK=>?_);go_simp;first|(refine hK _ ?_;clear hK K)|(apply Exists.intro;refine⟨fun _=>?_,hK _ ?_⟩;(focus(with_reducible first|exact C1.out _|exact C2.out _));clear hK K)));(refine Hy ?_))
     intro wq zj;have qa:=zj.below;obtain⟨zk,zl,qK⟩:=dB (A.keep qa) (qg.trans (bQ.of_below qa)) (zI.keep qa);have qi:=oH zf qa;have qL:=zJ.keep qa;have zm:=ay qL;have zt:=(jT qL).1.2.2;obtain⟨z,hz⟩:∃z,gs+y=z:=⟨_,rfl⟩;rw[hz]at O zr;clear C1 C2 zM zg qa zj qL
     by_cases qe:0≤z∧z≤255
     ·have zN:So.clip z=z:=(So.ad4.2 qe).symm
      have M:=ay (O.out.trans (aF qe));have qM:j<F:=by rw[I.out];exact zb
      have zO:=ay (ahJ z qM);have zu:Hid (w1.heap.size≠w+1):=ay (fun e=>dP qi zm bn (by rw[e];rfl));have zv:=ay qe;obtain⟨_,_,hv,_,_,_,qo,qq⟩:=Qh qi aj;obtain⟨rfl,rfl⟩:w.heap.size+1=_∧n=_:=by injection hv with h5 h6 h7;injection h5 with h5;injection h5 with h5;exact⟨h5,h7⟩
      obtain⟨x,hx⟩:∃x,F[j]=x:=⟨_,rfl⟩;have k3:=qo j x (by rw[gX,fP qM,hx];rfl);have xe:=qq j;have qN:=Ry qi j z;rw[←List.map_set]at qN;have zP:=ay qN;clear hv qo qq qN qi qM hx;go_wp2_with fail;refine(MV _ _).mono ?_;rw[zN];rintro e w7 ⟨rfl,rfl⟩;go_wp2_with fail;go_roundg m
      case measure=>omega
      case rel=>
       have C9:=(bQ.refl (fun i=>i=w+1) wq).setCell (p:=(aH (w.heap.size+1) j)) (fun _=>rfl) z
       exact⟨j+1,G2,P++ [z],F.set j z,aj,fA,ay (by simp[qX.out]),ay (by simp[I.out]),ay (by rw[zO.out,qG.out]),
        ay (fun v hv=>by
         rcases List.mem_or_eq_of_mem_set hv with h|h
         ·exact qH.out v h
         ·subst h;exact zv.out),
        M,zk.dH C9 aj (fun i l h2=>aj),zl.setCell (p:=(aH (w.heap.size+1) j)) (fun h=>by have:w.heap.size+1<w.heap.size:=h;omega) _,
        zP,qK.far (aj:w.heap.size≠w+1) _,zm.far zu.out _⟩
     ·obtain⟨c9,qO⟩:∃c9,So.clip z=c9:=⟨_,rfl⟩
      have xf:(z != c9)=true:=by rw[←qO];simpa using fun e=>qe (So.ad4.1 e)
      have M:=ay (O.out.trans (au qe));obtain⟨⟨r0,r1,r2⟩,f0,f1,f2⟩:=jT qK;obtain⟨W,U⟩:=Eh (a':=aB 0) (b':=aB 0) (c':=bU) qK;obtain⟨⟨s0,s1,s2⟩,_⟩:=jT U;have Y:=ay W;have CC:Hid (Calls prog 208 #[z] wq fun e C=>e=bM c9∧wq=C):=ay (by rw[←qO];exact MV z wq);clear W U qO qe zt qi;go_wp2_with fail;refine CC.aQ ?_;rintro w7 rfl;go_wp2_with fail;refine aT (v:=eP #[.agg #[aB 0,aB 0,bU],.iface 48 (aB 3)]) (by simp[results,results145,go_sem,s0,s1,s2]) rfl ?_;unfold VO;rw[M.out];exact⟨rfl,zk.dH Y aj (fun i l h2=>aj),zl.step Y (fun i l h2=>aj)⟩
    ·have s:ErrAt w5 (QM (.short a)) (.iface 48 (aB 1)) v:=by
      rcases t with⟨h0,_⟩|⟨_,l⟩
      ·exact absurd h0 (show(1:Int)≠0 by decide)
      ·exact l
     obtain⟨T9,x9,rfl⟩:=s.iface;have qk:Hid (So.frame b (8*b.length) o n p=(.bits (.short a),G2)):=ay (by rw[f.out];simp only[So.samples,hG]);have V:=D.dH X (show¬w=g by omega);obtain⟨⟨r0,r1,r2⟩,f0,f1,f2⟩:=jT V;obtain⟨W,U⟩:=Eh (a':=aB 0) (b':=aB 0) (c':=bU) V;obtain⟨⟨s0,s1,s2⟩,_⟩:=jT U;obtain⟨Y,ql,qf,A,qg⟩:=rG W V s T (qt.trans X);clear W V U t s T X hG;go_wp2_with fail;refine aT (v:=eP #[.agg #[aB 0,aB 0,bU],.iface T9 x9]) (by simp[results,results145,go_sem,s0,s1,s2]) rfl ?_;unfold VO;rw[qk.out];exact⟨⟨_,rfl,.inr ⟨show(1:Int)≠0 by decide,qf.dH ql Y⟩⟩,A.dH Y aj (fun i l h2=>aj),qg.step Y (fun i l h2=>aj)⟩
    ·have s:ErrAt w5 (QM (.range a)) (.iface 48 (aB 3)) v:=by
      rcases t with⟨h0,_⟩|⟨_,l⟩
      ·exact absurd h0 (show(3:Int)≠0 by decide)
      ·exact l
     obtain⟨T9,x9,rfl⟩:=s.iface;have qk:Hid (So.frame b (8*b.length) o n p=(.bits (.range a),G2)):=ay (by rw[f.out];simp only[So.samples,hG]);have V:=D.dH X (show¬w=g by omega);obtain⟨⟨r0,r1,r2⟩,f0,f1,f2⟩:=jT V;obtain⟨W,U⟩:=Eh (a':=aB 0) (b':=aB 0) (c':=bU) V;obtain⟨⟨s0,s1,s2⟩,_⟩:=jT U;obtain⟨Y,ql,qf,A,qg⟩:=rG W V s T (qt.trans X);clear W V U t s T X hG;go_wp2_with fail;refine aT (v:=eP #[.agg #[aB 0,aB 0,bU],.iface T9 x9]) (by simp[results,results145,go_sem,s0,s1,s2]) rfl ?_;unfold VO;rw[qk.out];exact⟨⟨_,rfl,.inr ⟨show(3:Int)≠0 by decide,qf.dH ql Y⟩⟩,A.dH Y aj (fun i l h2=>aj),qg.step Y (fun i l h2=>aj)⟩
   ·obtain rfl:j=n:=aj
    obtain rfl:gk=0:=aj
    have zn:F=P:=by rw[←qG.out,wO (by rw[I.out];exact bC _)]
    have zw:Hid (So.frame b (8*b.length) o j p=(.ok F,q)):=ay (by rw[f.out,zn];rfl);obtain⟨k0,k1,k2⟩:=(jT qB).1;obtain⟨⟨r0,r1,r2⟩,f0,f1,f2⟩:=jT D;obtain⟨W,U⟩:=Eh (a':=aB o) (b':=aB J) (c':=aG (some (aH (w.heap.size+1) 0)) j j) D.out;obtain⟨⟨s0,s1,s2⟩,_⟩:=jT U;obtain⟨Y,zQ⟩:=aV W (own_base (mO qu W (fun i hi=>show¬i=w by have:=qu.lt i hi;omega)) (aj:w.heap.size≤w+1));clear W U zn zb;go_wp2_with fail;refine aT (v:=eP #[.agg #[aB o,aB J,aG (some (aH (w.heap.size+1) 0)) j j],iI]) (by simp[results,results145,go_sem,s0,s1,s2]) rfl ?_;unfold VO;rw[zw.out];exact⟨⟨_,_,by rw[I.out],by rw[I.out];exact zQ⟩,za.dH Y aj (fun i l h2=>aj),qt.step Y (fun i l h2=>aj)⟩
def Jy(x:Int):Bool:=decide (1≤x∧x≤4)
theorem Oo(x:Int)(hx:0≤x∧x≤255)(w:aK):Calls prog 143 #[.int .u8 x] w fun e W=>e=bM (.bool (Jy x))∧w=W:=by
 by_cases Y:1≤x
 ·by_cases X:x≤4
  ·have Z:=ay (show Jy x=true from su ⟨Y,X⟩)
   go_enter func143,ntmps143;go_wp2;go_ret;exact⟨by rw[Z.out];rfl,rfl⟩
  ·have Z:=ay (show Jy x=false from vH fun h=>X h.2)
   go_enter func143,ntmps143;go_wp2;go_ret;exact⟨by rw[Z.out];rfl,rfl⟩
 ·have Z:=ay (show Jy x=false from vH fun h=>Y h.1)
  go_enter func143,ntmps143;go_wp2;go_ret;exact⟨by rw[Z.out];rfl,rfl⟩
def Dp(w:aK)(b:aO)(e:Ending)(w':aK):Prop:=
 (match Dh b with
  | .ok Y=>∃A c l,e= .returned (.tuple #[.slice A l.length c,.nilIface])∧RdF w' A l∧l.map Ji.Du=Y∧∀f∈l,f.w=RV b∧f.h=TP b
  | .error Z=>∃v,e= .returned (.tuple #[.slice none 0 0,v])∧ErrAt w' Z.1 (.iface 48 (.int .i64 Z.2)) v)∧
 Below w.heap.size w w'
def Iy(w:aK)(b:aO)(e:Ending)(w':aK):Prop:=
 (match Dh b with
  | .ok Y=>∃A c l,(l.length≤c∧(∀p,A=some p→w.heap.size≤p.block)∧∀f∈l,∀p,f.A=some p→w.heap.size≤p.block)∧e= .returned (.tuple #[.slice A l.length c,.nilIface])∧RdF w' A l∧l.map Ji.Du=Y∧∀f∈l,f.w=RV b∧f.h=TP b
  | .error Z=>∃v,e= .returned (.tuple #[.slice none 0 0,v])∧ErrAt w' Z.1 (.iface 48 (.int .i64 Z.2)) v)∧
 Below w.heap.size w w'
theorem Dp.c{e:Ending}(h:Dp w b e w'){pc:List (ByteArray × Int)× Int}(hd:Dh b= .error pc):Iy w b e w':=by
 unfold Dp at h;unfold Iy;rw[hd]at h ⊢;exact h
theorem Dp.head{c:Int}(hd:Dh b= .error ([(wz,-1)],c))(Z:bF w' z 169 #[.string wz,aB (-1),.iface 48 c])(Y:Below w w w'):
  Dp w b (bM (eP #[bU,.iface 167 (aY z)])) w':=by
 unfold Dp;rw[hd];exact⟨⟨_,rfl,_,_,rfl,Z,rfl⟩,Y⟩
theorem Ak{c:Int}(h:yQ b=c)(h0:c≠0):Dh b= .error ([(wz,-1)],c):=by
 unfold Dh;rw[au (by rw[h];exact h0),h]
theorem ahO{c:Nat}(X:b.length<5)(w:aK):
  Calls prog 99 #[aG A b c] w (Dp w b):=by
 have W:=ay (Ak (by unfold yQ;rw[aF X]) bn);go_enter func99,ntmps99;go_wp2_with fail;refine(xI _ _ _ _ _).aQ ?_;rintro V ⟨Z,Y⟩;go_wp2;go_ret2;exact Dp.head W.out Z Y
theorem F6(S:yK .u8 w A b)(z:5≤b.length)(T:∀x∈b,0≤x∧x≤255):∃(q o Z Y X W V:Nat),A=some (aH q o)∧
  Hid (b.getD 0 0=Z∧b.getD 1 0=Y∧b.getD 2 0=X∧b.getD 3 0=W∧b.getD 4 0=V)∧(Z≤255∧Y≤255∧X≤255∧W≤255∧V≤255)∧
  w.cell? (aH q o)=some (.int .u8 Z)∧w.cell? (aH q (o+1))=some (.int .u8 Y)∧w.cell? (aH q (o+2))=some (.int .u8 X)∧w.cell? (aH q (o+3))=some (.int .u8 W)∧w.cell? (aH q (o+4))=some (.int .u8 V):=by
 obtain⟨q,o,R,Q⟩:=S.2 aj
 have H:∀i,i<5→∃n:Nat,b.getD i 0=n∧n≤255∧w.cell? (aH q (o+i))=some (.int .u8 n):=fun i y=>by
  have U:i<b:=aj
  have P:=T _ (lS U);refine⟨b[i].toNat,?_,aj,?_⟩
  ·rw[dG,fP U];simp;omega
  ·rw[Q i (.int .u8 b[i]) (by rw[gX,fP U];rfl),rM P.1]
 obtain⟨Z,O,N,M⟩:=H 0 aj;obtain⟨Y,L,K,J⟩:=H 1 aj;obtain⟨X,I,b2,G⟩:=H 2 aj;obtain⟨W,F,E,D⟩:=H 3 aj;obtain⟨V,C,b4,B⟩:=H 4 aj;exact⟨q,o,Z,Y,X,W,V,R,ay ⟨O,L,I,F,C⟩,⟨N,K,b2,E,b4⟩,M,J,G,D,B⟩
theorem ahP{c:Nat}(O:5≤b.length)(Z:∀x∈b,0≤x∧x≤255)(h2:¬(b.getD 0 0=75∧b.getD 1 0=83))(w:aK)(V:yK .u8 w A b):
  Calls prog 99 #[aG A b c] w (Dp w b):=by
 have S:=ay (Ak (b:=b) (c:=2) (by unfold yQ;rw[au aj,aF h2]) bn);obtain⟨q,o,R,Q,K,J,I,rfl,P,⟨M,L,-⟩,H,G,-⟩:=F6 V O Z;rw[P.1,P.2.1]at h2
 by_cases W:R=75
 ·subst W
  have U:¬Q=83:=fun h=>h2 ⟨rfl,by rw[h];rfl⟩
  have T:((Q:Int)!= 83)=true:=by rw[bne_iff_ne];omega
  clear h2 Z V U;go_enter func99,ntmps99;go_wp2_with fail;refine(xI _ _ _ _ _).aQ ?_;rintro N ⟨Y,X⟩;go_wp2;go_ret2;exact Dp.head S.out Y X
 ·have T:((R:Int)!= 75)=true:=by rw[bne_iff_ne];omega
  clear h2 Z V W;go_enter func99,ntmps99;go_wp2_with fail;refine(xI _ _ _ _ _).aQ ?_;rintro N ⟨Y,X⟩;go_wp2;go_ret2;exact Dp.head S.out Y X
theorem ahQ{c:Nat}(D:5≤b.length)(Q:∀x∈b,0≤x∧x≤255)(h2:b.getD 0 0=75∧b.getD 1 0=83)
  (M:¬((1≤b.getD 2 0∧b.getD 2 0≤4)∧(1≤b.getD 3 0∧b.getD 3 0≤4)∧1≤b.getD 4 0∧b.getD 4 0≤16)) (w:aK) (J:yK .u8 w A b):
  Calls prog 99 #[aG A b c] w (Dp w b):=by
 have O:=ay (Ak (b:=b) (c:=3) (by unfold yQ;rw[au aj,au (by simp only[h2,and_self,not_true_eq_false,not_false_eq_true]),aF M]) bn);obtain⟨q,o,C,B,R,N,U,rfl,z,⟨v,u,t,s,r⟩,n,m,l,k,j⟩:=F6 J D Q;obtain⟨I,H,G,F,E⟩:=z;rw[I,H]at h2;rw[G,F,E]at M;obtain rfl:C=75:=aj
 obtain rfl:B=83:=aj
 obtain⟨X,T⟩:=aV (Oo R aj) (Oo N aj);clear h2 Q J I H G F E
 have y:(Jy R=false)∨(Jy R=true∧Jy N=false)∨(Jy R=true∧Jy N=true∧¬1≤U)∨(Jy R=true∧Jy N=true∧1≤U∧¬U≤16):=by
  unfold Jy;simp only[oQ,decide_eq_false_iff_not];omega
 clear M;rcases y with h|⟨h,W⟩|⟨h,W,V⟩|⟨h,W,V,P⟩
 ·rw[h]at X
  clear h;go_enter func99,ntmps99;go_wp2_with fail;refine(X _).aQ ?_;rintro S rfl;go_wp2_with fail;refine(xI _ _ _ _ _).aQ ?_;rintro L ⟨Z,Y⟩;go_wp2;go_ret2;exact Dp.head O.out Z Y
 ·rw[h]at X
  rw[W]at T;clear h W;go_enter func99,ntmps99;go_wp2_with fail;refine(X _).aQ ?_;rintro S rfl;go_wp2_with fail;refine(T _).aQ ?_;rintro S rfl;go_wp2_with fail;refine(xI _ _ _ _ _).aQ ?_;rintro L ⟨Z,Y⟩;go_wp2_with fail;go_ret2;exact Dp.head O.out Z Y
 ·rw[h]at X
  rw[W]at T;have K:(U:Int)<1:=aj
  clear h W V;go_enter func99,ntmps99;go_wp2_with fail;refine(X _).aQ ?_;rintro S rfl;go_wp2_with fail;refine(T _).aQ ?_;rintro S rfl;go_wp2_with fail;refine(xI _ _ _ _ _).aQ ?_;rintro L ⟨Z,Y⟩;go_wp2_with fail;go_ret2;exact Dp.head O.out Z Y
 ·rw[h]at X
  rw[W]at T;have K:¬(U:Int)<1:=aj
  have p:16<(U:Int):=aj
  clear h W V P;go_enter func99,ntmps99;go_wp2_with fail;refine(X _).aQ ?_;rintro S rfl;go_wp2_with fail;refine(T _).aQ ?_;rintro S rfl;go_wp2_with fail;refine(xI _ _ _ _ _).aQ ?_;rintro L ⟨Z,Y⟩;go_wp2_with fail;go_ret2;exact Dp.head O.out Z Y
end
section
variable{cb cs:Array Value}{b f l:List Int}{H N W base c g hi i j k lo n q size:Nat}{A:Option Addr}{e t:TypeId}{u w w':World}
theorem Yy:(prog.info? 90).map (fun i=>(i.zero,i.size,i.bytes))=some (some (.agg #[aB 0,aB 0,bU]),3,40):=aW
def Ux(w:aK)(B:Nat)(l:List Ji):Prop:=∀f∈l,w.ownsRow B 3 1 (aG f.A f.Du.length f.c) f.Du.length (f.Du.map (Value.int .i64))
theorem ade{p:Nat}(V:b.length≤1000000000)(Y:8≤i∧i≤32)(X:8≤j∧j≤32)(U:So.frame b (8*b.length) i (i*j) p=(.ok l,q))(w:aK)(W:hi≤w)(h:yB 299 lo hi w g b p):
  Calls prog 145 #[aY g,i,j] w fun e Z=>∃A c,e=bM (eP #[.agg #[i,j,aG A l c],iI])∧
   Z.ownsRow w 3 1 (aG A l c) l (l.map (Value.int .i64))∧uj 299 lo hi w g b q Z:=by
 refine(Yv V Y X w W h).mono ?_;rw[U];rintro e Z ⟨⟨A,c,T,S⟩,R⟩;exact⟨A,c,T,S,R⟩
theorem abm{fr:So.Fr}{p:Nat}(N:b.length≤1000000000)(R:8≤i∧i≤32)(Q:8≤j∧j≤32)(M:So.frame b (8*b.length) i (i*j) p=(fr,q))(V:Bad fr)(w:aK)(P:hi≤w)(h:yB 299 lo hi w g b p):
  Calls prog 145 #[aY g,i,j] w fun e X=>∃T x,e=bM (eP #[.agg #[aB 0,aB 0,bU],.iface T x])∧
   ErrAt X (frP fr) (.iface 48 (frC fr)) (.iface T x)∧uj 299 lo hi w g b q X:=by
 refine(Yv N R Q w P h).mono ?_;rw[M];unfold VO;rintro e X ⟨U,S⟩
 have Z:∀a,(∃v,e=bM (eP #[.agg #[aB 0,aB 0,bU],v])∧Xl X (QM a) (JJ a) v)→JJ a≠0→∃T x,e=bM (eP #[.agg #[aB 0,aB 0,bU],.iface T x])∧ErrAt X (QM a) (.iface 48 (JJ a)) (.iface T x):=by
  rintro a ⟨v,W,Y⟩ O;rcases Y with⟨L,_⟩|⟨_,Y⟩
  ·exact absurd L O
  ·obtain⟨T,x,rfl⟩:=Y.iface
   exact⟨T,x,W,Y⟩
 rcases V with⟨a,rfl⟩|⟨a,rfl⟩|rfl
 ·obtain⟨T,x,W,Y⟩:=Z _ U (by simp[JJ])
  exact⟨T,x,W,Y,S⟩
 ·obtain⟨T,x,W,Y⟩:=Z _ U (by simp[JJ])
  exact⟨T,x,W,Y,S⟩
 ·exact⟨_,_,U,rfl,S⟩
theorem Yz{T w s p:Nat}{Z:List aO}(h:So.frame b T w s p=(.ok l,q)):So.frames b T w s (n+1) Z p=So.frames b T w s n (Z++ [l]) q:=by simp only[So.frames,h]
theorem YA{T w s p:Nat}{fr:So.Fr}{Z:List aO}(h:So.frame b T w s p=(fr,q))(Y:Bad fr):So.frames b T w s (n+1) Z p=(.error (Z.length,fr),q):=by
 simp only[So.frames,h];rcases Y with⟨a,rfl⟩|⟨a,rfl⟩|rfl<;>rfl
section
variable{w wr W0 w8 W9 w9:aK}{g z p p2:Nat}{x Du:aO}{AL A8:dK}{cL c8:Nat}{l:List Ji}{cs:Array cO}
theorem QN(Z:Below w w wr)(L:w≤g)(M:g<wr)(P:yB 299 w g wr g x p)
  (W:wr.ownsRow (g+1) 90 3 (aG AL l cL) l (Dn l)) (T:Ux wr w l) (V:Below wr wr W0) (R:yB 299 w g w8 g x p2) (X:bQ (fun i=>i=g) W0 w8)
  (Y:bQ (fun i=>i=z) w8 W9) (K:wr≤z) (O:bF W9 z 90 cs):
  Below w w W9∧yB 299 w g W9 g x p2∧W9.ownsRow (g+1) 90 3 (aG AL l cL) l (Dn l)∧Ux W9 w l∧g<W9∧bF W9 z 90 cs:=by
 have N:=P.keep V;obtain⟨_,_,J,I,S,_⟩:=N;have H:=V.size;have G:=X.size;have F:=Y.size
 refine⟨((Z.trans (V.mono Z.size)).trans (X.below (by have:=Z.size;omega) (fun i e=>aj))).trans (Y.below (by have:=Z.size;omega) (fun i e=>by have:=Z.size;omega)),
  R.dH Y aj (fun i E D=>aj),?_,?_,aj,O⟩
 ·refine mO (mO (oH W V) X (fun i U e=>?_)) Y (fun i U e=>?_)
  ·exact dP (oH W V) S bn (by rw[U,e])
  ·have:=(W.lt i U).2;omega
 ·intro f Q
  refine mO (mO (oH (T f Q) V) X (fun i U e=>?_)) Y (fun i U e=>?_)
  ·exact dP (oH (T f Q) V) S bn (by rw[U,e])
  ·have:=((T f Q).lt i U).2;omega
theorem ahR(Z:Below w w W9)(I:w≤g)(L:g<W9)(R:yB 299 w g W9 g x p2)
  (X:W9.ownsRow (g+1) 90 3 (aG AL l cL) l (Dn l)) (Q:Ux W9 w l) (P:W9.ownsRow w 3 1 (aG A8 Du c8) Du (Du.map (Value.int .i64)))
  (O N:Int) (o:Obj) (W:(W9.alloc o).grownBy w9 (Value.slice AL l cL).ownBlock):
  Ux w9 w (l++ [⟨O,N,A8,Du,c8⟩])∧yB 299 w g w9 g x p2∧Below w w w9∧g<w9:=by
 have V:Below W9 W9 (W9.alloc o):=(aU _ _).alloc (bC _) _;have T:=bQ.xB W (fun i _ e=>e.symm);have K:=T.size;have J:=V.size;have Y:∀i,(Value.slice AL l cL).ownBlock=some i→g<i:=fun i S=>by have:=(X.lt i S).1;omega
 refine⟨fun f M=>?_,(R.keep V).dH T (fun e=>by have:=Y _ e;omega) (fun i H G e=>by have:=Y _ e;omega),(Z.alloc Z.size o).trans (T.below (by have:=Z.size;simp;omega) (fun i e=>by have:=Y _ e;omega)),aj⟩
 have U:∀f:Ji,W9.ownsRow w 3 1 (aG f.A f.Du f.c) f.Du (f.Du.map (Value.int .i64))→w9.ownsRow w 3 1 (aG f.A f.Du f.c) f.Du (f.Du.map (Value.int .i64)):=
  fun f h=>mO (oH h V) T (fun i S e=>EZ (oH h V) (oH X V) bn i S e)
 rcases rH.1 M with h|h
 ·exact U f (Q f h)
 ·simp at h;subst h;exact U _ P
end
theorem Ux.rd{B:Nat}{l:List Ji}(Z:w.ownsRow base 90 3 (aG A l i) l (Dn l))(Y:Ux w B l)(h:∀f∈l,f.Du.length≤9223372036854775807):RdF w A l:=
 ⟨Rd.ER Z,fun f X=>⟨(yK.ER (Y f X)).1,h f X⟩⟩
theorem ahS{Y:List cO}(h:w.ownsRow base e size (aG A n c) n Y):n≤c:=by
 rcases h.2 with⟨Z,V⟩|⟨g,X,W,Z,-,-,U,-⟩
 ·omega
 ·injection Z with _ _ T
  omega
theorem abn(xh:b.length≤1000000000)(zv:b≤c)(qe:∀x∈b,0≤x∧x≤255)(h0:yQ b=0)(w:aK)(ha:yK .u8 w A b):
  Calls prog 99 #[aG A b c] w (Iy w b):=by
 obtain⟨i0,hi,zE,zF,zG⟩:=iq Yy;obtain⟨h5,qZ,za,h2,h3,h4⟩:=Kr h0;obtain⟨q,o,n0,n1,n2,n3,n4,hA,HN,-,k0,k1,k2,k3,k4⟩:=F6 ha h5 qe;obtain⟨e0,e1,e2,e3,e4⟩:=HN;rw[e0]at qZ;rw[e1]at za;rw[e2]at h2;rw[e3]at h3;rw[e4]at h4;obtain rfl:n0=75:=aj
 obtain rfl:n1=83:=aj
 obtain⟨C2,C3⟩:=aV (Oo n2 aj) (Oo n3 aj);rw[show Jy n2=true from su h2]at C2;rw[show Jy n3=true from su h3]at C3;have xi:¬(n4:Int)<1:=aj
 have xj:¬16<(n4:Int):=aj
 have hd:Hid (Dh b=Yw (b.drop 5) (8*n2) (8*n2*(8*n3)) n4):=ay (by
  unfold Dh RV TP nOf;rw[aF h0,e2,e3,e4];rfl)
 have qN:Hid (RV b=8*n2∧TP b=8*n3):=ay (by unfold RV TP;rw[e2,e3];exact sD)
 have hx:yK .u8 w (if c=5 then A else A.map (·.add (5*1))) (b.drop 5):=by
  have:=Rd.cut (k:=5) ha zv;unfold yK;rw[Hw,List.map_drop];exact this
 have zb:Hid (∀x∈b.drop 5,0≤x∧x≤255):=ay fun x hx=>qe x (gZ hx)
 have HA:=ay ha;have zc:(b.drop 5).length=b-5:=Hw;have ze:=ay zc;have d:(b.drop 5).length≤1000000000:=aj
 subst hA;have zf:=ay fun h=>by rw[aF h]at hx;exact hx
 have zg:Hid (¬c=5→yK .u8 w (some (aH q (o+5))) (b.drop 5)):=ay fun h=>by
  rw[au h]at hx;simpa[add_lit]using hx
 obtain⟨x,zh⟩:∃x,b.drop 5=x:=⟨_,rfl⟩;rw[zh]at hd zb zf zg ze d;obtain⟨X,qO⟩:∃X,8*n2=X:=⟨_,rfl⟩;obtain⟨S,qP⟩:∃S,8*n3=S:=⟨_,rfl⟩;rw[qO,qP]at hd;rw[qO,qP]at qN;have qQ:8≤X∧X≤32:=aj
 have qR:8≤S∧S≤32:=aj
 have zH:Hid (IntKind.i64.wrap (8*(n2:Int))=X):=ay (by rw[(aj:8*(n2:Int)=(X:Int))];exact iE _ aj);have zI:Hid (IntKind.i64.wrap (8*(n3:Int))=S):=ay (by rw[(aj:8*(n3:Int)=(S:Int))];exact iE _ aj)
 have qe:Hid (Dh b=match So.frames x (8*x.length) X (X*S) n4 [] 0 with
  |(.error (i,fr),_)=>.error ((wz,(i:Int))::frP fr,frC fr)
  |(.ok fs,p)=>VP x n4 fs p):=ay hd.out
 clear ha hx zc h0 e0 e1 e2 e3 e4 qZ za zh qO qP hd;go_enter func99,ntmps99;go_wp2_with fail;refine(C2 _).aQ ?_;rintro w' rfl;go_wp2_with fail;refine(C3 _).aQ ?_;rintro w' rfl;go_wp2_with fail
 all_goals
  rw[←ze];refine(XG d zb _ (by first|exact zf (by assumption)|exact zg (by assumption))).mono ?_;rintro e w1 ⟨g,rfl,qo,qf,qS⟩;have zJ:=qo.lt;obtain⟨zw,zK⟩:=aV qo qS;have zL:=aC k4 qS;clear qo qS;go_wp2_with fail;clear zL
  go_loopg [6,67] n4 (fun k v6 zM wr=>∃(j p:Nat) (AL:dK) (cL:Nat) (l:List Ji),j+k=n4∧zM=j∧Hid (l.length=j)∧v6=aG AL l cL∧
   wr.ownsRow (g+1) 90 3 (aG AL l cL) l (Dn l)∧Ux wr w l∧Hid (∀f∈l,f.w=X∧f.h=S∧f.Du.length≤9223372036854775807)∧
   Hid (So.frames x (8*x.length) X (X*S) n4 [] 0=So.frames x (8*x.length) X (X*S) k (l.map Ji.Du) p)∧
   yB 299 w g wr g x p∧Below w w wr∧g<wr)
  case atStart=>exact⟨0,0,none,0,[],aj,rfl,ay rfl,rfl,⟨rfl,.inl ⟨rfl,rfl⟩⟩,(fun f G=>by cases G),ay (fun f G=>by cases G),ay rfl,zw,zK,zJ⟩
  case round=>
   obtain⟨j,p,AL,cL,l,hj,rfl,qg,rfl,qH,zi,qA,qq,zj,B,qB⟩:=hrel;obtain⟨L,qa,I⟩:=dB qH zi zj;have F:=aC k2 B;have E:=aC k3 B;have Q:=ay B;clear qH zi zj B
   by_cases zx:j<n4
   ·obtain⟨m,rfl⟩:∃m,gk=m+1:=⟨gk-1,aj⟩
    have xg:(j:Int)<(n4:Int):=aj
    have zk:=zH.out;have zl:=zI.out;have zm:IntKind.i64.wrap (n2:Int)=n2:=iE _ aj;have zn:IntKind.i64.wrap (n3:Int)=n3:=iE _ aj;cases H:So.frame x (8*x.length) X (X*S) p with
    |mk fr p2=>
    rcases Yx H with⟨Y,rfl⟩|qr
    ·have CF:Hid (∀W,Below wr wr W→Calls prog 145 #[aY g,X,S] W fun e w'=>∃A c,e=bM (eP #[.agg #[X,S,aG A Y c],iI])∧
       w'.ownsRow W 3 1 (aG A Y c) Y (Y.map (Value.int .i64))∧uj 299 w g W g x p2 w'):=ay fun W hW=>ade d qQ qR H W (by have:=hW.size;omega) (I.keep hW)
     have B1:Below wr wr wr.drew:=(aU _ _).drew;have B2:Below wr wr (wr.alloc (aS #[aB 0,aB 0,bU] 90)).drew:=((aU _ _).alloc (bC _) _).drew;have qh:=ay (bF.new wr 90 #[aB 0,aB 0,bU]).drew;have zo:w.heap.size≤wr:=Q.size;have zN:(2:Int)<(b.length:Int):=aj
     have zO:(3:Int)<(b.length:Int):=aj
     have qX:=ay (qq.out.trans (Yz H))
     have zP:Hid (Y.length≤9223372036854775807):=ay (by
      have h1:=(So.Pm (b':=x) (bC _) (fun _ _=>rfl) H).2.2.1;have h2:X*S≤32*32:=fC qQ.2 qR.2;omega)
     have qi:¬q=wr:=by have:=lt_of_cell k2;simp at this;omega
     clear H;go_wp2_with fail
     go_region_held3(fun W=>W.cell? (aH q (o+2))=some (.int .u8 n2)∧W.cell? (aH q (o+3))=some (.int .u8 n3))
      (first|go_keep|exact V|exact⟨bG V.1 (Eh O).1 qi,bG V.2 (Eh O).1 qi⟩|exact⟨aC V.1 ((aU M M).alloc (bC _) _),aC V.2 ((aU M M).alloc (bC _) _)⟩|fail)
      (first
        |(go_at_call 145;refine(CF _ B2).mono ?_;rintro e M ⟨A8,c8,rfl,qj,U,Z⟩;have V:=And.intro (bG (aC F B2) Z (show¬q=g by have:=lt_of_cell k2;simp at this;omega)) (bG (aC E B2) Z (show¬q=g by have:=lt_of_cell k2;simp at this;omega));have O:=qh.out.dH Z (show¬wr=g by omega);have zQ:=jT O)
        |(go_at_call 145;refine(CF _ B1).mono ?_;rintro e M ⟨A8,c8,rfl,qj,U,Z⟩;have V:=And.intro (bG (aC F B1) Z (show¬q=g by have:=lt_of_cell k2;simp at this;omega)) (bG (aC E B1) Z (show¬q=g by have:=lt_of_cell k2;simp at this;omega)))
        |fail)
     all_goals
      first
       |(have hD:=QN Q qf qB I L qa B1 U Z (z:=M.heap.size) (bQ.of_below ((aU _ _).alloc (bC _) _)) (by have:=Z.size;exact this) (bF.new M 90 #[X,S,.slice A8 Y c8])
         have qk:=own_base (qj.alloc (aS #[X,S,aG A8 Y c8] 90)) (show w.heap.size≤wr.drew from zo);obtain⟨n,R⟩:∃n,M.alloc (aS #[X,S,aG A8 Y c8] 90)=n:=⟨_,rfl⟩;obtain⟨z,hz⟩:∃z,M=z:=⟨_,rfl⟩;rw[R,hz]at hD ⊢;rw[R]at qk)
       |(have D:=Eh (a':=.int .i64 X) (b':=.int .i64 S) (c':=.slice A8 Y c8) O
         have hD:=QN Q qf qB I L qa B2 U Z D.1 (bC _) D.2;have qk:=mO (own_base qj (show w.heap.size≤_ by simp;omega)) D.1 (fun i hi e=>dP qj O bn (by rw[hi,e]));obtain⟨n,R⟩:∃n,((M.setCell ⟨wr,0,none⟩ X).setCell ⟨wr,1,none⟩ S).setCell ⟨wr,2,none⟩ (aG A8 Y c8)=n:=⟨_,rfl⟩;obtain⟨z,hz⟩:∃z,wr=z:=⟨_,rfl⟩;rw[R]at qk;rw[R,hz]at hD ⊢)
     all_goals
      obtain⟨qv,qI,qw,qJ,zR,zq⟩:=hD;obtain⟨⟨y0,y1,y2⟩,-⟩:=jT zq;obtain⟨K,zy,qy,zA,zS⟩:=rG qv qI qw qJ qk;have xk:l.length≤16:=by have:=qg.out;omega
      clear qv qI qw qJ qk zq qj U Z V hz R zk zl zm zn F E B1 B2 qh;go_wp2_with(at_builtin;refine iy _ rfl (.tmp 90) (.tmp 92) _ rfl (g+1) 90 i0 _ 3 40 underlying85 hi zE zF zG rfl aj (aG AL l cL) l _ rfl (qy.alloc _) (aH n 0) 1 1 [X,S,aG A8 Y c8] rfl rfl (fH (cs:=#[X,S,aG A8 Y c8]) (t:=90) (fr:=(0,0)) (lV n _)) (by simp[Value.oneCell']) aj (by unfold maxLen;omega) aj jy _ rfl ?_;intro gb zT w9 qz r zB qs);have hP:=ahR K qf zR zy qy zA zS X S _ r;have qK:Dn (l++ [(⟨X,S,A8,Y,c8⟩:Ji)])=Dn l++ [aB X,aB S,aG A8 Y c8]:=by rw[Yu];rfl
      have zr:(l++ [(⟨X,S,A8,Y,c8⟩:Ji)]).length=l+1:=bK
      obtain⟨qY,HP,zC,qT⟩:=jH qz hP qK zr;clear qz r zB hP qK zr y0 y1 y2;go_roundg m
      case measure=>omega
      case rel=>
       obtain⟨zU,zV,zW,zX⟩:=HP
       exact⟨j+1,p2,some (aH gb 0),zT,l++ [⟨X,S,A8,Y,c8⟩],aj,fA,ay (by rw[qT,qg.out]),by rw[qT],by rw[qT,zC];exact qY,zU,
        ay (fun f G=>by
         rcases rH.1 G with h|h
         ·exact qA.out f h
         ·simp at h;subst h;exact⟨rfl,rfl,zP⟩),
        ay (by rw[qX.out,gG];rfl),zV,zW,zX⟩
    ·have CF:Hid (∀W,Below wr wr W→Calls prog 145 #[aY g,X,S] W fun e w'=>∃T y,e=bM (eP #[.agg #[aB 0,aB 0,bU],.iface T y])∧
       ErrAt w' (frP fr) (.iface 48 (frC fr)) (.iface T y)∧uj 299 w g W g x p2 w'):=ay fun W hW=>abm d qQ qR H qr W (by have:=hW.size;omega) (I.keep hW)
     have B1:Below wr wr wr.drew:=(aU _ _).drew;have B2:Below wr wr (wr.alloc (aS #[aB 0,aB 0,bU] 90)).drew:=((aU _ _).alloc (bC _) _).drew;have qh:=ay (bF.new wr 90 #[aB 0,aB 0,bU]).drew;have zo:w.heap.size≤wr:=Q.size;have zN:(2:Int)<(b.length:Int):=aj
     have zO:(3:Int)<(b.length:Int):=aj
     have qi:¬q=wr:=by have:=lt_of_cell k2;simp at this;omega
     have N:Hid (Dh b= .error ((wz,(j:Int))::frP fr,frC fr)):=ay (by
      rw[qe.out,qq.out,YA H qr];simp only[fJ];rw[qg.out])
     clear H qr;go_wp2_with fail
     go_region_held3(fun W=>W.cell? (aH q (o+2))=some (.int .u8 n2)∧W.cell? (aH q (o+3))=some (.int .u8 n3))
      (first|go_keep|exact V|exact⟨bG V.1 (Eh O).1 qi,bG V.2 (Eh O).1 qi⟩|exact⟨aC V.1 ((aU M M).alloc (bC _) _),aC V.2 ((aU M M).alloc (bC _) _)⟩|fail)
      (first
        |(go_at_call 145;refine(CF _ B2).mono ?_;rintro e M ⟨T8,y8,rfl,qC,U,Z⟩;have V:=And.intro (bG (aC F B2) Z (show¬q=g by have:=lt_of_cell k2;simp at this;omega)) (bG (aC E B2) Z (show¬q=g by have:=lt_of_cell k2;simp at this;omega));have O:=qh.out.dH Z (show¬wr=g by omega);have zQ:=jT O)
        |(go_at_call 145;refine(CF _ B1).mono ?_;rintro e M ⟨T8,y8,rfl,qC,U,Z⟩;have V:=And.intro (bG (aC F B1) Z (show¬q=g by have:=lt_of_cell k2;simp at this;omega)) (bG (aC E B1) Z (show¬q=g by have:=lt_of_cell k2;simp at this;omega)))
        |fail)
     all_goals
      first
       |(have hD:=(QN Q qf qB I L qa B1 U Z (z:=M.heap.size) (bQ.of_below ((aU _ _).alloc (bC _) _)) (by have:=Z.size;exact this) (bF.new M 90 #[.int .i64 0,.int .i64 0,.slice none 0 0])).1
         have ql:=qC.below ((aU M M).alloc (bC _) (aS #[aB 0,aB 0,bU] 90));obtain⟨n,R⟩:∃n,M.alloc (aS #[aB 0,aB 0,bU] 90)=n:=⟨_,rfl⟩;rw[R]at ql;rw[R]at hD ⊢)
       |(have D:=Eh (a':=.int .i64 0) (b':=.int .i64 0) (c':=.slice none 0 0) O
         have hD:=(QN Q qf qB I L qa B2 U Z D.1 (bC _) D.2).1;have ql:=qC.dH O D.1;obtain⟨n,R⟩:∃n,((M.setCell ⟨wr,0,none⟩ (aB 0)).setCell ⟨wr,1,none⟩ (aB 0)).setCell ⟨wr,2,none⟩ (bU)=n:=⟨_,rfl⟩;rw[R]at ql;rw[R]at hD ⊢)
     all_goals
      obtain⟨K,zY⟩:=aV hD ql;clear hD ql qC U Z V R zk zl zm zn F E B1 B2 qh;go_wp2_with fail;refine(xI _ _ _ _ _).aQ ?_;rintro xl ⟨zD,qL⟩;go_wp2_with fail;go_ret2;unfold Iy;rw[N.out];exact⟨⟨_,rfl,_,_,rfl,zD,zY.below qL⟩,K.trans (qL.mono K.size)⟩
   ·obtain rfl:j=n4:=aj
    obtain rfl:gk=0:=aj
    have qM:Hid (Dh b=VP x j (l.map Ji.Du) p):=ay (by rw[qe.out,qq.out];rfl);obtain⟨fo,qU⟩:∃fo,iC x p (Af p)=fo:=⟨_,rfl⟩;have CA:=ay (afF d _ I);rw[qU]at CA;have zt:=ay qU;have HS:Hid (∀a,iC x p (Af p)=some a→Dh b= .error ([(wz,(j:Int)),(Ii,(a:Int))],2)):=ay (fun a h=>by rw[qM.out];unfold VP;rw[h]);have zZ:Hid (iC x p (Af p)=none→Dh b=if p+Af p<8*x.length then .error ([(wz,(j:Int))],5)else .ok (l.map Ji.Du)):=ay (fun h=>by rw[qM.out];unfold VP;rw[h]);clear qU zx F E;go_wp2_with fail;refine CA.mono ?_;rintro e w5 ⟨v,rfl,qD,qt,u⟩;have zu:=Q.trans (u.below Q.size (fun i e=>aj));obtain⟨_,_,A0,c0,qV,_⟩:=I;have J:=mO L u (fun i hi e=>dP L qV bn (by rw[hi,e]));have qu:Ux w5 w l:=fun f G=>mO (qa f G) u (fun i hi e=>dP (qa f G) qV bn (by rw[hi,e]))
    have xa:Hid (l.length≤cL∧(∀p,AL=some p→w≤p.block)∧∀f∈l,∀p,f.A=some p→w≤p.block):=ay ⟨ahS J,
     fun p hp=>by have:=(J.lt p.block (by rw[hp];rfl)).1;omega,
     fun f G p hp=>((qu f G).lt p.block (by rw[hp];rfl)).1⟩
    obtain⟨xc,qE⟩:=aV (qu.rd J (fun f G=>(qA.out f G).2.2)) zu;clear zu qV J qu u;rcases fo with _|a
    ·have xd:v=iI:=by
      rcases qD with⟨_,_,h⟩|⟨h,_⟩
      ·exact h
      ·exact absurd rfl h
     subst xd;obtain⟨P,hP⟩:∃P,p+Af p=P:=⟨_,rfl⟩;have s:=qt;rw[hP]at s;have C:=ay (zZ zt);rw[hP]at C;have xn:=s.1;have CL:=ay (VL d _ s);clear qD qt s hP
     by_cases qs:P<8*x.length
     ·have N:=ay (C.out.trans (aF qs))
      go_wp2_with fail;refine CL.aQ ?_;rintro w6 ⟨nq,rfl⟩;have qF:=jM qE nq;generalize w5.drewN nq=w6 at*;go_wp2_with fail;refine(xI _ _ _ _ _).aQ ?_;rintro w7 ⟨qm,qG⟩;go_wp2_with fail;go_ret2;unfold Iy;rw[N.out];rw[qg.out]at qm;exact⟨⟨_,rfl,_,_,rfl,qm,rfl⟩,qF.trans (qG.mono qF.size)⟩
     ·have N:=ay (C.out.trans (au qs))
      go_wp2_with fail;refine CL.aQ ?_;rintro w6 ⟨nq,rfl⟩;have qF:=jM qE nq;have xe:=xc.keep (jM (aU _ w5) nq);generalize w5.drewN nq=w6 at*;go_wp2_with fail;go_ret2;unfold Iy;rw[N.out,qN.1,qN.2];exact⟨⟨_,_,l,xa,rfl,xe,rfl,fun f G=>⟨(qA.out f G).1,(qA.out f G).2.1⟩⟩,qF⟩
    ·have qW:ErrAt w5 [(Ii,(a:Int))] (.iface 48 (aB 2)) v:=by
      rcases qD with⟨h,_⟩|⟨_,h⟩
      ·exact absurd h (show(2:Int)≠0 by decide)
      ·exact h
     obtain⟨T9,y9,rfl⟩:=qW.iface;obtain⟨xf,N⟩:=aV qW (HS a zt);clear qD qW qt;go_wp2_with fail;refine(xI _ _ _ _ _).aQ ?_;rintro w7 ⟨qm,qG⟩;go_wp2_with fail;go_ret2;unfold Iy;rw[N.out];rw[qg.out]at qm;exact⟨⟨_,rfl,_,_,rfl,qm,xf.below qG⟩,qE.trans (qG.mono qE.size)⟩
theorem adf(T:b.length≤1000000000)(W:b≤c)(Z:∀x∈b,0≤x∧x≤255)(w:aK)(V:yK .u8 w A b):
  Calls prog 99 #[aG A b c] w (Iy w b):=by
 by_cases Y:b.length<5
 ·exact(ahO Y w).mono fun e S h=>h.c (Ak (c:=yQ b) rfl (by unfold yQ;rw[aF Y];decide))
 ·by_cases X:b.getD 0 0=75∧b.getD 1 0=83
  ·by_cases U:(1≤b.getD 2 0∧b.getD 2 0≤4)∧(1≤b.getD 3 0∧b.getD 3 0≤4)∧1≤b.getD 4 0∧b.getD 4 0≤16
   ·refine abn T W Z ?_ w V
    unfold yQ;rw[au Y,au (fun h=>h X),au (fun h=>h U)]
   ·exact(ahQ aj Z X U w V).mono fun e S h=>h.c (Ak (c:=yQ b) rfl (by unfold yQ;rw[au Y,au (fun h=>h X),aF U];decide))
  ·exact(ahP aj Z X w V).mono fun e S h=>h.c (Ak (c:=yQ b) rfl (by unfold yQ;rw[au Y,aF X];decide))
structure Ei where
 qn:Int
 qx:Int
 re:Int
 cu:Int
 go:Int
 ra:Int
 ro:Int
 fi:Int
abbrev Ei.v(C:Ei):cO:=.agg (jC C.qn C.qx C.re C.cu C.go C.ra C.ro C.fi)
def Ei.may(C:Ei):Bool:=jo C.qn C.qx C.re C.cu C.go C.ra C.ro C.fi
structure fG where
 W:Nat
 H:Nat
 fs:List aO
 gs:List (Nat × Nat)
 caps:aO
def EH(C:Ei)(W H:Nat)(Z:List aO):fG:=
 ⟨W,H,Z,jB (W*H) Z C.cu C.go Z.length,Ic C.ra C.ro C.fi (kU W H Z (jB (W*H) Z C.cu C.go Z.length))⟩
def kY(C:Ei)(b:aO):Except Er fG:=
 if C.may then match Dh b with| .ok Z=>.ok (EH C (RV b) (TP b) Z)| .error e=>.error e else .error ([],11)
structure fG.ok(P:fG):Prop where
 n:1≤P.fs.length∧P.fs.length≤16
 may:∀f∈P.fs,GK P.W P.H f=true
 row:vw 0 P.gs P.fs.length
 caps:P.caps.length=P.fs.length
 alP:∀c∈P.caps,8≤c∧c≤16384
theorem TQ(h:GK W H f=true):Bd 0 255 f∧H/8*(W/8)≤16:=by
 obtain⟨-,-,⟨a,X,-,Z⟩,⟨b,V,-,Y⟩⟩:=FZ h;refine⟨?_,?_⟩
 ·unfold GK at h
  simp only[jU]at h;exact(oG 0 255 f).1 h.2
 ·exact dD (fC (by omega:H/8≤4) (by omega:W/8≤4)) aj
theorem VQ{Z:List aO}{g:List (Nat × Nat)}(h:∀f∈Z,GK W H f=true):∀v∈kU W H Z g,1≤v∧v≤16777216:=by
 refine lK fun i X=>?_
 have Y:=TQ (h (Z.getD i []) (by rw[dG,fP X];exact lS _));unfold Ho;have V:=OM (W:=W) (H:=H) Y.1 Y.2;have U:=OO (W:=W) (H:=H) (q:=Z.getD (i-1) []) Y.1 Y.2;split<;>omega
theorem Ny{C:Ei}{Z:List aO}(U:C.may=true)(R:1≤Z.length∧Z.length≤16)(h:∀f∈Z,GK W H f=true):(EH C W H Z).ok:=by
 have Q:=tu U;refine⟨R,h,Fj _,?_,?_⟩
 ·show(Ic _ _ _ _).length=_
  unfold Ic;rw[wE];exact fB _ _
 ·intro c Y
  unfold EH Ic at Y;dsimp only at Y;obtain⟨k,V,rfl⟩:=jA.1 Y;have X:=V;rw[wE]at X;have:=Tc (T:=C.fi+(((kU W H Z (jB (W*H) Z C.cu C.go Z)).length:Int)-1)*C.ra) (S:=rU (kU W H Z (jB (W*H) Z C.cu C.go Z))) aj aj aj aj k X V;omega
theorem TR{Z:List aO}(h:Dh b= .ok Z):(1≤Z.length∧Z.length≤16)∧∀f∈Z,GK (RV b) (TP b) f=true:=by
 obtain⟨Y,X,W⟩:=aej h;obtain⟨-,-,-,S,R,Q⟩:=Kr Y;unfold nOf at X;refine⟨aj,fun f V=>?_⟩;obtain⟨U,T⟩:=W f V;unfold GK yu;have P:RV b=8*(b.getD 2 0).toNat:=rfl;have O:TP b=8*(b.getD 3 0).toNat:=rfl;rw[(oG 0 255 f).2 T,su aj,su aj,su (by rw[U];simp)];rfl
def Bv(w:aK)(lo hi:Nat)(v:cO)(P:fG):Prop:=
 ∃A n c G m d D e,v= .agg #[aB P.W,aB P.H,aG A n c,aG G m d,aG D n e]∧(P.fs.length=n∧n≤c∧n≤e)∧Ut w lo hi A P.W P.H (P.W*P.H) P.fs∧(Qo Py w G m P.gs∧∀i,In G i→lo≤i∧i<hi)∧Ls w D n P.caps∧∀i,In D i→lo≤i∧i<hi
theorem Bv.dH{w w':aK}{lo hi:Nat}{v:cO}{P:fG}{S:Nat→Prop}(h:Bv w lo hi v P)(Z:bQ S w w')(Y:∀i,S i→i<lo∨hi≤i):Bv w' lo hi v P:=by
 obtain⟨A,n,c,G,m,d,D,e,U,T,R,⟨Q,X⟩,W,V⟩:=h;exact⟨A,n,c,G,m,d,D,e,U,T,R.dH Z Y,⟨Q.dH Z (fun i hi k=>by have:=X i hi;have:=Y i k;omega),X⟩,⟨W.len,W.rd.dH Z (fun q O k=>by have:=V _ ⟨q,O,rfl⟩;have:=Y _ k;omega)⟩,V⟩
theorem Bv.keep{v:cO}{P:fG}(h:Bv w lo hi v P)(Z:aP w w'):Bv w' lo hi v P:=h.dH (bQ.of_below (S:=fun _=>False) Z) (fun _ h=>h.elim)
theorem alQ{l:List Ji}(h:RdF w A l)(O:∀f∈l,f.w=(W:Int)∧f.h=(H:Int))(J:∀f∈l.map Ji.Du,GK W H f=true)(Q:∀p,A=some p→lo≤p.block)(I:∀f∈l,∀p,f.A=some p→lo≤p.block)(y:w.heap.size≤hi):Ut w lo hi A W H (W*H) (l.map Ji.Du):=by
 have G:∀i,(hi:i<l.length)→(l.map Ji.Du).getD i []=l[i].Du:=fun i hi=>by rw[dG,gX,fP hi];rfl
 have T:∀b o,(0<l.length→A=some (aH b o))→∀i,i<(l.map Ji.Du).length→∃B c,aN w b (o+i*3) (aB W)∧aN w b (o+i*3+1) (aB H)∧aN w b (o+i*3+2) (aG B (W*H) c)∧Fr w W H (W*H) B ((l.map Ji.Du).getD i [])∧∀p,B=some p→lo≤p.block∧p.block<hi:=by
  intro b o Q i hi;have Z:i<l.length:=by simpa using hi
  obtain⟨s,r,R,N,M,L⟩:=h.at_ Z;have e:=Q aj;rw[e]at R;injection R with R
  injection R with F E
  subst F;subst E;obtain⟨D,C⟩:=O _ (lS Z);have Y:=J l[i].Du (FH.2 ⟨_,lS Z,rfl⟩);obtain⟨-,-,⟨a,q,x,v⟩,⟨c,n,u,t⟩⟩:=FZ Y
  have X:l[i].Du=W*H:=by
   unfold GK at Y;simp only[jU,oQ]at Y;have:=Y.1.2;rw[←Int.natCast_mul]at this;exact Int.ofNat.inj this
  rw[D]at N;rw[C]at M;rw[X]at L;have U:Ls w l[i].A (W*H) l[i].Du:=⟨X,(h.Du Z).1⟩;refine⟨_,_,N,M,L,?_,fun p K=>⟨I _ (lS Z) p K,?_⟩⟩
  ·rw[G i Z]
   exact⟨aj,aj,fC (by omega:W≤32) (by omega:H≤32),rfl,Y,U⟩
  ·have S:0<W*H:=Nat.mul_pos aj aj
   have:=U.lt S p K;omega
 by_cases P:0<l.length
 ·obtain⟨b,o,V,z,-⟩:=h.at_ P
  refine⟨b,o,fun _=>⟨V,Q _ V,?_⟩,T b o (fun _=>V)⟩;have:=lt_of_cell z;dsimp only at this;omega
 ·exact⟨0,0,fun h=>absurd (by simpa using h) P,fun i hi=>absurd (by simp at hi;omega) P⟩
def Zw(w:aK)(C:Ei)(b:aO)(e:Ending)(w':aK):Prop:=
 aP w w'∧
 match kY C b with
 | .ok P=>∃v,e= .returned (.tuple #[v,.nilIface])∧Bv w' w.heap.size w'.heap.size v P∧P.ok
 | .error Z=>∃v,e= .returned (.tuple #[.agg #[.int .i64 0,.int .i64 0,.slice none 0 0,.slice none 0 0,.slice none 0 0],v])∧ErrAt w' Z.1 (.iface 48 (.int .i64 Z.2)) v
abbrev Nz:Array cO:=#[aB 0,aB 0,bU,bU,bU]
theorem Ut.wide{l:List aO}(h:Ut w lo hi A W H N l)(h1:j≤lo)(h2:hi≤k):Ut w j k A W H N l:=by
 obtain⟨b,o,Z,Y⟩:=h.at_;refine⟨b,o,fun X=>?_,fun i hi=>?_⟩
 ·obtain⟨e,P,O⟩:=Z X
  exact⟨e,aj,aj⟩
 ·obtain⟨B,c,V,U,T,S,R⟩:=Y i hi
  exact⟨B,c,V,U,T,S,fun p Q=>by have:=R p Q;omega⟩
theorem Fp(P:cs.size=5)(W V U T S:cO)(Y:bF u g t cs)(Q:aP w u)(h2:w≤g):
  ∃X,X=((((u.setCell ⟨g,0,none⟩ W).setCell ⟨g,1,none⟩ V).setCell ⟨g,2,none⟩ U).setCell ⟨g,3,none⟩ T).setCell ⟨g,4,none⟩ S∧
   (X.cell? (aH g 0)=some W∧X.cell? (aH g 1)=some V∧X.cell? (aH g 2)=some U∧X.cell? (aH g 3)=some T∧X.cell? (aH g 4)=some S)∧
   aP w X∧bQ (fun i=>i=g) u X:=by
 refine⟨_,rfl,?_⟩
 have R:bQ (fun i=>i=g) u (((((u.setCell ⟨g,0,none⟩ W).setCell ⟨g,1,none⟩ V).setCell ⟨g,2,none⟩ U).setCell ⟨g,3,none⟩ T).setCell ⟨g,4,none⟩ S):=
  (((((bQ.refl (fun i=>i=g) u).setCell (p:=(aH g 0)) (fun _=>rfl) W).setCell (p:=(aH g 1)) (fun _=>rfl) V).setCell (p:=(aH g 2)) (fun _=>rfl) U).setCell (p:=(aH g 3)) (fun _=>rfl) T).setCell (p:=(aH g 4)) (fun _=>rfl) S
 have Z:=((((Y.store 0 W).store 1 V).store 2 U).store 3 T).store 4 S;refine⟨⟨?_,?_,?_,?_,?_⟩,eH Q R Q.size (fun i O=>aj),R⟩
 all_goals(rw[Z.cell];simp[P])
theorem TS{C:Ei}(a:b=n)(qR:n≤1000000000)(qI:n≤c)(qS:dV b)(w:aK)(ha:yK .u8 w A b):
  Calls prog 59 #[C.v,aG A n c] w (Zw w C b):=by
 subst a;have hb:=gU w (aS (jC C.qn C.qx C.re C.cu C.go C.ra C.ro C.fi) 23) (aS Nz 93);have X0:=(bF.new w 23 (jC C.qn C.qx C.re C.cu C.go C.ra C.ro C.fi)).alloc (aS Nz 93);have X1:=bF.new1 w (aS (jC C.qn C.qx C.re C.cu C.go C.ra C.ro C.fi) 23) 93 Nz;obtain⟨E,s⟩:∃E:aK,E=(w.alloc (aS (jC C.qn C.qx C.re C.cu C.go C.ra C.ro C.fi) 23)).alloc (aS Nz 93):=⟨_,rfl⟩;rw[←s]at hb X0 X1;have s2:E.heap.size=w+2:=by rw[s];simp
 have HA:=ay (fun Z (h:aP E Z)=>(ha.keep hb).keep h);have qT:Hid (∀Z,aP E Z→bF Z w 23 (jC C.qn C.qx C.re C.cu C.go C.ra C.ro C.fi)):=ay (fun Z h=>X0.keep h);have qa:Hid (∀Z,aP E Z→bF Z (w.heap.size+1) 93 Nz):=ay (fun Z h=>X1.keep h);change Hid _ at s hb s2;clear X0 X1 ha;obtain⟨y,x,u,S,R,P,O,M⟩:=C
 have Q:Hid (∀Z,aP E Z→aN Z w 0 (aB y)∧aN Z w 1 (aB x)∧aN Z w 2 (aB u)∧aN Z w 3 (aB S)∧aN Z w 4 (aB R)∧aN Z w 5 (aB P)∧aN Z w 6 (aB O)∧aN Z w 7 (aB M)):=ay (fun Z h=>by
  have hx:=qT Z h;exact⟨hx.at rfl,hx.at rfl,hx.at rfl,hx.at rfl,hx.at rfl,hx.at rfl,hx.at rfl,hx.at rfl⟩)
 cases X:jo y x u S R P O M with
 |false=>
  have I:Hid (kY ⟨y,x,u,S,R,P,O,M⟩ b= .error ([],11)):=ay (by unfold kY Ei.may;dsimp only;rw[X];rfl);have qq:=ay (fun Z=>Oj X Z);clear X;go_enter func59,ntmps59;obtain⟨c0,c1,c2,c3,c4,c5,c6,c7⟩:=Q.out E (aU _ _);go_upto_region 1 with(fail)
  change Code.wp _ _ _ _ ((w.alloc (aS (jC y x u S R P O M) 23)).alloc (aS Nz 93));rw[←s];go_wp2_with fail;refine(qq _).aQ ?_;rintro w1 T;have Y:=qa _ T;obtain⟨W9,L,⟨z0,z1,z2,z3,z4⟩,K,D⟩:=Fp (cs:=Nz) rfl (aB 0) (aB 0) (bU) (bU) (bU) Y (hb.trans (T.mono hb.size)) aj;obtain⟨y0,y1,y2,y3,y4⟩:=Y.s5;have g0:=Y.frozen 0;have g1:=Y.frozen 1;have g2:=Y.frozen 2;have g3:=Y.frozen 3;have g4:=Y.frozen 4;change Hid _ at K D L;clear Y;go_wp2_with fail;rw[←L];refine aT (by simp[results,results59,go_sem,z0,z1,z2,z3,z4];rfl) rfl ⟨K,?_⟩;rw[I];exact⟨_,rfl,rfl⟩
 |true=>
  obtain⟨qq,qJ⟩:=aV (fun Z=>wu X Z) (fun Z (h:aP E Z)=>adf (c:=c) qR qI qS Z (HA Z h));change Hid _ at X;go_enter func59,ntmps59;obtain⟨c0,c1,c2,c3,c4,c5,c6,c7⟩:=Q.out E (aU _ _);go_upto_region 1 with(fail)
  change Code.wp _ _ _ _ ((w.alloc (aS (jC y x u S R P O M) 23)).alloc (aS Nz 93));rw[←s];go_wp2_with fail;refine(qq _).aQ ?_;rintro w1 T;change Hid _ at T;clear c0 c1 c2 c3 c4 c5 c6 c7;go_wp2_with fail;refine(qJ _ T).mono ?_;unfold Iy;cases hd:Dh b with
  |error pc=>
   rintro e w3 ⟨⟨v,rfl,hE⟩,r⟩;have I:Hid (kY ⟨y,x,u,S,R,P,O,M⟩ b= .error pc):=ay (by unfold kY Ei.may;dsimp only;rw[X,hd];rfl);obtain⟨T9,y9,rfl⟩:=hE.iface;have V:=T.trans (r.mono T.size);have qK:=ay (qa _ V);change Hid _ at hE;clear r hd;have Y:=qa _ V;obtain⟨W9,L,⟨z0,z1,z2,z3,z4⟩,K,D⟩:=Fp (cs:=Nz) rfl (aB 0) (aB 0) (bU) (bU) (bU) Y (hb.trans (V.mono hb.size)) aj;obtain⟨y0,y1,y2,y3,y4⟩:=Y.s5;have g0:=Y.frozen 0;have g1:=Y.frozen 1;have g2:=Y.frozen 2;have g3:=Y.frozen 3;have g4:=Y.frozen 4;change Hid _ at K D L;clear Y;go_wp2_with fail;rw[←L];refine aT (by simp[results,results59,go_sem,z0,z1,z2,z3,z4];rfl) rfl ⟨K,?_⟩;rw[I];exact⟨_,rfl,hE.keep (fun b f hB=>hB.dH D (fun e=>by subst e;exact absurd (qK) (by intro h;exact hB.apart h bn rfl)))⟩
  |ok W=>
   rintro e w3 ⟨⟨A3,c3,l,⟨qe,qz,qA⟩,rfl,qB,qf,qC⟩,r⟩;have U:=TR hd;have qU:=tu X;have I:Hid (kY ⟨y,x,u,S,R,P,O,M⟩ b= .ok (EH ⟨y,x,u,S,R,P,O,M⟩ (RV b) (TP b) W)):=ay (by unfold kY Ei.may;dsimp only;rw[X,hd];rfl);have qL:=ay (Ny (C:=⟨y,x,u,S,R,P,O,M⟩) X U.1 U.2);have t:=alQ qB qC (by rw[qf];exact U.2) qz qA (bC _);rw[qf]at t;have qr:l.length=W:=by rw[←qf,fJ]
   have V:=T.trans (r.mono T.size);generalize hN:RV b*TP b=N at t;have B:Hid (EH ⟨y,x,u,S,R,P,O,M⟩ (RV b) (TP b) W=⟨RV b,TP b,W,jB N W S R W,Ic P O M (kU (RV b) (TP b) W (jB N W S R W))⟩):=ay (by unfold EH;rw[hN]);have qg:=VQ (g:=jB N W S R W) U.2;have H:=Fj (n:=N) (l:=W) (cut:=S) (MJ:=R) W;have qD:=(wS H).1;rw[qr];rw[qr]at qe;obtain⟨n,a⟩:∃n,W.length=n:=⟨_,rfl⟩;have J:(kU (RV b) (TP b) W (jB N W S R W)).length=n:=by unfold kU;rw[fB,a]
   rw[a]at U qe qg H qD J B ⊢;have qE:=ay (afx (c:=c3) (cut:=S) (MJ:=R) a U.1 aj aj w3 t);obtain⟨G,hG⟩:∃G,jB N W S R n=G:=⟨_,rfl⟩;rw[hG]at B qg H qD J qE;have qV:=ay (fun Z (Bg:dK) (bg:Nat) (h:aP w3 Z) (hg:Qo Py Z Bg G G)=>ac4 (c:=c3) (d:=bg) a U.1 H Z (t.keep h) hg);have z:Yo true P O M (kU (RV b) (TP b) W G)= .ok (Ic P O M (kU (RV b) (TP b) W G)):=Yp (QG (by rw[J];exact U.1.1) (by rw[J];exact U.1.2) qg);have k:=ay (fun Z (Bc:dK) (bc:Nat) (h:Ls Z Bc n (kU (RV b) (TP b) W G))=>ahG (qn:=y) (qx:=x) (re:=u) (cu:=S) (go:=R) (ra:=P) (ro:=O) (fi:=M) (c:=bc) (by rw[J];omega) Z h.rd);rw[X,z,J]at k;obtain⟨qW,qs⟩:=aV (show(Ic P O M (kU (RV b) (TP b) W G))=n by unfold Ic;rw[wE];exact J) U.1;generalize RV b=WW at*;generalize TP b=HH at*;generalize kU WW HH W G=ws at*;generalize Ic P O M ws=f at*;obtain⟨c0,c1,c2,qt,c4,c5,c6,c7⟩:=Q.out w3 V;change Hid _ at t V qe a hN;clear U qU qz qA qr qg H J z qB qC r hd qf hG;go_wp2_with fail;refine qE.mono ?_;rintro e w4 ⟨B4,b4,rfl,o4,m⟩;obtain⟨qF,qG⟩:=aV o4.ls (fun i hi=>o4.dN (i:=i) hi);change Hid _ at m;clear c0 c1 c2 qt c4 c5 c6 c7 o4;go_wp2_with fail;refine(qV w4 B4 b4 m qF).mono ?_;rintro e w5 ⟨B5,b5,rfl,o5,qh⟩;obtain⟨qi,qM,qX⟩:=dB (m.trans (qh.mono m.size)) (qF.keep qh) o5.ls;obtain⟨c0,c1,c2,qt,c4,c5,c6,c7⟩:=Q.out w5 (V.trans (qi.mono V.size));change Hid _ at qh;clear o5;go_wp2_with fail;refine(k w5 B5 b5 qX).mono ?_;rintro e w6 ⟨B6,b6,⟨qH,qu⟩,rfl,r6,qj⟩;obtain⟨qv,qY⟩:=aV (qi.trans (qj.mono qi.size)) (qM.keep qj);have qk:=ay (t.keep qv);have ql:=qj.size;have qN:=qh.size;change Hid _ at r6 qH;clear c0 c1 c2 qt c4 c5 c6 c7 qj;obtain⟨q,o,B1,b1,rfl,k0,k1,k2,-⟩:=qk.get (i:=0) (by have:=a.out;have:=qs.out;omega);have k0:aN w6 q o (aB WW):=by simpa using k0
   have k1:aN w6 q (o+1) (aB HH):=by simpa using k1
   have qw:=V.trans (qv.mono V.size);have ze:(0:Int)<(n:Int):=by have:=qs.out;omega
   have Y:=qa _ qw;have qZ:w.heap.size+2≤w3.heap.size:=by have h1:=V.size;have h2:=s2.out;omega
   have za:w.heap.size+2≤w1.heap.size:=by have h1:=T.size;have h2:=s2.out;omega
   have qO:=qi.size;have qP:=m.size;have qQ:=ql;obtain⟨W9,L,⟨z0,z1,z2,z3,z4⟩,K,D⟩:=Fp (cs:=Nz) rfl WW HH (aG (some (aH q o)) n c3) (aG B4 G b4) (aG B6 f b6) Y (hb.trans (qw.mono hb.size)) aj;obtain⟨y0,y1,y2,y3,y4⟩:=Y.s5;have g0:=Y.frozen 0;have g1:=Y.frozen 1;have g2:=Y.frozen 2;have g3:=Y.frozen 3;have g4:=Y.frozen 4;have F:bQ (fun i=>i=w+1) w6 W9.drew:=D.drew;have qm:w6.heap.size≤W9.drew:=F.size;have qo:=qv.size
   have j:Bv W9.drew w W9.drew (.agg #[WW,HH,aG (some (aH q o)) n c3,aG B4 G b4,aG B6 f b6]) ⟨WW,HH,W,G,f⟩:=by
    have qy:=qW.out;rw[qy];refine⟨_,n,c3,_,_,b4,_,b6,rfl,⟨a,qe,by have:=qH.out;omega⟩,?_,⟨qY.dH F ?_,?_⟩,⟨qy,r6.dH F ?_⟩,?_⟩
    ·have h:=qk.dH F (fun i e=>.inl (by subst e;omega))
     show Ut W9.drew w W9.drew _ WW HH (WW*HH) W;rw[hN];exact h.wide aj (dD qo qm)
    ·intro i hi e
     have:=(qG i hi).1;omega
    ·intro i hi
     have:=qG i hi;omega
    ·intro p hp e
     have:=qu p hp;omega
    ·rintro i ⟨p,hp,rfl⟩
     have h1:=qu p hp;have h2:=(show Ls w6 B6 n f from⟨qy,r6⟩).lt (by have:=qs.out;omega) p hp;omega
   have zb:Hid (kY ⟨y,x,u,S,R,P,O,M⟩ b= .ok ⟨WW,HH,W,G,f⟩):=ay (by rw[I,B]);have zc:Hid ((⟨WW,HH,W,G,f⟩:fG).ok):=ay (by have h:=qL.out;rw[B]at h;exact h);change Hid _ at K L j;clear Y D F qm qo qZ qw za qO qP qQ ql qN qu;go_upto_region 16 with(fail)
   go_region
   go_wp2_with fail;rw[←L];refine aT (by simp[results,results59,go_sem,z0,z1,z2,z3,z4];rfl) rfl ⟨K.drew,?_⟩;rw[zb];exact⟨_,rfl,j,zc⟩
abbrev Ej(r:bV):Array cO:=#[aB r.kind,aB r.sum,aB r.num,aB r.len,aB r.code]
abbrev F7(r:bV):cO:=.agg (Ej r)
theorem Kt{k:Int}(Z:48≤k∧k≤51)(w:aK):Calls prog 95 #[k] w fun e Y=>e=bM (.bool true)∧w=Y:=by
 obtain⟨X,W⟩:=Z;go_enter func95,ntmps95;go_wp2;go_ret;exact⟨by simp[*],rfl⟩
theorem wR.kind{r:bV}(h:wR r):48≤r.kind∧r.kind≤51:=by cases h<;>simp
theorem afL{r:bV}(h:wR r)(w:aK):Calls prog 141 #[F7 r] w (Val w (.bool true)):=by
 have Y:=ay (aJ w (aS (Ej r) 68));cases h with
 |start s n Z X=>
  obtain⟨V,U⟩:=Z;obtain⟨T,S⟩:=X;go_enter func141,ntmps141;go_wp2;go_ret;exact⟨by simp[*],Y⟩
 |done s n l Z X W=>
  obtain⟨V,U⟩:=Z;obtain⟨T,S⟩:=X;obtain⟨R,Q⟩:=W;go_enter func141,ntmps141;go_wp2;go_ret;exact⟨by simp[*];omega,Y⟩
 |fail c P=>
  obtain⟨O,N⟩:=P;go_enter func141,ntmps141;go_wp2;go_ret;exact⟨by simp[*],Y⟩
 |fin s l Z W=>
  obtain⟨V,U⟩:=Z;obtain⟨R,Q⟩:=W;go_enter func141,ntmps141;go_wp2;go_ret;exact⟨by simp[*],Y⟩
abbrev Dq:Array cO:=#[aB 0,aB 0,aB 0,aB 0,aB 0]
theorem gV{a b c d e:Int}(X:bF w g 68 #[a,b,c,d,e]):aN w g 0 (aB a)∧aN w g 1 (aB b)∧aN w g 2 (aB c)∧aN w g 3 (aB d)∧aN w g 4 (aB e):=
 ⟨X.at rfl,X.at rfl,X.at rfl,X.at rfl,X.at rfl⟩
theorem ajV{r:bV}(h:wR r)(w:aK):Calls prog 142 #[F7 r] w (Val w (F7 r)):=by
 cases h<;>
 ·go_enter func142,ntmps142
  go_wp2;refine aT (by simp[results,results142,go_sem];rfl) rfl ?_;exact⟨rfl,gU w _ _⟩
theorem Oq{r:bV}(h:wR r)(w:aK):Calls prog 98 #[F7 r] w (Val w (.bool true)):=by
 obtain⟨Y,X,L,V⟩:=ES w 68 (Ej r);obtain⟨U,T,S,R,Q⟩:=gV L;have Z:=h.kind;obtain⟨F,P,O⟩:=dB (fun w=>Kt Z w) (fun w=>afL h w) (fun w=>ajV h w);obtain⟨K,J,I,H,G⟩:=r;have E:aN Y.drew w 0 (aB K):=U;have D:aN Y.drew w 1 (aB J):=T;have C:aN Y.drew w 2 (aB I):=S;have B:aN Y.drew w 3 (aB H):=R;have A:aN Y.drew w 4 (aB G):=Q;change Hid _ at V X;clear h Z L;go_enter func98,ntmps98;go_upto_region 1 with(fail)
 change Code.wp _ _ _ _ (w.alloc _);rw[←X]
 go_region_held3(fun W=>aN W w 0 (aB K)∧aN W w 1 (aB J)∧aN W w 2 (aB I)∧aN W w 3 (aB H)∧aN W w 4 (aB G))
  (first|with_reducible exact⟨U,T,S,R,Q⟩|with_reducible exact⟨E,D,C,B,A⟩|with_reducible exact⟨aC U Z,aC T Z,aC S Z,aC R Z,aC Q Z⟩|fail)
  (first
    |(go_at_call 95;refine(F _).aQ ?_;rintro y rfl)
    |(go_at_call 141;refine(P _).aQ ?_;rintro z N;have Z:aP Y z:=((aU _ Y).drew).trans N)
    |(go_at_call 142;refine(O _).aQ ?_;rintro x M;have Z:=Z.trans (M.mono Z.size))
    |fail)
 go_wp2_with fail;go_ret;exact⟨rfl,V.trans (Z.mono V.size)⟩
theorem YB{k:Int}(Y:1≤k∧k≤4)(w:aK):Calls prog 277 #[k] w fun e Z=>e=bM (.bool true)∧w=Z:=by
 go_enter func277,ntmps277;go_wp2;go_ret;exact sD
theorem ahU{k:Int}(Z:k=3∨k=4)(w:aK):Calls prog 278 #[k] w fun e Y=>e=bM (.bool true)∧w=Y:=by
 rcases Z with rfl|rfl
 all_goals(
  go_enter func278,ntmps278;go_wp2;go_ret;exact sD)
def UQ(w:aK)(e:Ending)(w':aK):Prop:=(∃k q B n b,e=bM (eP #[.agg #[aB k,aB q,aG B n b],iI]))∧aP w w'
abbrev NC:Array cO:=#[aB 0,aB 0,bU]
theorem abp(R:cs.size=3)(X W V:cO)(Y:bF u g 348 cs)(S:aP w u)(h2:w≤g):
  ∃U,U=((u.setCell ⟨g,0,none⟩ X).setCell ⟨g,1,none⟩ W).setCell ⟨g,2,none⟩ V∧
   (U.cell? (aH g 0)=some X∧U.cell? (aH g 1)=some W∧U.cell? (aH g 2)=some V)∧aP w U:=by
 refine⟨_,rfl,?_⟩
 have T:bQ (fun i=>i=g) u (((u.setCell ⟨g,0,none⟩ X).setCell ⟨g,1,none⟩ W).setCell ⟨g,2,none⟩ V):=
  (((bQ.refl (fun i=>i=g) u).setCell (fun _=>rfl) X).setCell (fun _=>rfl) W).setCell (fun _=>rfl) V
 have Z:=((Y.store 0 X).store 1 W).store 2 V;refine⟨⟨?_,?_,?_⟩,eH S T S.size (fun i Q=>aj)⟩
 all_goals(rw[Z.cell];simp[R])
theorem YC{k:Int}(S:k=3∨k=4)(w:aK):Calls prog 259 #[.agg #[k,aG A 0 c]] w (UQ w):=by
 have V:=gU w (aS #[k,aG A 0 c] 257) (aS NC 348);have R:=EG ((bF.new w 257 #[k,aG A 0 c]).alloc (aS NC 348));have Z:=bF.new1 w (aS #[k,aG A 0 c] 257) 348 NC;obtain⟨L,Y⟩:=kF ((w.alloc (aS #[k,aG A 0 c] 257)).alloc (aS NC 348));rw[←Y]at V R Z;obtain⟨K,J⟩:=R;obtain⟨Q,T⟩:=aV (fun U=>YB (k:=k) aj U) (fun U=>ahU S U);obtain⟨I,H,G⟩:=Z.s3;have F:=Z.frozen 0;have E:=Z.frozen 1;have D:=Z.frozen 2;obtain⟨C,X,⟨P,O,N⟩,W⟩:=abp rfl k (aB 0) (bU) Z V aj;change Hid _ at Y X W;clear Z V S;go_enter func259,ntmps259;go_upto_region 1 with(fail)
 change Code.wp _ _ _ _ ((w.alloc (aS #[k,aG A 0 c] 257)).alloc (aS NC 348));rw[←Y]
 go_wp2_with(first
  |(go_at_call 277;refine(Q _).aQ ?_;rintro M rfl)
  |(go_at_call 278;refine(T _).aQ ?_;rintro M rfl))
 rw[←X];refine aT (by simp[results,results259,go_sem,P,O,N];rfl) rfl ?_;exact⟨⟨k,0,none,0,0,rfl⟩,W⟩
theorem Lb.tail{b o:Nat}{q:Int}{r:aO}(h:Lb w (some (aH b o)) (n+1) (q::r)):Lb w (some (aH b (o+1))) n r:=by
 have Z:r=n:=by have:=h.len;simpa using this
 refine⟨Z,⟨bK,fun U=>⟨b,o+1,rfl,fun j u Y=>?_⟩⟩⟩;obtain⟨T,S,e,X⟩:=h.rd.2 bK;injection e with e
 injection e with W V
 subst W;subst V;have:=X (j+1) u (by simpa using Y);rw[(aj:o+1+j=o+(j+1))];exact this
theorem Lb.zero(w:aK)(A:dK):Lb w A 0 []:=⟨rfl,⟨rfl,fun h=>absurd h bn⟩⟩
theorem adg{b o:Nat}{q:Int}{r:aO}(h:Lb w (some (aH b o)) n (q::r))(S:n≤c):∃V W U,Lb w V W r∧W+1=n∧(∀Z,(Instr.slice 24 (aG (some (aH b o)) n c) (some (aB 1)) none none).run prog Z= .ok (aG V W U) Z)∧
  ∀Z,(Instr.sliceAt 24 (aG (some (aH b o)) n c) (some (aB 1)) none none).run prog Z= .ok (aG V W U) Z:=by
 obtain⟨m,rfl⟩:∃m,n=m+1:=⟨n-1,by have:=h.len;simp at this;omega⟩;obtain⟨d,rfl⟩:∃d,c=d+1:=⟨c-1,aj⟩
 have Y:∀Z,(Instr.slice 24 (aG (some (aH b o)) (m+1) (d+1)) (some (aB 1)) none none).run prog Z= .ok (aG (if d=0 then some (aH b o) else some (aH b (o+1))) m d) Z:=fun Z=>by
  rw[run_slice_l (P:=prog) (w:=Z) (t:=24) (a:=some (aH b o)) (len:=m+1) (cap:=d+1) (ht:=aW) (kl:=.i64) (l:=1) (h0:=aj) (h1:=aj)];have T:(sizeOf (prog.elem 24)).run prog Z= .ok 1 Z:=aW
  rw[T];show Result.ok (sliced _ _ _ _ _) _=_;unfold sliced
  by_cases X:d=0
  ·rw[aF (by show d+1=1;omega),aF X];rfl
  ·rw[au (by show¬d+1=1;omega),au X];rfl
 refine⟨if d=0 then some (aH b o) else some (aH b (o+1)),m,d,?_,rfl,Y,fun Z=>?_⟩
 ·by_cases X:d=0
  ·rw[aF X]
   obtain rfl:m=0:=aj
   obtain rfl:r=[]:=rZ.1 (by have:=h.len;simpa using this);exact Lb.zero _ _
  ·rw[au X];exact h.tail
 ·rw[ng (P:=prog) (w:=Z) 24 _ _ _ _ aW]
  exact Y Z
theorem YD{k q:Int}{r:aO}(X:k=1∨k=2)(hq:0≤q∧q≤15)(hn:n≤65536)(hc:n≤c)(w:aK)(N:Lb w A n (q::r)):Calls prog 259 #[.agg #[k,aG A n c]] w (UQ w):=by
 have L:0<n:=by have:=N.len;simp at this;omega
 have M:=gU w (aS #[k,aG A n c] 257) (aS NC 348);have X0:=EG ((bF.new w 257 #[k,aG A n c]).alloc (aS NC 348));have F:=bF.new1 w (aS #[k,aG A n c] 257) 348 NC;obtain⟨Y,U⟩:=kF ((w.alloc (aS #[k,aG A n c] 257)).alloc (aS NC 348));rw[←U]at M X0 F;have s2:Y.heap.size=w+2:=by rw[U];simp
 obtain⟨H,G⟩:=X0;obtain⟨S,P,rfl,O⟩:=(N.keep M).at_ L
 have K:S<w:=by
  obtain⟨E,o1,e,k1⟩:=N.at_ L;injection e with e
  injection e with e1 e2
  subst e1;exact lt_of_cell k1
 have O:aN Y S P (.int .u8 q):=by simpa using O
 obtain⟨C,HK,B,y,HB,x,t⟩:=U2 U (fun D=>YB (k:=k) aj D) (fun D=>Zt X D) F M (N.keep M) s2;have q1:decide (15<q)=false:=jy
 have q2:decide (65536<(n:Int))=false:=jy
 have q3:((n:Int)==0)=false:=by rw[oO];omega
 have qa:(0:Int)<(n:Int):=aj
 have qf:(n:Int)≤(c:Int):=aj
 obtain⟨HQ,s,m⟩:=dB hq hn hc;clear U F M X s2 hq hn hc;go_enter func259,ntmps259;go_upto_region 1 with(fail)
 change Code.wp _ _ _ _ ((w.alloc (aS #[k,aG (some (aH S P)) n c] 257)).alloc (aS NC 348));rw[←C]
 go_wp2_with(first
  |(go_at_call 277;refine(HK _).aQ ?_;rintro Q rfl)
  |(go_at_call 278;refine(B _).aQ ?_;rintro Q rfl))
 obtain⟨A1,n1,cc,hT,J,qg,qe⟩:=adg x m;obtain⟨HT,j⟩:=aV hT J;clear hT J;have I:w.heap.size≤Y:=by have:=t.out;omega
 change Hid _ at I K;clear N;have h:∀o,aN ((Y.alloc o).drew) w 0 (aB k):=fun o=>aC H (aJ Y o).drew
 have g:∀o,aN ((Y.alloc o).drew) S P (.int .u8 q):=fun o=>aC O (aJ Y o).drew
 have f:∀o,aN ((Y.alloc o).drew) w 1 (aG (some (aH S P)) n c):=fun o=>aC G (aJ Y o).drew
 go_region_held3(fun W=>aN W w 0 (aB k)∧aN W w 1 (aG (some (aH S P)) n c)∧aN W S P (.int .u8 q))
  (first|exact⟨H,G,O⟩|exact⟨h _,f _,g _⟩|exact⟨aC H X,aC G X,aC O X⟩|exact⟨bG (aC H X) (T _ _ _) V,bG (aC G X) (T _ _ _) V,bG (aC O X) (T _ _ _) R⟩|fail)
  (first
    |(refine Pq (base:=Y.heap.size) (l:=[]) (r:=r) kE (.tmp 59) (.tmp 62) kE kE ((OwnB.empty Y Y (bC _)).drew) kE (HT.keep (aJ Y _).drew) (by have:=s.out;have:=j.out;omega) bK ?_;intro B1 E Q o1 d qh;have X:aP Y Q:=((aJ Y _).drew).trans (d.mono (bC _));have Z:=y.keep X;have y0:aN Q (w.heap.size+1) 0 (.int .i64 0):=(Z.at rfl);have y1:aN Q (w.heap.size+1) 1 (.int .i64 0):=(Z.at rfl);have y2:aN Q (w.heap.size+1) 2 (.slice none 0 0):=(Z.at rfl);have g0:=Z.frozen 0;have g1:=Z.frozen 1;have g2:=Z.frozen 2;have T:=fun u v z=>(((bQ.refl (fun i=>i=w+1) Q).setCell (p:=⟨w.heap.size+1,0,none⟩) (fun _=>rfl) u).setCell (p:=⟨w.heap.size+1,1,none⟩) (fun _=>rfl) v).setCell (p:=⟨w.heap.size+1,2,none⟩) (fun _=>rfl) z;have V:¬w.heap.size=w+1:=aj;have R:¬S=w+1:=(by have:=K.out;omega))
    |fail)
 obtain⟨W9,b,⟨z0,z1,z2⟩,a⟩:=abp (cs:=NC) rfl k (IntKind.i64.wrap q) (aG B1 n1 E) Z (HB.trans (X.mono I)) aj;clear y0 y1 y2 g0 g1 g2 Z X T V R;go_wp2;rw[←b];refine aT (by simp[results,results259,go_sem,z0,z1,z2];rfl) rfl ?_;exact⟨⟨k,_,B1,_,E,rfl⟩,a⟩
theorem Lh{q:Nat→Bool}(h:∀i,i<n→q i=false):(List.range n).any q=false:=kG.2 fun t Z=>by rw[h t (yH.1 Z)];simp
theorem afM{g:FuncId}{q:Nat→Bool}{E0 E1 E2:Nat→cO}(I:n≤1000000)(w:aK)(H:∀args w,(callFunc g args).run prog w= .ok (.enter g args) w)
  (R:∀Y,aP w Y→∀i,i<n→∃b o,A=some (aH b o)∧aN Y b (o+i*3) (E0 i)∧aN Y b (o+i*3+1) (E1 i)∧aN Y b (o+i*3+2) (E2 i))
  (M:∀i,i<n→∀Y,aP w Y→Calls prog g (#[.agg #[E0 i,E1 i,E2 i]]++cb) Y fun e w''=>e=bM (.bool (q i))∧aP Y w''):
  Calls prog 268 #[aG A n c,.func (.func g) #[] cb] w fun e Y=>(∃r:Int,e=bM r∧decide (0≤r)=(List.range n).any q)∧aP w Y:=by
 obtain⟨L,K⟩:=aV R M;go_enter func268,ntmps268;go_wp2
 go_loopg [8] n (fun k i wr=>∃j:Nat,j+k=n∧i=j∧aP w wr∧∀t,t<j→q t=false)
 case atStart=>exact⟨0,aj,rfl,aU _ _,fun t W=>absurd W aj⟩
 case round=>
  obtain⟨j,G,rfl,Z,Q⟩:=hrel;have P:=ay Q
  by_cases X:j<n
  ·obtain⟨b2,F,rfl,E,D,C⟩:=L _ Z j X
   have N:(j:Int)<(n:Int):=aj
   have O:=Z.size;have V:=ay (K j X wr Z);cases U:q j with
   |true=>
    rw[U]at V;have T:=ay (show(List.range n).any q=true from lT.2 ⟨j,yH.2 X,U⟩);go_wp2_with(go_at_fn g;refine V.aQ ?_;rintro Y S);go_ret;exact⟨⟨j,rfl,by rw[T.out];simp⟩,Z.trans (S.mono O)⟩
   |false=>
    rw[U]at V;have J:=ay U;go_wp2_with(go_at_fn g;refine V.aQ ?_;rintro Y S);go_roundg(gk-1)
    case measure=>omega
    case rel=>
     refine⟨j+1,aj,fA,Z.trans (S.mono O),fun t W=>?_⟩
     by_cases e:t=j
     ·subst e;exact J
     ·exact P t aj
  ·have T:=ay (show(List.range n).any q=false from kG.2 fun t W=>by rw[P t (by have:=yH.1 W;omega)];simp)
   go_wp2;go_ret;exact⟨⟨-1,rfl,by rw[T.out];rfl⟩,Z⟩
theorem QO{g:FuncId}{q:Nat→Bool}{E0 E1 E2:Nat→cO}(X:n≤1000000)(w:aK)(W:∀args w,(callFunc g args).run prog w= .ok (.enter g args) w)
  (Y:∀Z,aP w Z→∀i,i<n→∃b o,A=some (aH b o)∧aN Z b (o+i*3) (E0 i)∧aN Z b (o+i*3+1) (E1 i)∧aN Z b (o+i*3+2) (E2 i))
  (V:∀i,i<n→∀Z,aP w Z→Calls prog g (#[.agg #[E0 i,E1 i,E2 i]]++cb) Z fun e w''=>e=bM (.bool (q i))∧aP Z w''):
  Calls prog 249 #[aG A n c,.func (.func g) #[] cb] w (Val w (.bool ((List.range n).any q))):=by
 have H:=ay (afM (c:=c) X w W Y V);go_enter func249,ntmps249;go_wp2_with(go_at_call 268;refine H.mono ?_;rintro e Z ⟨⟨r,rfl,U⟩,T⟩);go_ret;exact⟨by rw[←U];rfl,T⟩
theorem afN{g:FuncId}{q:Nat→Bool}{E0 E1 E2 E3:Nat→cO}(I:n≤1000000)(w:aK)(H:∀args w,(callFunc g args).run prog w= .ok (.enter g args) w)
  (R:∀Y,aP w Y→∀i,i<n→∃b o,A=some (aH b o)∧aN Y b (o+i*4) (E0 i)∧aN Y b (o+i*4+1) (E1 i)∧aN Y b (o+i*4+2) (E2 i)∧aN Y b (o+i*4+3) (E3 i))
  (M:∀i,i<n→∀Y,aP w Y→Calls prog g (#[.agg #[E0 i,E1 i,E2 i,E3 i]]++cb) Y fun e w''=>e=bM (.bool (q i))∧aP Y w''):
  Calls prog 256 #[aG A n c,.func (.func g) #[] cb] w fun e Y=>(∃r:Int,e=bM r∧decide (0≤r)=(List.range n).any q)∧aP w Y:=by
 obtain⟨L,K⟩:=aV R M;go_enter func256,ntmps256;go_wp2
 go_loopg [8] n (fun k i wr=>∃j:Nat,j+k=n∧i=j∧aP w wr∧∀t,t<j→q t=false)
 case atStart=>exact⟨0,aj,rfl,aU _ _,fun t W=>absurd W aj⟩
 case round=>
  obtain⟨j,G,rfl,Z,Q⟩:=hrel;have P:=ay Q
  by_cases X:j<n
  ·obtain⟨b2,F,rfl,E,D,C,B⟩:=L _ Z j X
   have N:(j:Int)<(n:Int):=aj
   have O:=Z.size;have V:=ay (K j X wr Z);cases U:q j with
   |true=>
    rw[U]at V;have T:=ay (show(List.range n).any q=true from lT.2 ⟨j,yH.2 X,U⟩);go_wp2_with(go_at_fn g;refine V.aQ ?_;rintro Y S);go_ret;exact⟨⟨j,rfl,by rw[T.out];simp⟩,Z.trans (S.mono O)⟩
   |false=>
    rw[U]at V;have J:=ay U;go_wp2_with(go_at_fn g;refine V.aQ ?_;rintro Y S);go_roundg(gk-1)
    case measure=>omega
    case rel=>
     refine⟨j+1,aj,fA,Z.trans (S.mono O),fun t W=>?_⟩
     by_cases e:t=j
     ·subst e;exact J
     ·exact P t aj
  ·have T:=ay (show(List.range n).any q=false from kG.2 fun t W=>by rw[P t (by have:=yH.1 W;omega)];simp)
   go_wp2;go_ret;exact⟨⟨-1,rfl,by rw[T.out];rfl⟩,Z⟩
theorem Zx{g:FuncId}{q:Nat→Bool}{E0 E1 E2 E3:Nat→cO}(X:n≤1000000)(w:aK)(W:∀args w,(callFunc g args).run prog w= .ok (.enter g args) w)
  (Y:∀Z,aP w Z→∀i,i<n→∃b o,A=some (aH b o)∧aN Z b (o+i*4) (E0 i)∧aN Z b (o+i*4+1) (E1 i)∧aN Z b (o+i*4+2) (E2 i)∧aN Z b (o+i*4+3) (E3 i))
  (V:∀i,i<n→∀Z,aP w Z→Calls prog g (#[.agg #[E0 i,E1 i,E2 i,E3 i]]++cb) Z fun e w''=>e=bM (.bool (q i))∧aP Z w''):
  Calls prog 218 #[aG A n c,.func (.func g) #[] cb] w (Val w (.bool ((List.range n).any q))):=by
 have H:=ay (afN (c:=c) X w W Y V);go_enter func218,ntmps218;go_wp2_with(go_at_call 256;refine H.mono ?_;rintro e Z ⟨⟨r,rfl,U⟩,T⟩);go_ret;exact⟨by rw[←U];rfl,T⟩
theorem afO{g:FuncId}{q:Nat→Bool}{E0 E1 E2 E3:Nat→cO}(I:n≤1000000)(w:aK)(H:∀args w,(callFunc g args).run prog w= .ok (.enter g args) w)
  (R:∀Y,aP w Y→∀i,i<n→∃b o,A=some (aH b o)∧aN Y b (o+i*4) (E0 i)∧aN Y b (o+i*4+1) (E1 i)∧aN Y b (o+i*4+2) (E2 i)∧aN Y b (o+i*4+3) (E3 i))
  (M:∀i,i<n→∀Y,aP w Y→Calls prog g (#[.agg #[E0 i,E1 i,E2 i,E3 i]]++cb) Y fun e w''=>e=bM (.bool (q i))∧aP Y w''):
  Calls prog 167 #[aG A n c,.func (.func g) #[] cb] w fun e Y=>(∃r:Int,e=bM r∧decide (0≤r)=(List.range n).any q)∧aP w Y:=by
 obtain⟨L,K⟩:=aV R M;go_enter func167,ntmps167;go_wp2
 go_loopg [8] n (fun k i wr=>∃j:Nat,j+k=n∧i=j∧aP w wr∧∀t,t<j→q t=false)
 case atStart=>exact⟨0,aj,rfl,aU _ _,fun t W=>absurd W aj⟩
 case round=>
  obtain⟨j,G,rfl,Z,Q⟩:=hrel;have P:=ay Q
  by_cases X:j<n
  ·obtain⟨b2,F,rfl,E,D,C,B⟩:=L _ Z j X
   have N:(j:Int)<(n:Int):=aj
   have O:=Z.size;have V:=ay (K j X wr Z);cases U:q j with
   |true=>
    rw[U]at V;have T:=ay (show(List.range n).any q=true from lT.2 ⟨j,yH.2 X,U⟩);go_wp2_with(go_at_fn g;refine V.aQ ?_;rintro Y S);go_ret;exact⟨⟨j,rfl,by rw[T.out];simp⟩,Z.trans (S.mono O)⟩
   |false=>
    rw[U]at V;have J:=ay U;go_wp2_with(go_at_fn g;refine V.aQ ?_;rintro Y S);go_roundg(gk-1)
    case measure=>omega
    case rel=>
     refine⟨j+1,aj,fA,Z.trans (S.mono O),fun t W=>?_⟩
     by_cases e:t=j
     ·subst e;exact J
     ·exact P t aj
  ·have T:=ay (show(List.range n).any q=false from kG.2 fun t W=>by rw[P t (by have:=yH.1 W;omega)];simp)
   go_wp2;go_ret;exact⟨⟨-1,rfl,by rw[T.out];rfl⟩,Z⟩
theorem Zy{g:FuncId}{q:Nat→Bool}{E0 E1 E2 E3:Nat→cO}(X:n≤1000000)(w:aK)(W:∀args w,(callFunc g args).run prog w= .ok (.enter g args) w)
  (Y:∀Z,aP w Z→∀i,i<n→∃b o,A=some (aH b o)∧aN Z b (o+i*4) (E0 i)∧aN Z b (o+i*4+1) (E1 i)∧aN Z b (o+i*4+2) (E2 i)∧aN Z b (o+i*4+3) (E3 i))
  (V:∀i,i<n→∀Z,aP w Z→Calls prog g (#[.agg #[E0 i,E1 i,E2 i,E3 i]]++cb) Z fun e w''=>e=bM (.bool (q i))∧aP Z w''):
  Calls prog 114 #[aG A n c,.func (.func g) #[] cb] w (Val w (.bool ((List.range n).any q))):=by
 have H:=ay (afO (c:=c) X w W Y V);go_enter func114,ntmps114;go_wp2_with(go_at_call 167;refine H.mono ?_;rintro e Z ⟨⟨r,rfl,U⟩,T⟩);go_ret;exact⟨by rw[←U];rfl,T⟩
theorem Lr{b o:Nat}(h:Lb w (some (aH b o)) n l)(S:n≤c)(hi:i<n):Lb w (some (aH b (o+i))) (n-i) (l.drop i)∧(∀Z,(Instr.slice 24 (aG (some (aH b o)) n c) (some (aB i)) none none).run prog Z= .ok (aG (some (aH b (o+i))) (n-i) (c-i)) Z)∧
  ∀Z,(Instr.sliceAt 24 (aG (some (aH b o)) n c) (some (aB i)) none none).run prog Z= .ok (aG (some (aH b (o+i))) (n-i) (c-i)) Z:=by
 have Y:∀Z,(Instr.slice 24 (aG (some (aH b o)) n c) (some (aB i)) none none).run prog Z= .ok (aG (some (aH b (o+i))) (n-i) (c-i)) Z:=fun Z=>by
  rw[run_slice_l (P:=prog) (w:=Z) (t:=24) (a:=some (aH b o)) (len:=n) (cap:=c) (ht:=aW) (kl:=.i64) (l:=i) (h0:=aj) (h1:=aj)];have W:(sizeOf (prog.elem 24)).run prog Z= .ok 1 Z:=aW
  rw[W];show Result.ok (sliced _ _ _ _ _) _=_;unfold sliced;rw[au jy];simp[Addr.add]
 refine⟨⟨by rw[Hw,h.len],?_⟩,Y,fun Z=>?_⟩
 ·refine⟨bK,fun _=>⟨b,o+i,rfl,fun j u X=>?_⟩⟩
  obtain⟨R,Q,e,V⟩:=h.rd.2 (by have:=h.len;omega);injection e with e
  injection e with U T
  subst U;subst T;have:=V (i+j) u (by rw[List.map_drop,Rx]at X;exact X);rwa[←iO]at this
 ·rw[ng (P:=prog) (w:=Z) 24 _ _ _ _ aW]
  exact Y Z
end
end Go.Proofs.YtiaeohgghaaciaaGreatDoor
