import Derived.Test.YtiaeohgghaaciaaGreatDoorB23
namespace Go.Proofs.YtiaeohgghaaciaaGreatDoor
open Go Go.Maps Go.RowKit Go.Extern.Stop Go.Stop Go.Extern Go.Proofs.Tryz
set_option linter.all false
set_option maxRecDepth 100000
set_option maxHeartbeats 4000000
section
variable{src:List Int}{c j mb n:Nat}{S T:Nat→Prop}{A:Option Addr}{v:Value}{u w1:World}
theorem WY(X:bI)(d:aI)(j:bT)(n:Nat):uZ X d j (n+1)=(match(uZ X d j n).done n with|none=>uZ X d j n|some r=>if d.same (iR n) (X.pk n)=false∨(iJ 49 n (X.pk n)).same r=false then(uZ X d j n).forget n else uZ X d j n):=rfl
section
variable{w w':aK}{K:Cn}{M:xW}{SD:Nat→Prop}{X:bI}{d d':aI}{f:bZ}{oP:Option fG}{jg mb N:Nat}
theorem adL(z:Of K oP X)(hb:X.bad=0)(hj:lQ X f.job)(hF:fZ d)(t:aZ d N)(h:uw w K M jg mb SD d f oP):
  Calls prog 137 #[aY M.fg] w (xK w K M jg mb SD f oP (d,nN X d f.job,0)):=by
 have s:=ay (yh h.job);have q:=h.xM;unfold nN
 by_cases h1:f.job.state=1
 ·rw[aF h1]
  have qe:=(hj.of aj).2;have qs:=z.ok.ch;rw[h1]at s;obtain⟨P,hp,hP,-,qt,qf,-⟩:=z.plan hb;have o:=ay (En h.job);rw[qe]at o;obtain⟨qu,qv⟩:=aV (fun i=>WY X d f.job i) (fun i=>(LD (d:=d) hj h1 i).1)
  have qg:Hid (∀i w' (y:bZ),i<X.chunks→uw w' K M jg mb SD d y oP→Calls prog 119 #[aY M.fg,i] w' (OH w' (X.pk i) (X.pk i))):=ay (fun i w' y hi E=>by
   rw[qf i aj];exact aeF hp z.may hP aj E.base)
  obtain⟨qh,qi,HH⟩:=dB (fun i w' (y:bZ) A n c (hi:i<X.chunks) (E:uw w' K M jg mb SD d y oP) (v:Lb w' A n (X.pk i))=>abV (x:=iR i) (c:=c) (by unfold iR;omega) hF t (z.Si.pk i) E.base v) (fun i w' A n c (hi:i<X.chunks) (v:Lb w' A n (X.pk i))=>Z8 (k:=49) (n:=i) (c:=c) (by have:=z.ok.pk i hi;have:=v.len;omega) (z.Si.pk i) w' v) h;have qj:uZ X d f.job 0=f.job:=rfl;obtain⟨m,hm⟩:=kF (X.chunks);rw[←hm]at o qg qh qi qs ⊢;change Hid _ at qj hm;clear h z hb hj hF t h1 qe hp hP qt qf;go_enter func137,ntmps137;go_wp2_with(first|(go_at_call 44;refine s.aQ ?_;rintro w1 rfl)|(go_at_call 72;refine o.aQ ?_;rintro w1 rfl)|fail)
  go_loopg [3,4,5,6,7,19] m (fun k v3 v4 v5 v6 v7 qw wr=>∃i:Nat,i+k=m∧qw=i∧uw wr K M jg mb SD d {f with job:=uZ X d f.job i} oP∧bQ (fun x=>x=jg∨x=mb) w wr)
  case atStart=>exact⟨0,aj,rfl,by rw[qj];exact HH,bQ.refl _ _⟩
  case round=>
   obtain⟨i,hi,rfl,E,C⟩:=hrel;obtain⟨HW,B⟩:=aV E C
   by_cases l:i<m
   ·have qJ:(i:Int)<(m:Int):=aj
    have Z:=qu i;have b:=qv i;have q:=E.xM;obtain⟨T,L⟩:=aV (aik (n:=i) aj wr E.job) (fun w' (U:aP wr w')=>HW.keep U);dsimp only at T;generalize uZ X d f.job i=jb at*;cases hd:jb.done i with
    |none=>
     rw[hd]at Z T;dsimp only at Z;change Hid _ at Z;clear E C hd b;go_wp2_with(go_at_call 191;refine T.aQ ?_;rintro w2 Q);have J:=aJ w2 (aS (Ej lq) 68);have Y:=Q.trans (J.mono Q.size);obtain⟨O,I⟩:=aV (L _ Y) (B.trans (bQ.of_below (S:=fun x=>x=jg∨x=mb) Y));clear J Y Q;go_roundg(gk-1)
     case measure=>omega
     case rel=>exact⟨i+1,aj,fA,by rw[Z];exact O,I⟩
    |some r=>
     obtain⟨qy,rfl⟩:=b.done i r hd;have qk:(iJ 49 i (X.pk i)).same (iJ 49 i (X.pk i))=true:=bV.same_iff.2 rfl;rw[hd]at Z T;dsimp only[Option.isSome]at Z T;rw[qk]at Z;obtain⟨qz,ql,qA⟩:=dB (fun w' y U=>qg i w' y l U) (fun w' y A n c U v=>qh i w' y A n c l U v) (fun w'=>Wq (n:=i) aj w');obtain⟨R,hR⟩:=kF (iJ 49 i (X.pk i));have qB:=ay (fun w' A n c v=>show Calls prog 127 #[aB 49,i,aG A n c] w' (Val w' (F7 R)) by rw[hR];exact qi i w' A n c l v);rw[←hR]at T;have qm:OA (some R)=R:=rfl;rw[qm]at T;obtain⟨sm,qo⟩:=kF (d.same (iR i) (X.pk i));rw[←qo]at ql Z;generalize qC:bP (iR i)=Bx at*;generalize qD:X.pk i=PK at*;obtain⟨rk,rs,rn,rl,rc⟩:=R;have qE:=ay (fun w' qF=>adr (g:=jg) (mb:=mb) (n:=i) (j:=jb) aj w' qF);clear E C hd b qk hR qo qC qD qm qy;go_upto_region 11 with(first|(go_at_call 191;refine T.aQ ?_;rintro w2 Q;have J:=aJ w2 (aS (Ej ⟨rk,rs,rn,rl,rc⟩) 68);have Y:=Q.trans (J.mono Q.size))|(go_at_call 119;refine(qz _ _ (L _ Y)).mono ?_;rintro e u ⟨PA,Pc,rfl,a,qa⟩)|fail)
     have W:=Y.trans (qa.mono Y.size);have X3:=(bF.new w2 68 (Ej ⟨rk,rs,rn,rl,rc⟩)).keep qa;obtain⟨y0,y1,y2,y3,y4⟩:=gV X3
     try dsimp only at y0 y1 y2 y3 y4
     have D1:∀w',aP u w'→Calls prog 117 #[i] w' fun e H=>e=bM (.string Bx)∧aP w' H:=fun w' _=>qA w'
     have D2:∀w',aP u w'→Calls prog 192 #[aY M.fg,.string Bx,aG PA PK Pc] w' fun e H=>e=bM (.bool sm)∧aP w' H:=fun w' U=>ql w' _ _ _ _ (L w' (W.trans (U.mono W.size))) (a.lb.keep U)
     have D3:∀w',aP u w'→Calls prog 127 #[aB 49,i,aG PA PK Pc] w' fun e H=>e=bM (.agg #[rk,rs,rn,rl,rc])∧aP w' H:=fun w' U=>qB w' _ _ _ (a.lb.keep U)
     obtain⟨C1,C2,C3⟩:=dB (Calls.grown D1) (Calls.grown D2) (Calls.grown D3);have G0:=fun p:Go.Regrown=>Go.cell_regrown y0 p.d p.os
     have G1:=fun p:Go.Regrown=>Go.cell_regrown y1 p.d p.os
     have G2:=fun p:Go.Regrown=>Go.cell_regrown y2 p.d p.os
     have G3:=fun p:Go.Regrown=>Go.cell_regrown y3 p.d p.os
     have G4:=fun p:Go.Regrown=>Go.cell_regrown y4 p.d p.os
     change Hid _ at W;clear D1 D2 D3 X3 Q J Y qa a q;cases sm with
     |true=>
      rw[au bK]at Z;change Hid _ at Z
      (refine AQ aW aW ?_;(repeat(refine DV (fun K D=>?_);go_simp;first|(refine D _ ?_;clear D K)|(apply Exists.intro;refine⟨fun _=>?_,D _ ?_⟩;(focus(with_reducible first|exact C1.out _|exact C2.out _|exact C3.out _));clear D K)));(refine Hy ?_))
      intro wq G;have V:=W.trans (G.below.mono W.size);obtain⟨O,I⟩:=aV (L _ V) (B.trans (bQ.of_below (S:=fun x=>x=jg∨x=mb) V));clear G V G0 G1 G2 G3 G4 C1 C2 C3 y0 y1 y2 y3 y4;go_wp2_with fail;go_roundg(gk-1)
      case measure=>omega
      case rel=>exact⟨i+1,aj,fA,by rw[Z];exact O,I⟩
     |false=>
      rw[aF (.inl rfl)]at Z;change Hid _ at Z
      (refine AQ aW aW ?_;(repeat(refine DV (fun K D=>?_);go_simp;first|(refine D _ ?_;clear D K)|(apply Exists.intro;refine⟨fun _=>?_,D _ ?_⟩;(focus(with_reducible first|exact C1.out _|exact C2.out _|exact C3.out _));clear D K)));(refine Hy ?_))
      intro wq G;have V:=W.trans (G.below.mono W.size);obtain⟨O,I⟩:=aV (L _ V) (B.trans (bQ.of_below (S:=fun x=>x=jg∨x=mb) V));have q:=O.xM;have qG:=ay (qE wq O.job);clear G V G0 G1 G2 G3 G4 C1 C2 C3 y0 y1 y2 y3 y4;go_wp2_with(go_at_call 193;refine qG.aQ ?_;rintro w7 ⟨qq,qr⟩);have F:bQ (fun x=>x=jg∨x=mb) wq w7:=qr.mono (fun _ _ e=>.inr e);obtain⟨qH,qI⟩:=aV (O.am4 qq F) (I.trans F);clear qq qr F;go_roundg(gk-1)
      case measure=>omega
      case rel=>exact⟨i+1,aj,fA,by rw[Z];exact qH,qI⟩
   ·obtain rfl:i=m:=aj
    clear E C;go_wp2_with fail;go_ret;exact⟨rfl,⟨SD,HW,fun _ h=>.inl h⟩,B.mono (fun _ _ e=>.inr e)⟩
 ·rw[au h1]
  have g1:((f.job.state:Int)==1)=false:=by rw[oO];omega
  have g2:¬(f.job.state:Int)=1:=aj
  generalize f.job.state=st at*;change Hid _ at h;clear z hb hj hF t h1;go_enter func137,ntmps137;go_wp2_with(go_at_call 44;refine s.aQ ?_;rintro u rfl);go_ret;exact xK.same h (aU _ _)
end
def MF(w:aK)(K:Cn)(M:xW)(W:Nat→Prop)(T:List aX)(Y:aO)(X:Bool)(oP:Option fG)(r:aI × bT × Int × Int)(e:Ending)(w':aK):Prop:=
 e=bM (eP #[aB r.2.2.1,eV r.2.2.2])∧(r.2.2.2=0→∃V U Z,uw w' K {M with jv:=BG V} V U Z r.1 ⟨r.2.1,T,Y,X⟩ oP∧(∀i,Z i→W i∨w.heap.size≤i)∧w.heap.size≤V∧w.heap.size≤U)∧
  (∃Z,Dw w' M.dg Z r.1∧∀i,Z i→W i∨w.heap.size≤i)∧bQ (fun i=>W i∨i=M.fg) w w'
section
variable{w w':aK}{K:Cn}{M:xW}{SD:Nat→Prop}{X:bI}{ρ:Nat→Nat}{d d':aI}{ts:List aX}{made:aO}{down:Bool}{oP:Option fG}{N:Nat}
theorem MF.no{Z:aI}{j:bT}{x k:Int}(Y:k≠0)(hd:Dw w' M.dg S Z)(W:∀i,S i→SD i∨w≤i)(V:bQ (fun i=>SD i∨i=M.fg) w w'):MF w K M SD ts made down oP (Z,j,x,k) (bM (eP #[x,.iface 48 k])) w':=
 ⟨by rw[pz Y],fun e=>absurd e Y,⟨S,hd,W⟩,V⟩
theorem MF.fw{Z:aI}{Y:bZ}{j:bT}{x k:Int}(W:uw w' K {M with jv:=aY n} n mb S Z Y oP)(U:Y=⟨j,ts,made,down⟩)(V:∀i,S i→SD i∨w≤i)(h1:w≤n)(h2:w≤mb)(T:bQ (fun i=>SD i∨i=M.fg) w w'):MF w K M SD ts made down oP (Z,j,x,k) (bM (eP #[x,eV k])) w':=by
 subst U;exact⟨rfl,fun _=>⟨n,mb,S,W,V,h1,h2⟩,⟨S,W.base.disk,V⟩,T⟩
theorem SN(h:bQ (fun i=>SD i∨i=j) w w1)(k:bQ T w1 u)(Z:∀i,T i→SD i∨i=j∨w≤i):bQ (fun i=>SD i∨i=j) w u:=h.step k fun i Y e=>by
 rcases Z i e with e|e|e
 ·exact .inl e
 ·exact .inr e
 ·omega
theorem akP{G:dK}{gd:Nat}{p:List (ByteArray × Int)}(hO:Of K oP X)(y:X.key=jf (uV K.C src))(u:dV src)(hn:n≤100000000)(qa:M.p3=aG G X.chunks gd)
  (hd:bY X ρ d) (hu:d.down=false) (s:aZ d N) (hN:N≤700000) (hg:∀w',bQ (fun i=>SD i∨i=M.fg) w w'→Gl w') (hv:∀w',bQ (fun i=>SD i∨i=M.fg) w w'→ErV w' p X.bad v) (hA:∀w',bQ (fun i=>SD i∨i=M.fg) w w'→Lb w' A n src) (h:MN w K M SD d ts made down oP):
  Calls prog 91 #[aY M.fg,aG A n c,v] w fun e w'=>∃l,Es d l∧(∀x∈l,x<36)∧l.length≤36∧MF w K M SD ts made down oP (dR X d l) e w':=by
 have R:=hO.ok;have qw:=ay (aiW R hd s aj h.df);have qu:=h.box.lt;change Hid _ at h hg hA hO y qa u hn s hd hu R hN qu;have r:(X.bad=0→v=iI)∧(X.bad≠0→∃T x,v= .iface T x):=⟨(hv w (bQ.refl _ _)).1,fun e=>((hv w (bQ.refl _ _)).2 e).iface⟩;change Hid _ at r hv;go_enter func91,ntmps91;go_upto_region 2 with(go_at_call 132;refine qw.mono ?_;rintro e w1 ⟨l,U,Z,W,rfl,qe⟩)
 have Q:Hid (dR X d l=dR X d l):=ay rfl;obtain⟨x1,V⟩:∃x,x=lu d l:=⟨_,rfl⟩;have p1:=OY hd hu l;have t1:=s.clean Z;rw[←V]at qe p1 t1 ⊢;obtain⟨q,qN,qf,L⟩:=qe;have f1:=h.abS qf q L;have C1:=ay (q.mono (T:=fun i=>SD i∨i=M.fg) (fun _ _ e=>.inl e));change Hid _ at L f1 V p1 t1 U Z W;clear q qf Q
 by_cases P:x1.2=0
 case neg=>
  have Q:Hid (dR X d l=(x1.1,bT.new,1,x1.2)):=ay (by
   unfold dR;dsimp only;rw[←V,aF P])
  rw[pz P];change Hid _ at P;go_wp2_with fail;go_ret2;refine⟨l,U,Z,W,?_⟩;rw[Q];exact MF.no P f1.disk L C1
 rw[show eV x1.2=iI by rw[P];rfl];obtain⟨u1,-⟩:=p1.ok P;obtain⟨ρ1,i1⟩:=p1.inv;have qy:=ay (agx R i1 t1 (by have:=hN.out;have:=W.out;omega) f1.df);change Hid _ at P i1 u1;go_upto_region 5 with(go_at_call 133;refine qy.aQ ?_;rintro w2 qg)
 obtain⟨x2,S⟩:∃x,x=pY x1.1:=⟨_,rfl⟩;have p2:=QZ i1 u1;have t2:=t1.make;rw[←S]at qg p2 t2 ⊢;obtain⟨o,qO,qh,m⟩:=qg;have f2:=f1.abS qh o m;have z1:=C1.size;obtain⟨C2,N2⟩:=aV (SN C1 o (fun i e=>(L i e).imp id .inr)) (fun i e=>(m i e).elim (L i) (fun k=>.inr (dD z1 k)));change Hid _ at f2 S p2 t2;clear o qh m z1
 by_cases O:x2.2=0
 case neg=>
  have Q:Hid (dR X d l=(x2.1,bT.new,2,x2.2)):=ay (by
   unfold dR;dsimp only;rw[←V,au (by rw[P];simp),←S,aF O])
  rw[pz O];change Hid _ at O;go_wp2_with fail;go_ret2;refine⟨l,U,Z,W,?_⟩;rw[Q];exact MF.no O f2.disk N2 C2
 rw[show eV x2.2=iI by rw[O];rfl];obtain⟨u2,o2⟩:=p2.ok O;obtain⟨ρ2,i2⟩:=p2.inv;obtain⟨qz,qA⟩:=aV (agy R i2 u2 o2 t2 (by have:=hN.out;have:=W.out;omega) f2) (NQ R i2 u2 o2);change Hid _ at O;clear i2 u2 o2;go_upto_region 8 with(go_at_call 134;refine qz.mono ?_;rintro e w3 ⟨jg,mb,qP,rfl,f3,qi,qj,qk,ql⟩)
 obtain⟨H,j⟩:∃x,x=lF x2.1:=⟨_,rfl⟩;have p3:=qA.out;have t3:=t2.replay;rw[←j]at f3 p3 t3 ⊢;have z2:=C2.size;obtain⟨C3,N3⟩:=aV (SN C2 ql (fun i e=>e.elim (fun e=>(N2 i e).imp id .inr) (fun e=>.inr (.inl e)))) (fun i e=>(qk i e).elim (N2 i) (fun k=>.inr (dD z2 k)));have F:Hid (w.heap.size≤jg∧w≤mb):=ay ⟨dD z2 qi,dD z2 qj⟩;obtain⟨F3,X3,P3,T3⟩:=jH f3 j p3 t3;clear ql qk f3 j p3 t3 z2 qi qj
 by_cases D:H.2.2=0
 case neg=>
  have Q:Hid (dR X d l=(H.1,H.2.1,3,H.2.2)):=ay (by
   unfold dR;dsimp only;rw[←V,au (by rw[P];simp),←S,au (by rw[O];simp),←X3,aF D])
  have E:=ay D;rw[pz D];clear D;go_wp2_with fail;go_ret2;refine⟨l,U,Z,W,?_⟩;rw[Q];exact MF.no E F3.base.disk N3 C3
 rw[show eV H.2.2=iI by rw[D];rfl];have E3:=ay D;obtain⟨u3,o3⟩:=P3.ok D;obtain⟨ρ3,i3⟩:=P3.inv;obtain⟨qB,qC⟩:=aV (agz (M:={M with jv:=aY jg}) (c:=c) hO y u hn qa (i3.lt R) T3 F3 (hA _ C3)) (OZ R i3 u3 o3 P3.job);clear D i3 u3 o3;go_upto_region 11 with(first|(go_at_call 135;refine qB.aQ ?_;rintro w4 ⟨⟨qD,f4,qm⟩,qo⟩)|fail)
 obtain⟨B,g⟩:∃x,x=oJ X H.1 H.2.1:=⟨_,rfl⟩;obtain⟨p4,b⟩:=qC;have t4:=T3.begin_ R H.2.1;rw[←g]at f4 p4 b t4 ⊢;have z3:=C3.size;have C4:=ay (SN C3 qo (fun i e=>e.elim (fun e=>(N3 i e).imp id .inr) (fun e=>.inr (.inr (by have:=F.out;rcases e with rfl|rfl<;>omega)))));have N4:Hid (∀i,qD i→SD i∨w≤i):=ay (fun i e=>(qm i e).elim (N3 i) (fun k=>.inr (dD z3 k)));obtain⟨F4,X4,P4,T4,S4⟩:=rG f4 g p4 t4 b;clear qo qm f4 g p4 t4 z3 b
 by_cases I:B.2.2=0
 case neg=>
  have Q:Hid (dR X d l=(B.1,B.2.1,4,B.2.2)):=ay (by
   unfold dR;dsimp only;rw[←V,au (by rw[P];simp),←S,au (by rw[O];simp),←X3,au (by rw[E3];simp),←X4,aF I])
  have E:=ay I;rw[pz I];clear I;go_wp2_with fail;go_ret2;refine⟨l,U,Z,W,?_⟩;rw[Q];exact MF.no E F4.base.disk N4 C4
 rw[show eV B.2.2=iI by rw[I];rfl];have E4:=ay I;have b:=S4.out I;obtain⟨u4,o4⟩:=P4.ok I;obtain⟨ρ4,i4⟩:=P4.inv;obtain⟨qE,qF⟩:=aV (aiX (p:=p) (v:=v) R (i4.lt R) T4 (hg _ C4) (hv _ C4) F4) (Q5 R i4 u4 o4 P4.job b);clear I i4 u4 o4 b;go_upto_region 14 with(first|(go_at_call 136;refine qE.aQ ?_;rintro w5 ⟨⟨qG,f5,qq⟩,qr⟩)|fail)
 obtain⟨Y,f⟩:∃x,x=vX X B.1 B.2.1:=⟨_,rfl⟩;obtain⟨p5,a⟩:=qF;have t5:=T4.fail R B.2.1;rw[←f]at f5 p5 a t5 ⊢;have z4:=C4.size;have C5:=ay (SN C4 qr (fun i e=>e.elim (fun e=>(N4 i e).imp id .inr) (fun e=>.inr (.inr (by have:=F.out;rcases e with rfl|rfl<;>omega)))));have N5:Hid (∀i,qG i→SD i∨w≤i):=ay (fun i e=>(qq i e).elim (N4 i) (fun k=>.inr (dD z4 k)));obtain⟨F5,X5,P5,T5,S5⟩:=rG f5 f p5 t5 a;clear qr qq f5 f p5 t5 z4 a
 by_cases J:Y.2.2=0
 case neg=>
  have Q:Hid (dR X d l=(Y.1,Y.2.1,5,Y.2.2)):=ay (by
   unfold dR;dsimp only;rw[←V,au (by rw[P];simp),←S,au (by rw[O];simp),←X3,au (by rw[E3];simp),←X4,au (by rw[E4];simp),←X5,aF J])
  have E:=ay J;rw[pz J];clear J;go_wp2_with fail;go_ret2;refine⟨l,U,Z,W,?_⟩;rw[Q];exact MF.no E F5.base.disk N5 C5
 rw[show eV Y.2.2=iI by rw[J];rfl];have E5:=ay J
 by_cases z:X.bad=0
 case neg=>
  obtain⟨T,xx,rfl⟩:=r.2 z
  have Q:Hid (dR X d l=(Y.1,Y.2.1,0,0)):=ay (by
   unfold dR;dsimp only;rw[←V,au (by rw[P];simp),←S,au (by rw[O];simp),←X3,au (by rw[E3];simp),←X4,au (by rw[E4];simp),←X5,au (by rw[E5.out];simp),aF z])
  clear J z;go_wp2_with fail;go_ret2;refine⟨l,U,Z,W,?_⟩;rw[Q];exact MF.fw F5 rfl N5 F.1 F.2 C5
 obtain rfl:=r.1 z;obtain⟨u5,o5⟩:=P5.ok J;obtain⟨a,-⟩:=S5.out J;obtain⟨ρ5,i5⟩:=P5.inv;obtain⟨v1,v2,v3⟩:=NR (d:=Y.1) P5.job;have qs:=ay (adL hO z P5.job (i5.lt R) T5 F5)
 have Q:Hid (dR X d l=((mV X Y.1 (nN X Y.1 Y.2.1)).1,(mV X Y.1 (nN X Y.1 Y.2.1)).2.1,7,(mV X Y.1 (nN X Y.1 Y.2.1)).2.2)):=ay (by
  unfold dR;dsimp only;rw[←V,au (by rw[P];simp),←S,au (by rw[O];simp),←X3,au (by rw[E3];simp),←X4,au (by rw[E4];simp),←X5,au (by rw[E5.out];simp),au (by rw[z];simp)])
 have qv:Hid (0≤(nN X Y.1 Y.2.1).chunks∧(nN X Y.1 Y.2.1).chunks≤16):=ay (by
  have:=(v1.of (by rw[v2];exact a)).2;have:=R.ch;omega)
 have t:=ay (fun w' qH (hw:uw w' K {M with jv:=BG jg} jg mb qH Y.1 ⟨nN X Y.1 Y.2.1,ts,made,down⟩ oP)=>adK hO.out z qv.out (i5.lt R.out) T5.out hw);dsimp only at t qs;generalize nN X Y.1 Y.2.1=j6 at*;clear J z u5 o5 a i5 v1 v2 v3;go_wp2_with(first|(go_at_call 137;refine qs.mono ?_;rintro e w6 ⟨rfl,⟨qt,f6,qI⟩,qJ⟩;rw[show eV ((Y.1,j6,(0:Int)).2.2)=Value.nilIface from rfl];have qK:=ay (t w6 qt f6))|(go_at_call 138;refine qK.mono ?_;rintro e w7 ⟨rfl,⟨qQ,f7,qL⟩,qM⟩)|fail);go_ret2;refine⟨l,U,Z,W,?_⟩;rw[Q];have z5:=C5.size;have C6:=SN C5 qJ (fun i e=>e.elim (fun e=>(N5 i e).imp id .inr) (fun e=>.inr (.inr (by have:=F.out;rcases e with rfl|rfl<;>omega))));have N6:∀i,qt i→SD i∨w≤i:=fun i e=>(qI i e).elim (N5 i) (fun k=>.inr (dD z5 k))
 have z6:=C6.size;have C7:=SN C6 qM (fun i e=>e.elim (fun e=>(N6 i e).imp id .inr) (fun e=>.inr (.inr (by have:=F.out;rcases e with rfl|rfl<;>omega))));exact MF.fw f7 rfl (fun i e=>(qL i e).elim (N6 i) (fun k=>.inr (dD z6 k))) F.1 F.2 C7
end
theorem adM(n:Nat):(madeCells XW.z.cells (n*4)).toList=XW.flat (List.replicate n yT):=by
 have Z:XW.z.cells=#[.bool false,aB 0,aB 0,bU]:=kE
 rw[Z]
 induction n with
 |zero=>simp[madeCells,tJ.flat]
 |succ n Y=>
  rw[List.replicate_succ',tJ.Qn,←Y,tJ.Nj];unfold madeCells;simp only[Array.toList_map,Array.toList_range];rw[show(n+1)*4=n*4+1+1+1+1 by omega,jk,jk,jk,jk];simp[Nat.add_mod,XW]
theorem adN(w:aK)(n:Nat)(N:n≤1000):∃Z,(Instr.makeSlice 95 n n).run prog w= .ok (aG w n n) Z∧dX XW Z w w n n (List.replicate n yT)∧w.grownBy Z none:=by
 obtain⟨U,R,X,W,V⟩:=info_parts' XW;obtain⟨Z,Y,Q,O⟩:=run_make_full (P:=prog) w w XW.S XW.T U _ XW.k XW.und R X W .i64 .i64 n (by rw[V];show 48*n≤_;omega) (by unfold maxLen;omega) (bC _);refine⟨Z,Y,⟨bK,?_⟩,O⟩;rw[←adM];exact Q
section
variable{w w':aK}{g:Nat}{S:Nat→Prop}{d:aI}
theorem ab3(h:Dw w g S d):Calls prog 90 #[aY g] w fun e w'=>e=bM (.bool d.down)∧w=w':=by
 obtain⟨M,h⟩:=h;obtain⟨-,-,-,-,-,-,Z,-⟩:=Wi h.box;go_enter func90,ntmps90;go_wp2;go_ret;exact sD
theorem Dw.tight(h:Dw w g S d):∃W,Dw w g W d∧(∀i,W i→S i)∧∀b V,bF w b 169 V→¬W b:=by
 obtain⟨M,h⟩:=h;refine⟨fun i=>i=g∨i=M.nb∨i=M.sb∨In M.A i∨In M.B i∨∃j,j<d.all.length∧In (M.ms.getD j default).A i,⟨M,{h with sg:=.inl rfl,sn:=.inr (.inl rfl),ss:=.inr (.inr (.inl rfl)),sA:=fun i Z=>.inr (.inr (.inr (.inl Z))),sB:=fun i Z=>.inr (.inr (.inr (.inr (.inl Z)))),sF:=fun i Z k U=>.inr (.inr (.inr (.inr (.inr ⟨i,Z,U⟩)))),lt:=fun i Z=>?_}⟩,fun i Z=>?_,fun b V Y Z=>?_⟩
 ·rcases Z with rfl|rfl|rfl|Z|Z|⟨j,X,Z⟩
  ·exact h.lt _ h.sg
  ·exact h.lt _ h.sn
  ·exact h.lt _ h.ss
  ·exact h.lt _ (h.sA _ Z)
  ·exact h.lt _ (h.sB _ Z)
  ·exact h.lt _ (h.sF j X _ Z)
 ·rcases Z with rfl|rfl|rfl|Z|Z|⟨j,X,Z⟩
  ·exact h.sg
  ·exact h.sn
  ·exact h.ss
  ·exact h.sA _ Z
  ·exact h.sB _ Z
  ·exact h.sF j X _ Z
 ·rcases Z with rfl|rfl|rfl|Z|Z|⟨j,X,Z⟩
  ·exact absurd ((Y.ty).one h.box.ty) bn
  ·exact IB h.names Y rfl
  ·exact IB h.safe Y rfl
  ·exact uq h.all Y bn Z
  ·exact uq h.steps Y bn Z
  ·exact uq (h.fl j X).1.e Y bn Z
end
end
section
variable{a:Act}{Q:Exit→Act→World→Prop}{src:List Int}{N W base c c' i j m n:Nat}{T:Nat→Prop}{o:Oper}{A B:Option Addr}{E:Prop}{V:Value}{u w w' w1:World}
structure Pv where
 a:Int
 b:Int
 PA:dK
 pn:Nat
 pc:Nat
 PG:dK
 pg:Nat
 pd:Nat
 PD:dK
 qn:Nat
 qc:Nat
abbrev Pv.v(V:Pv):cO:=.agg #[aB V.a,aB V.b,aG V.PA V.pn V.pc,aG V.PG V.pg V.pd,aG V.PD V.qn V.qc]
theorem ank{K:Cn}{P:fG}(h:kY K.C src= .ok P)(Z:jo K.qn K.qx K.re K.cu K.go K.ra K.ro K.fi=true):Of K (some P) (gu K.C src):=by
 obtain⟨T,Y,X⟩:=Gx h;obtain⟨W,V⟩:=Gi K.C src;refine⟨Z,W,V,fun _=>⟨P,rfl,Y,X,?_,fun i U=>?_,?_⟩⟩
 ·unfold gu;rw[h];rfl
 ·unfold gu;rw[h];exact aF U
 ·unfold gu;rw[h];rfl
theorem amc{K:Cn}{pc:Er}(h:kY K.C src= .error pc)(Z:jo K.qn K.qx K.re K.cu K.go K.ra K.ro K.fi=true):Of K none (gu K.C src)∧(gu K.C src).bad=pc.2∧(gu K.C src).chunks=0∧pc.2≠0:=by
 have V:=LP h;obtain⟨X,W⟩:=Gi K.C src;have Y:(gu K.C src).bad=pc.2:=by unfold gu;rw[h];rfl
 exact⟨⟨Z,X,W,fun e=>by rw[Y]at e;omega⟩,Y,by unfold gu;rw[h];rfl,aj⟩
theorem aiY{K:Cn}{e:Ending}(Z:jo K.qn K.qx K.re K.cu K.go K.ra K.ro K.fi=true)(h:Zw w K.C src e w'):
  ∃(V:Pv) (M:cO) (T:List (ByteArray × Int)) (L:Option fG),e=bM (eP #[V.v,M])∧ErV w' T (gu K.C src).bad M∧V.pg=(gu K.C src).chunks∧(∀P,L=some P→Bv w' w w' V.v P)∧Of K L (gu K.C src)∧aP w w':=by
 obtain⟨J,h⟩:=h;cases Y:kY K.C src with
 |ok P=>
  rw[Y]at h;obtain⟨v,rfl,U,x⟩:=h;have S:(gu K.C src).bad=0:=by unfold gu;rw[Y];rfl
  have O:(gu K.C src).chunks=P.gs:=by unfold gu;rw[Y];rfl
  have R:=U;obtain⟨A,n,c,G,m,d,D,e,rfl,-,-,⟨N,-⟩,-⟩:=U;refine⟨⟨P.W,P.H,A,n,c,G,m,d,D,n,e⟩,iI,[],some P,rfl,⟨fun _=>rfl,fun k=>absurd S k⟩,by rw[O];exact N.len.symm,fun Q X=>by injection X with X;rw[←X];exact R,ank Y Z,J⟩
 |error F=>
  rw[Y]at h;obtain⟨v,rfl,E⟩:=h;obtain⟨B,I,z,y⟩:=amc Y Z;exact⟨⟨0,0,none,0,0,none,0,0,none,0,0⟩,v,F.1,none,rfl,⟨fun k=>by rw[I]at k;exact absurd k y,fun _=>by rw[I];exact E⟩,z.symm,fun _ X=>(by cases X),B,J⟩
def anl(w:aK)(K:Cn)(U:Nat)(Y:Nat→Prop)(W:Nat)(X:bI)(d:aI)(e:Ending)(w':aK):Prop:=
 ∃l,Es d l∧(∀x∈l,x<36)∧l.length≤36∧∃V v p,e=bM (eP #[V,v])∧ErV w' p (dR X d l).2.2.2 v∧((dR X d l).2.2.2≠0→V=aY none∧p=[(⟨#[102,97,114,109]⟩,(dR X d l).2.2.1)])∧
  ((dR X d l).2.2.2=0→∃M T S Z R Q,V= BG M.fg∧M.dg=U∧uw w' K M T S Z (dR X d l).1 ⟨(dR X d l).2.1,List.replicate W aX.zero,[],false⟩ R∧Of K R X∧M.A=some (aH Q 0)∧∀i,Ox M Z T S i→Y i∨w.heap.size≤i)∧
  (∃Z,Dw w' U Z (dR X d l).1∧∀i,Z i→Y i∨w.heap.size≤i)∧bQ Y w w'
def akQ(w:aK)(Z:Nat)(V:Pv):aK:=((((w.setCell ⟨Z,9,none⟩ (aB V.a)).setCell ⟨Z,10,none⟩ (aB V.b)).setCell ⟨Z,11,none⟩ (aG V.PA V.pn V.pc)).setCell ⟨Z,12,none⟩ (aG V.PG V.pg V.pd)).setCell ⟨Z,13,none⟩ (aG V.PD V.qn V.qc)
theorem ab4(w:aK)(Z:Nat)(V:Pv):bQ (fun i=>i=Z) w (akQ w Z V):=
 (((((bQ.refl (fun i=>i=Z) w).setCell (p:=(aH Z 9)) (fun _=>rfl) _).setCell (p:=(aH Z 10)) (fun _=>rfl) _).setCell (p:=(aH Z 11)) (fun _=>rfl) _).setCell (p:=(aH Z 12)) (fun _=>rfl) _).setCell (p:=(aH Z 13)) (fun _=>rfl) _
abbrev M0(Z Y X W lo hi:Nat)(V:Pv):xW:=⟨Z,Y,aY none,aB V.a,aB V.b,aG V.PA V.pn V.pc,aG V.PG V.pg V.pd,aG V.PD V.qn V.qc,some (aH X 0),W,List.replicate W yT,none,0,lo,hi⟩
abbrev V0:Pv:=⟨0,0,none,0,0,none,0,0,none,0,0⟩
abbrev aiZ(K:Cn)(Z Y W:Nat)(V:Pv):Array cO:=fmA K (M0 Z 0 Y W 0 0 V) W 0 false
theorem ai0{wc:aK}{K:Cn}{R:Nat→Prop}{d:aI}{V:Pv}{oP:Option fG}(hd:Dw w m R d)(L:aP w u)(M:bF u j 97 (aiZ K m n W V0))(ht:dX XW u w n W W (List.replicate W yT))(h1:w≤j)(h2:j<wc)(G:w≤n)(F:n<wc)(J:∀P,oP=some P→Bv u wc u V.v P):
  MN (akQ u j V) K (M0 m j n W wc u V) R d (List.replicate W aX.zero) [] false oP:=by
 have X:=ab4 u j V;have U:=fun i (e:R i)=>hd.lt e
 have T:(List.replicate W aX.zero)=W:=bK
 refine⟨?_,(hd.keep (bQ.of_below (S:=fun _=>False) L) (fun _ _ h=>h)).keep X (fun i Z e=>by have:=U i Z;omega),?_,fun i Z=>?_,dX.nil _ _,fun P I=>(J P I).dH X (fun i e=>.inl aj),fun(e:R j)=>by have:=U _ e;omega,fun i Z e=>?_,fun i Z=>?_,fun i Z k Q=>?_,fun i O E=>⟨fun e=>by have:=U _ e;dsimp only at O;omega,by dsimp only at O ⊢;omega,fun e=>?_,fun e=>?_⟩,X.size⟩
 ·rw[T]
  exact((((M.store 9 V.a).store 10 V.b).store 11 (aG V.PA V.pn V.pc)).store 12 (aG V.PG V.pg V.pd)).store 13 (aG V.PD V.qn V.qc)
 ·rw[T]
  exact(ht.lower (dS _)).dH X (fun i Z e=>by subst e;exact uq ht M bn Z)
 ·rw[T]at Z
  have N:(List.replicate W yT).getD i yT=yT:=by rw[dG,nC,aF Z];rfl
  have H:(List.replicate W aX.zero).getD i aX.zero=aX.zero:=by rw[dG,nC,aF Z];rfl
  rw[H];dsimp only;rw[N];exact⟨rfl,rfl,rfl,(dX.nil _ _).ownB⟩
 ·obtain⟨q,Y,rfl⟩:=Z
  injection Y with Y
  subst Y;have:=U _ e;dsimp only at this;omega
 ·obtain⟨q,Y,-⟩:=Z;cases Y
 ·rw[T]at Z
  have N:(List.replicate W yT).getD i yT=yT:=by rw[dG,nC,aF Z];rfl
  dsimp only at Q;rw[N]at Q;obtain⟨q,Y,-⟩:=Q;cases Y
 ·obtain⟨q,Y,rfl⟩:=e
  injection Y with Y
  subst Y;dsimp only at O;omega
 ·obtain⟨q,Y,-⟩:=e;cases Y
section
variable{w w':aK}{K:Cn}{SD:Nat→Prop}{ρ:Nat→Nat}{d d':aI}{N W dg:Nat}
theorem aeI(g:jo K.qn K.qx K.re K.cu K.go K.ra K.ro K.fi=true)(hW:1≤W∧W≤64)(hu:d.down=false)(qv:bY (gu K.C src) ρ d)(qw:aZ d N)(hN:N≤700000)(f:dV src)(hn:n≤100000000)(qX:n≤c)(qi:Gl w)(qy:¬SD 0)(hA:Lb w A n src)(qz:∀i,In A i→¬SD i)(qA:∀i,In A i→i<w)(h:Dw w dg SD d):
  Calls prog 54 #[aY dg,.agg (jC K.qn K.qx K.re K.cu K.go K.ra K.ro K.fi),aG A n c,W] w (anl w K dg SD W (gu K.C src) d):=by
 have a:=lt_of_cell qi;obtain⟨m,qB,u,qC⟩:=h.tight;obtain⟨qY,O,qZ,za,zb,zc,ze,qU⟩:=GI qB u qC hu qv qw hN f;obtain⟨zf,zg,zh,qD,zi,zj⟩:=MP hn qi (show¬SD 0∧0<w.heap.size from⟨qy,a⟩) hA (show∀i,In A i→¬m i∧i<w from fun i X=>⟨fun e=>qz i X (u i e),qA i X⟩) (show∀i,m i→i<w from fun i e=>h.lt (u i e));have qV:Hid ((gu K.C src).key=jf (uV K.C src)):=ay (by unfold gu;cases kY K.C src<;>rfl);clear qB u qC qz qA qi qy a qv qw hN;have hb:=aJ w (aS (jC K.qn K.qx K.re K.cu K.go K.ra K.ro K.fi) 23);have X0:=bF.new w 23 (jC K.qn K.qx K.re K.cu K.go K.ra K.ro K.fi);obtain⟨W1,qj⟩:∃W1:aK,W1=w.alloc (aS (jC K.qn K.qx K.re K.cu K.go K.ra K.ro K.fi) 23):=⟨_,rfl⟩;rw[←qj]at hb X0;have zk:=ay X0
 have M:Hid (∀w',aP W1 w'→aN w' w 0 (aB K.qn)∧aN w' w 1 (aB K.qx)∧aN w' w 2 (aB K.re)∧aN w' w 3 (aB K.cu)∧aN w' w 4 (aB K.go)∧aN w' w 5 (aB K.ra)∧aN w' w 6 (aB K.ro)∧aN w' w 7 (aB K.fi)):=ay (fun w' hw=>by
  have Z:=zk.keep hw;exact⟨Z.at rfl,Z.at rfl,Z.at rfl,Z.at rfl,Z.at rfl,Z.at rfl,Z.at rfl,Z.at rfl⟩)
 obtain⟨zl,qE⟩:=aV (wu g W1) (fun w' (hw:aP w w')=>ab3 (h.keep (bQ.of_below (S:=fun _=>False) hw) (fun _ _ h=>h)));rw[hu]at qE;obtain⟨zm,HB⟩:=aV qj hb;have g1:(1:Int)≤(W:Int):=aj
 have g2:(W:Int)≤64:=aj
 have g3:¬(64:Int)<(W:Int):=aj
 have g4:¬(W:Int)<1:=aj
 obtain⟨c0,c1,c2,c3,c4,c5,c6,c7⟩:=M W1 (aU _ _);clear hb qj hu X0;go_enter func54,ntmps54;go_upto_region 1 with(fail)
 change Code.wp _ _ _ _ (w.alloc (aS (jC K.qn K.qx K.re K.cu K.go K.ra K.ro K.fi) 23));rw[←zm.out];go_upto_region 8 with(first|(go_at_call 39;refine zl.out.mono ?_;rintro e B ⟨rfl,L⟩;have J:=HB.vI.trans (L.mono HB.vI.size))|(go_at_call 90;refine(qE.out B J).mono ?_;rintro e w3 ⟨rfl,rfl⟩)|fail)
 obtain⟨t,I⟩:=aV L J;clear c0 c1 c2 c3 c4 c5 c6 c7;obtain⟨c0,c1,c2,c3,c4,c5,c6,c7⟩:=M.out B L;obtain⟨e0,e1,e2,e3,e4,e5,e6,e7⟩:=M.out B.drew L.drew;clear L J;obtain⟨Y,zn,qa,qF⟩:=adN B.drew W aj;have qk:=(aU _ _).drew.grown qF (bC _) (fun k hk=>by cases hk);obtain⟨f0,f1,f2,f3,f4,f5,f6,f7⟩:=M.out Y (t.out.trans (qk.mono t.out.size));obtain⟨qG,qH⟩:=aV qa qk;go_cut [11] (fun zo wx=>zo= BG Y.heap.size∧wx=Y.alloc (aS (aiZ K dg B W V0) 97))
 case first=>
  go_region_law(fail)
  all_goals(go_wp2;go_meet;exact sD)
 case rest=>
  obtain⟨rfl,s⟩:=hcut;have ql:aP Y wc:=by rw[s];exact aJ Y _
  have XC:bF wc Y 97 (aiZ K dg B W V0):=by rw[s];exact bF.new Y _ _
  have qe:wc.heap.size=Y+1:=by rw[s];simp
  have H:=qH.out.trans (ql.mono qH.out.size);have qf:=t.out.trans (H.mono t.out.size);have F:=I.out.trans (H.mono I.out.size);have qg:=(qG.out.dN (i:=B.heap.size) ⟨_,rfl,rfl⟩).2;have qh:=I.out.size;clear c0 c1 c2 c3 c4 c5 c6 c7 e0 e1 e2 e3 e4 e5 e6 e7 f0 f1 f2 f3 f4 f5 f6 f7 zn qa qF qk s;obtain⟨c0,c1,c2,c3,c4,c5,c6,c7⟩:=M.out wc qf;obtain⟨zq,zr,qI⟩:=dB (TS (C:=K.C) hA.len aj qX f wc (hA.keep F).rd) XC (show aP w wc∧w.heap.size≤B∧B.heap.size<Y∧wc.heap.size=Y+1∧aP Y wc from⟨F,qh,qg,qe,ql⟩);clear XC ql qe H qf F qg qh;go_upto_region 11 with(first|(go_at_call 59;refine zq.out.mono ?_;rintro e z qJ;obtain⟨V,vb,qW,oP,rfl,qm,qK,qL,qo,r⟩:=aiY g qJ;have zt:=ay qK;clear qK;have P:=zr.out.keep r;have z9:=P.frozen 9;have zu:=P.frozen 10;have zv:=P.frozen 11;have zw:=P.frozen 12;have zx:=P.frozen 13;have y9:aN z Y 9 (aB 0):=(P.at rfl);have zy:aN z Y 10 (aB 0):=(P.at rfl);have zA:aN z Y 11 (bU):=(P.at rfl);have zB:aN z Y 12 (bU):=(P.at rfl);have zC:aN z Y 13 (bU):=(P.at rfl))|fail)
  obtain⟨W7,o⟩:∃W7,W7=akQ z Y V:=⟨_,rfl⟩;change Code.wp _ _ _ _ (akQ z Y V);rw[←o];obtain⟨q1,q2,q3,q4,q5⟩:=qI.out;have T:=q1.trans (r.mono q1.size);have qq:=ai0 (oP:=oP) qY.out T P ((qG.out.lower q2).keep (q5.trans (r.mono q5.size))) (dD q2 (pO q3)) aj q2 aj qL;have qr:bQ (fun i=>i=Y) z W7:=by rw[o];exact ab4 _ _ _
  rw[←o]at qq;have qM:∀i,(m i∨i=Y)→m i∨w≤i:=fun i e=>e.imp id (fun e=>aj)
  have E:∀w',bQ (fun i=>m i∨i=Y) W7 w'→bQ (fun i=>m i∨i=Y) z w':=fun w' k=>(qr.mono (fun _ _ e=>.inr e)).trans k
  have R:∀w',bQ (fun i=>m i∨i=Y) W7 w'→bQ m w w':=fun w' k=>(bQ.of_below T).step (E w' k) (fun i X e=>(qM i e).elim id (fun k=>aj))
  have qN:=ay (akP (p:=qW) (v:=vb) (G:=V.PG) (gd:=V.pd) (A:=A) (n:=n) (c:=c) qo qV.out qU.out zf.out (by show Value.slice V.PG V.pg V.pd=_;rw[zt.out]) zb.out za.out zc.out ze.out
   (fun w' k=>show Gl w' from bG zg.out (R w' k) (fun e=>zh.out.1 (O.out _ e)))
   (fun w' k=>⟨qm.1,fun e=>(qm.2 e).keep fun b cs hB=>hB.dH (E w' k) (fun e=>by
     rcases e with e|e
     ·have hl:=zj.out b e
      refine qZ.out b cs ?_ e;exact(T.block b hl).symm.trans hB
     ·subst e
      exact absurd ((hB.ty).one P.ty) bn)⟩)
   (fun w' k=>⟨qD.out.len,qD.out.rd.dH (R w' k) (fun q y e=>(zi.out _ ⟨q,y,rfl⟩).1 e)⟩) qq)
  have Q:=ay (dD T.size qr.size);dsimp only at qN;change Hid _ at qM R qo;clear o qq qr E q1 q5 T qL qm qJ P r z9 zu zv zw zx y9 zy zA zB zC;go_upto_region 12 with(go_at_call 91;refine qN.out.mono ?_;rintro e w8 ⟨l,qs,D,qt,zD⟩;obtain⟨rfl,qO,qP,qQ⟩:=zD)
  have qR:=ay (R.out w8 qQ)
  have qS:Hid (∃U,Dw w8 dg U (dR (gu K.C src) d l).1∧∀i,U i→SD i∨w≤i):=ay (by
   obtain⟨U,k1,k2⟩:=qP;exact⟨U,k1,fun i X=>(k2 i X).elim (fun e=>.inl (O.out i e)) (fun e=>.inr (dD Q.out e))⟩)
  change Hid _ at qs D qt qO;clear qQ qP
  by_cases x:(dR (gu K.C src) d l).2.2.2=0
  ·rw[show eV (dR (gu K.C src) d l).2.2.2=iI by rw[x];rfl]
   obtain⟨jg,mb,U,k1,k2,k3,k4⟩:=qO.out x;obtain⟨qu,zE⟩:=aV (show(∀i,U i→SD i∨w≤i)∧w≤jg∧w≤mb from⟨fun i X=>(k2 i X).elim (fun e=>.inl (O.out i e)) (fun e=>.inr (dD Q.out e)),dD Q.out k3,dD Q.out k4⟩) qI.out.1.size;change Hid _ at k1 x;clear k2 k3 k4;go_wp2;go_ret2;refine⟨l,qs,D,qt,_,_,[],rfl,⟨fun _=>rfl,fun k=>absurd x k⟩,fun k=>absurd x k,fun _=>⟨_,jg,mb,U,oP,B.heap.size,rfl,rfl,k1,qo,rfl,fun i X=>?_⟩,qS,qR.mono (fun i _ e=>O i e)⟩;rcases X with X|rfl|rfl|X|X|X|X|⟨j,X⟩
   ·exact qu.1 i X
   ·exact .inr qu.2.1
   ·exact .inr qu.2.2
   ·exact .inr (by dsimp only at X;omega)
   ·obtain⟨q,y,rfl⟩:=X
    injection y with y
    subst y;exact .inr q2
   ·obtain⟨q,y,-⟩:=X;cases y
   ·exact .inr (dD zE X.1)
   ·dsimp only at X
    have e1:(List.replicate W yT).getD j yT=yT:=by
     rw[dG,nC];split<;>rfl
    rw[e1]at X;obtain⟨q,y,-⟩:=X;cases y
  ·rw[pz x]
   change Hid _ at x;go_wp2_with(go_at_call 49;refine(xI _ _ _ _ _).aQ ?_;rintro w9 ⟨zF,qT⟩);go_ret2;refine⟨l,qs,D,qt,_,_,_,rfl,ErV.in_ x zF,fun _=>sD,fun k=>absurd k x,?_,(qR.mono (fun i _ e=>O i e)).trans (bQ.of_below qT)⟩;obtain⟨U,k1,k2⟩:=qS;exact⟨U,k1.keep (bQ.of_below (S:=fun _=>False) qT) (fun _ _ h=>h),k2⟩
end
section
variable{w w':aK}{K:Cn}{M:xW}{SD T:Nat→Prop}{d:aI}{f:bZ}{oP:Option fG}{jg mb:Nat}
theorem uw.dH(h:uw w K M jg mb SD d f oP)(Y:bQ T w w')(Z:∀i,Ox M SD jg mb i→¬T i):uw w' K M jg mb SD d f oP:=
 ⟨h.base.dH Y (fun i e=>Z i (.inl e)) (Z _ (.inr (.inr (.inr (.inl rfl))))) (fun i e=>Z i (.inr (.inr (.inr (.inr (.inl e)))))) (fun i e=>Z i (.inr (.inr (.inr (.inr (.inr (.inl e))))))) (fun j _ k e=>Z k (.inr (.inr (.inr (.inr (.inr (.inr (.inr ⟨j,e⟩)))))))) (fun i X W=>Z i (.inr (.inr (.inr (.inr (.inr (.inr (.inl ⟨X,W⟩)))))))),
   h.jv,h.job.dH Y (Z _ (.inr (.inl rfl))) (Z _ (.inr (.inr (.inl rfl)))),h.sj,h.rj⟩
end
structure MG where
 sg:Nat
 dg:Nat
 K:Cn
 A:dK
 n:Nat
 c:Nat
 W:Nat
 src:aO
abbrev MG.X(I:MG):bI:=gu I.K.C I.src
abbrev siA(I:MG)(Z:cO):Array cO:=#[aB I.K.qn,aB I.K.qx,aB I.K.re,aB I.K.cu,aB I.K.go,aB I.K.ra,aB I.K.ro,aB I.K.fi,aG I.A I.n I.c,aB I.W,BG I.dg,Z]
structure SiB(w:World)(I:MG)(S:Nat→Prop)(fv:Value):Prop where
 box:bF w I.sg 60 (siA I fv)
 src:OwnB w 0 I.A I.n I.c I.src
 sg:S I.sg
 sA:∀i,In I.A i→S i
 lt:∀i,S i→i<w.heap.size
 g0:¬S 0
 may:jo I.K.qn I.K.qx I.K.re I.K.cu I.K.go I.K.ra I.K.ro I.K.fi=true
 Zv:dV I.src
 W:1≤I.W∧I.W≤64
def SiF(w:aK)(I:MG)(S:Nat→Prop)(Y:cO)(d:aI):Option bZ→Prop
 |none=>Y= .pointer none∧∃Z,Dw w I.dg Z d∧∀i,Z i→S i∧i≠I.sg∧¬In I.A i
 |some f=>∃M W V Z U T,Y= BG M.fg∧M.dg=I.dg∧uw w I.K M W V Z d f U∧Of I.K U I.X∧M.A=some ⟨T,0,none⟩∧∀i,Ox M Z W V i→S i∧i≠I.sg∧¬In I.A i
def IG(w:aK)(I:MG)(S:Nat→Prop)(s:oK):Prop:=∃Z,SiB w I S Z∧SiF w I S Z s.d s.f
section
variable{w w':aK}{I:MG}{S T:Nat→Prop}{fv:cO}{d:aI}{o:Option bZ}{s:oK}{f:bZ}
theorem SiB.dH(h:SiB w I S fv)(Z:bQ T w w')(X:∀i,S i→¬T i):SiB w' I S fv:=
 ⟨h.box.dH Z (X _ h.sg),h.src.dH Z (fun i Y=>X i (h.sA i Y)),h.sg,h.sA,fun i Y=>wP (h.lt i Y) Z.size,h.g0,h.may,h.Zv,h.W⟩
theorem SiF.dH(h:SiF w I S fv d o)(V:bQ T w w')(U:∀i,S i→¬T i):SiF w' I S fv d o:=by
 cases o with
 |none=>
  obtain⟨Y,X,W,Z⟩:=h;exact⟨Y,X,W.keep V (fun i e=>U i (Z i e).1),Z⟩
 |some f=>
  obtain⟨M,Q,P,X,O,N,Y,W,Z,L,K,R⟩:=h;exact⟨M,Q,P,X,O,N,Y,W,Z.dH V (fun i e=>U i (R i e).1),L,K,R⟩
theorem IG.dH(h:IG w I S s)(Z:bQ T w w')(Y:∀i,S i→¬T i):IG w' I S s:=by
 obtain⟨fv,X,W⟩:=h;exact⟨fv,X.dH Z Y,W.dH Z Y⟩
theorem IG.keep(h:IG w I S s)(Z:aP w w'):IG w' I S s:=h.dH (bQ.of_below (S:=fun _=>False) Z) (fun _ _ e=>e)
theorem wM(h:SiB w I S fv):aN w I.sg 0 (aB I.K.qn)∧aN w I.sg 1 (aB I.K.qx)∧aN w I.sg 2 (aB I.K.re)∧aN w I.sg 3 (aB I.K.cu)∧aN w I.sg 4 (aB I.K.go)∧aN w I.sg 5 (aB I.K.ra)∧aN w I.sg 6 (aB I.K.ro)∧aN w I.sg 7 (aB I.K.fi)∧
  aN w I.sg 8 (aG I.A I.n I.c)∧aN w I.sg 9 (aB I.W)∧aN w I.sg 10 (aY I.dg)∧aN w I.sg 11 fv:=
 ⟨h.box.at rfl,h.box.at rfl,h.box.at rfl,h.box.at rfl,h.box.at rfl,h.box.at rfl,h.box.at rfl,h.box.at rfl,h.box.at rfl,h.box.at rfl,h.box.at rfl,h.box.at rfl⟩
theorem SiF.disk(h:SiF w I S fv d o):∃Z,Dw w I.dg Z d∧∀i,Z i→S i∧i≠I.sg∧¬In I.A i:=by
 cases o with
 |none=>obtain⟨-,h⟩:=h;exact h
 |some f=>
  obtain⟨M,V,U,Z,R,Q,P,Y,X,O,N,W⟩:=h;exact⟨Z,by rw[←Y];exact X.base.disk,fun i e=>W i (.inl e)⟩
def stN(o:Option bZ):Nat:=match o with|some f=>f.job.state|none=>0
def wkN(o:Option bZ):Nat:=match o with|some f=>f.tasks.length|none=>0
theorem YN(h:IG w I S s):Calls prog 31 #[aY I.sg] w (Val w (aB (stN s.f:Nat))):=by
 obtain⟨fv,W,Z⟩:=h;obtain⟨-,-,-,-,-,-,-,-,-,-,-,Q⟩:=wM W;cases X:s.f with
 |none=>
  rw[X]at Z;obtain⟨rfl,-⟩:=Z;go_enter func31,ntmps31;go_wp2;go_ret;exact⟨rfl,aU _ _⟩
 |some f=>
  rw[X]at Z;obtain⟨M,P,O,N,L,K,rfl,-,V,-,-,-⟩:=Z;have U:=ay (aeB V);go_enter func31,ntmps31;go_wp2_with(first|(go_at_call 63;refine U.mono ?_;rintro e J ⟨H,G,rfl,R,Y⟩)|(go_at_call 44;refine(yh R).aQ ?_;rintro F rfl)|fail);go_ret;exact⟨rfl,Y⟩
theorem ab5(h:IG w I S s):Calls prog 38 #[aY I.sg] w (Val w (aB (wkN s.f:Nat))):=by
 obtain⟨fv,X,Z⟩:=h;obtain⟨-,-,-,-,-,-,-,-,-,-,-,U⟩:=wM X;cases Y:s.f with
 |none=>
  rw[Y]at Z;obtain⟨rfl,-⟩:=Z;go_enter func38,ntmps38;go_wp2;go_ret;exact⟨rfl,aU _ _⟩
 |some f=>
  rw[Y]at Z;obtain⟨M,R,Q,P,O,N,rfl,-,W,-,-,-⟩:=Z;have V:=ay (Ui W);go_enter func38,ntmps38;go_wp2_with(go_at_call 55;refine V.aQ ?_;rintro L rfl);go_ret;exact⟨rfl,aU _ _⟩
theorem SQ(X:fZ s.d)(Y:aZ s.d N)(h:IG w I S s):Calls prog 13 #[aY I.sg] w fun e w'=>∃A n c Z,e=bM (aG A n c)∧FiL w' w s.d A n c Z∧Es s.d (Z.map FiM.x)∧n≤36∧aP w w':=by
 obtain⟨fv,W,V⟩:=h;obtain⟨-,-,-,-,-,-,-,-,-,-,P,-⟩:=wM W;obtain⟨O,U,-⟩:=V.disk;have R:=ay (YK X Y w U);go_enter func13,ntmps13;go_wp2_with(go_at_call 27;refine R.mono ?_;rintro e M ⟨A,n,c,Z,rfl,Q⟩);go_ret;exact⟨A,n,c,Z,rfl,Q⟩
theorem aar{ms:List FiM}(h:FiL w base d A n c ms)(Y:j<n):∃b o,A=some (aH b o)∧aN w b (o+j*3) (.string (bP (ms.getD j default).x))∧aN w b (o+j*3+1) (.slice (ms.getD j default).A (ms.getD j default).n (ms.getD j default).c)∧aN w b (o+j*3+2) (aB (ms.getD j default).s)∧ms.getD j default∈ms:=by
 have W:=h.row.len;obtain⟨b,o,e,Z⟩:=h.row.ls.at_ Y;have X:ms.getD j default=ms[j]' aj:=by rw[dG,fP aj];rfl
 rw[X];exact⟨b,o,e,Z 0 _ rfl,Z 1 _ rfl,Z 2 _ rfl,lS _⟩
def anm(w:aK)(d:aI)(e:Ending)(w':aK):Prop:=aP w w'∧(d.see 2=none→e=bM (eP #[bU,.bool false]))∧∀v,d.see 2=some v→∃A n c,e=bM (eP #[aG A n c,.bool true])∧OwnB w' w.heap.size A n c v.data
theorem UY(hF:fZ s.d)(z:aZ s.d N)(h:IG w I S s):Calls prog 10 #[aY I.sg] w (anm w s.d):=by
 obtain⟨fv,h1,P⟩:=h;obtain⟨-,-,-,-,-,-,-,-,-,-,qf,-⟩:=wM h1;obtain⟨SD,hd,-⟩:=P.disk;have HF:=ay (YK hF z w hd);generalize s.d=d at*;go_enter func10,ntmps10;go_wp2_with(go_at_call 27;refine HF.mono ?_;rintro e w2 ⟨A,n,c,E,rfl,K,y,hn,u⟩);have r:=K.row.len;obtain⟨q,J,U,p⟩:=jH K y u r
 go_loopg [5,12] n (fun k v5 l wr=>∃i:Nat,i+k=n∧l=i∧aP w2 wr∧∀t,t<i→(E.getD t default).x≠2)
 case atStart=>exact⟨0,aj,rfl,aU _ _,fun t M=>absurd M aj⟩
 case round=>
  obtain⟨i,hi,rfl,Z,j⟩:=hrel;obtain⟨H,Y⟩:=aV j Z
  by_cases g:i<n
  ·have qe:(i:Int)<(n:Int):=aj
   have R:=q.keep Z;obtain⟨b,o,rfl,q0,q1,q2,X⟩:=aar R g;have W:=R.dat _ X;generalize L:E.getD i default=m at*;have HM:=ay L;obtain⟨x,D,C,B,mS⟩:=m
   by_cases F:x=2
   ·subst F
    rw[nm2]at q0;have HD:=ay W.1
    have G:∃v,d.see 2=some v:=by
     have P:(2:Nat)∈E.map FiM.x:=FH.2 ⟨_,X,rfl⟩;rw[J.mem,←Gf]at P;exact Hu.1 P
    obtain⟨v,O⟩:=G;rw[Aw O]at HD;change Hid _ at O;clear L W R Z X;go_wp2;go_ret2;have V:=aJ wr (aS #[.string ⟨#[111,117,116]⟩,aG D C B,mS] 45);have a:=Y.trans (V.mono Y.size);refine⟨U.trans (a.mono U.size),fun e=>?_,fun v' Q=>?_⟩
    ·rw[O]at e;cases e
    ·rw[O]at Q
     injection Q with Q
     subst Q;exact⟨D,C,B,rfl,(HD.keep V)⟩
   ·have n1:¬(bP x).toList=[111,117,116]:=fun e=>F (EJ x W.2.2 2 aj (by rw[←Jo,e];rfl))
    have m1:((bP x).toList== [111,117,116])=false:=oO.2 n1;generalize bP x=Bx at*;change Hid _ at F;clear L W R Z X;go_wp2;have V:=aJ wr (aS #[.string Bx,aG D C B,mS] 45);have qa:=ay (Y.trans (V.mono Y.size));clear V;go_roundg(gk-1)
    case measure=>omega
    case rel=>
     refine⟨i+1,aj,fA,qa,fun t M=>?_⟩
     by_cases e:t=i
     ·subst e;rw[HM];exact F
     ·exact H t aj
  ·obtain rfl:i=n:=aj
   clear Z;go_wp2;go_ret2;refine⟨U.trans (Y.mono U.size),fun _=>rfl,fun v O=>?_⟩;exfalso;have P:(d.names 2).isSome=true:=by rw[←Gf,O];rfl
   rw[←J.mem]at P;obtain⟨m,L,e⟩:=FH.1 P;obtain⟨t,M,rfl⟩:=jA.1 L;refine H t (by rw[←p];exact M) ?_;rw[dG,fP M];exact e
end
theorem amd{α:Type}{V:Array Oper}{K:Act→aK→Prop}(R:tJ α)(U:o.guard=none)(s x:Operand)
  (I:o.op= .call {callee:=.builtin .append,args:=#[s,x],argTypes:=#[R.S,R.S]})
 {l r:List α} (H:a.eval s=aG A n c) (Z:dX R w base A n c l)
    (hx:a.eval x=aG B m c') (M:Qo R w B m r) (G:(n+m)*R.bytes≤140737488355328) (L:base≤w) (z:n+m≤140737488355328)
    (h:∀B Y w',dX R w' base B (n+m) Y (l++r)→Below base w w'→K (a.put o.dst (aG B (n+m) Y)) w'):
    if Region.wanted o (yielded V a.tmps)=true then Oper.wp prog o a w K Q else E:=by
  obtain⟨F,D,P,O,N⟩:=info_parts' R;refine IV _ U s x _ I base R.T F _ R.k R.bytes R.und D P O N R.zs R.pos _ n _ H Z.row B m c' _ hx M.rd (R.RH r) (by unfold maxLen;omega) G L ?_;intro y Y v W X J;exact h _ _ _ ⟨by simp[Z.len,M.len],by rw[R.Qn];exact W⟩ ((aU base w).grown X L (fun k C=>(Z.row.lt k C).1))
section
variable{w w':aK}{K:Cn}{W n c:Nat}{A:dK}{src:aO}
def aln(w:aK)(K:Cn)(A:Nat)(src:aO)(W:Nat)(r:Int)(e:Ending)(w':aK):Prop:=
 ∃I:MG,e=bM (eP #[BG I.sg,iI])∧I.K=K∧I.n=A∧I.src=src∧I.W=W∧IG w' I (fun i=>w.heap.size≤i∧i<w'.heap.size) ⟨aI.new r,none⟩∧aP w w'
theorem aeK{r:Int}(O:jo K.qn K.qx K.re K.cu K.go K.ra K.ro K.fi=true)(f:0≤r∧r≤16777216)(d:1≤W∧W≤64)(hn:n≤140737488355328)(F:dV src)(E:0<w.heap.size)(b:Lb w A n src):
  Calls prog 18 #[.agg (jC K.qn K.qx K.re K.cu K.go K.ra K.ro K.fi),aG A n c,r,W] w (aln w K n src W r):=by
 obtain⟨y,D,a,x⟩:=ES w 23 (jC K.qn K.qx K.re K.cu K.go K.ra K.ro K.fi)
 have R:Hid (∀w',aP y w'→aN w' w 0 (aB K.qn)∧aN w' w 1 (aB K.qx)∧aN w' w 2 (aB K.re)∧aN w' w 3 (aB K.cu)∧aN w' w 4 (aB K.go)∧aN w' w 5 (aB K.ra)∧aN w' w 6 (aB K.ro)∧aN w' w 7 (aB K.fi)):=ay (fun w' v=>by
  have Z:=a.keep v;exact⟨Z.at rfl,Z.at rfl,Z.at rfl,Z.at rfl,Z.at rfl,Z.at rfl,Z.at rfl,Z.at rfl⟩)
 obtain⟨u,t,s,z⟩:=jH (wu O y) (fun w'=>aeJ f w') (fun w' (v:aP w w')=>b.keep v) (show jo K.qn K.qx K.re K.cu K.go K.ra K.ro K.fi=true∧dV src∧(1≤W∧W≤64)∧0<w.heap.size from⟨O,F,d,E⟩);have g3:¬(64:Int)<(W:Int):=aj
 have g4:¬(W:Int)<1:=aj
 obtain⟨c0,c1,c2,c3,c4,c5,c6,c7⟩:=R y (aU _ _);change Hid _ at x D a;clear O f F d b E;go_enter func18,ntmps18;go_upto_region 1 with(fail)
 change Code.wp _ _ _ _ (w.alloc _);rw[←D];go_upto_region 9 with(first|(go_at_call 39;refine u.aQ ?_;rintro w2 J)|(go_at_call 40;refine(t w2).mono ?_;rintro e P ⟨dg,rfl,q,p⟩)|fail)
 have Y:=J.trans (p.mono J.size);have V:=x.trans (Y.mono x.size);have o:=dD x.size J.size;clear c0 c1 c2 c3 c4 c5 c6 c7;obtain⟨c0,c1,c2,c3,c4,c5,c6,c7⟩:=R P Y;obtain⟨d0,d1,d2,d3,d4,d5,d6,d7⟩:=R P.drew Y.drew;have I:=aJ P (aS #[] 5);have M:=Y.trans (I.mono Y.size);obtain⟨e0,e1,e2,e3,e4,e5,e6,e7⟩:=R _ M;obtain⟨f0,f1,f2,f3,f4,f5,f6,f7⟩:=R _ M.drew;have m:=(s _ ((V.trans (I.mono V.size)).drew)).e;go_cut [8,9] (fun v8 v9 wx=>v9=iI∧∃B Q U,v8= BG U.heap.size∧wx=U.alloc (aS (siA ⟨U,dg,K,B,n,Q,W,src⟩ (aY none)) 60)∧dX PS U P B n Q src∧aP P U)
 case first=>
  go_region_law(first|(refine amd (base:=P.heap.size) (l:=[]) (r:=src) PS kE (.tmp 36) (.tmp 37) kE kE ((dX.empty PS P P (bC _)).drew) kE m (by show(0+_)*1≤_;omega) bK aj ?_;intro B Q U L j;have X:aP P U:=(I.drew).trans j;rw[dI]at L ⊢;rw[jI]at L;obtain⟨p0,p1,p2,p3,p4,p5,p6,p7⟩:=R U (Y.trans (X.mono Y.size)))|fail)
  all_goals(go_wp2;go_meet;exact⟨rfl,B,Q,U,rfl,rfl,L,X⟩)
 case rest=>
  obtain⟨rfl,B,Q,U,rfl,H,L,X⟩:=hcut;go_wp2;go_ret2;have T:aP U wc:=by rw[H];exact aJ U _
  have G:=V.trans (X.mono V.size);have g:=G.trans (T.mono G.size);have C:wc.heap.size=U+1:=by rw[H];simp
  obtain⟨m1,m2,m3,m4⟩:=z;refine⟨⟨U,dg,K,B,n,Q,W,src⟩,rfl,rfl,rfl,rfl,rfl,⟨aY none,⟨by rw[H];exact bF.new U _ _,((L.ownB.keep T).lower (dS _)),⟨G.size,by rw[C];exact Nat.lt_succ_self _⟩,fun i N=>?_,fun i N=>N.2,fun e=>by have:=e.1;omega,m1,m2,m3⟩,rfl,_,(q.keep (bQ.of_below (S:=fun _=>False) X) (fun _ _ h=>h)).keep (bQ.of_below (S:=fun _=>False) T) (fun _ _ h=>h),fun i N=>⟨⟨dD o N.1,wP N.2 (dD X.size T.size)⟩,fun e=>?_,fun e=>?_⟩⟩,g⟩
  ·have k:=L.dN N
   exact⟨dD V.size k.1,by rw[C];omega⟩
  ·dsimp only at e
   have:=N.2;have:=X.size;omega
  ·have k:=L.dN e
   have:=N.2;omega
def ame(w:aK)(e:Ending)(w':aK):Prop:=∃T x,e=bM (eP #[aY none,.iface T x])∧aP w w'
theorem akU{C:Ei}{r W:Int}(h:C.may=false∨¬(0≤r∧r≤16777216)∨W<1∨64<W)(w:aK):
  Calls prog 18 #[.agg (jC C.qn C.qx C.re C.cu C.go C.ra C.ro C.fi),aG A n c,r,W] w (ame w):=by
 have P:=aJ w (aS (jC C.qn C.qx C.re C.cu C.go C.ra C.ro C.fi) 23);obtain⟨M,L,J,I,H,G,F,E⟩:=C;dsimp only at*;cases R:Ei.may ⟨M,L,J,I,H,G,F,E⟩with
 |false=>
  obtain⟨X,V⟩:=aV (fun w'=>Oj R w') P;go_enter func18,ntmps18;go_wp2_with(go_at_call 39;refine(X _).aQ ?_;rintro S Y);go_ret2;exact⟨_,_,rfl,V.trans (Y.mono V.size)⟩
 |true=>
  obtain⟨X,V⟩:=aV (fun w'=>wu R w') P
  by_cases O:0≤r∧r≤16777216
  ·have D:W<1∨64<W:=by
    rcases h with h|h|h
    ·rw[R]at h;cases h
    ·exact absurd O h
    ·exact h
   have U:=ay (fun w'=>aeJ O w')
   by_cases z:W<1
   ·clear D
    go_enter func18,ntmps18;go_wp2_with(first|(go_at_call 39;refine(X _).aQ ?_;rintro S Y)|(go_at_call 40;refine(U S).mono ?_;rintro e N ⟨B,rfl,Q,T⟩)|fail);go_ret2;have Z:=V.trans (Y.mono V.size);exact⟨_,_,rfl,Z.trans (T.mono Z.size)⟩
   ·have y:64<W:=aj
    go_enter func18,ntmps18;go_wp2_with(first|(go_at_call 39;refine(X _).aQ ?_;rintro S Y)|(go_at_call 40;refine(U S).mono ?_;rintro e N ⟨B,rfl,Q,T⟩)|fail);go_ret2;have Z:=V.trans (Y.mono V.size);exact⟨_,_,rfl,Z.trans (T.mono Z.size)⟩
  ·have U:=ay (fun w'=>akS (r:=r) aj w')
   go_enter func18,ntmps18;go_wp2_with(first|(go_at_call 39;refine(X _).aQ ?_;rintro S Y)|(go_at_call 40;refine(U S).aQ ?_;rintro N rfl)|fail);go_ret2;have Z:=V.trans (Y.mono V.size);exact⟨_,_,rfl,Z⟩
end
theorem uw.lt{w:aK}{K:Cn}{M:xW}{S:Nat→Prop}{d:aI}{f:bZ}{oP:Option fG}{k mb i:Nat}(h:uw w K M k mb S d f oP)(hi:Ox M S k mb i):i<w:=by
 rcases hi with hi|rfl|rfl|rfl|hi|hi|hi|⟨j,hi⟩
 ·exact h.base.disk.lt hi
 ·exact h.job.lt.1
 ·exact h.job.lt.2
 ·exact h.base.box.lt
 ·exact(h.base.tasks.dN hi).2
 ·exact(h.base.made.dN hi).2
 ·exact wP hi.2 h.base.hiw
 ·by_cases Z:j<f.tasks
  ·exact((h.base.tk j Z).d.e.dN hi).2
  ·have X:M.ms.length=f.tasks:=h.base.tasks.len
   rw[dG,IU aj]at hi;obtain⟨q,Y,-⟩:=hi;cases Y
def EP(w:aK)(I:MG)(S:Nat→Prop)(s:oK)(w':aK):Prop:=∃Z,IG w' I Z s∧bQ S w w'∧∀i,Z i→S i∨w.heap.size≤i
section
variable{w w' w1:aK}{I:MG}{S SD:Nat→Prop}{fv fv':cO}{s:oK}{d d':aI}
theorem EP.same(h:IG w I S s)(Z:aP w w'):EP w I S s w':=⟨S,h.keep Z,bQ.of_below Z,fun _ e=>.inl e⟩
theorem SiB.lt'(h:SiB w I S fv):I.sg<w∧∀i,In I.A i→i<w:=⟨h.lt _ h.sg,fun i Z=>h.lt _ (h.sA i Z)⟩
def newS(w:aK)(S:Nat→Prop)(w':aK)(i:Nat):Prop:=S i∨(w.heap.size≤i∧i<w'.heap.size)
theorem SiB.next(h:SiB w I S fv)(U:0<w.heap.size)(X:bF w' I.sg 60 (siA I fv'))(Y:bQ T w w')(V:∀i,T i→¬In I.A i):SiB w' I (newS w S w') fv':=
 ⟨X,h.src.dH Y (fun i Z e=>V i e Z),.inl h.sg,fun i Z=>.inl (h.sA i Z),fun i Z=>Z.elim (fun e=>wP (h.lt i e) Y.size) (fun e=>e.2),fun e=>e.elim h.g0 (fun e=>aj),h.may,h.Zv,h.W⟩
theorem Hr(i:Nat)(h:newS w S w' i):S i∨w≤i:=h.imp id (fun e=>e.1)
theorem CJ(h:SiB w I S fv)(Z:∀i,SD i→S i∧i≠I.sg∧¬In I.A i)(hi:SD i∨w≤i)(Y:i<w'):newS w S w' i∧i≠I.sg∧¬In I.A i:=by
 rcases hi with e|e
 ·obtain⟨X,W,V⟩:=Z i e
  exact⟨.inl X,W,V⟩
 ·exact⟨.inr ⟨e,Y⟩,fun k=>by have:=h.lt'.1;omega,fun k=>by have:=h.lt'.2 i k;omega⟩
end
section
variable{w w':aK}{K:Cn}{SD:Nat→Prop}{d:aI}{W dg n c:Nat}{A:dK}
theorem YO(X:jo K.qn K.qx K.re K.cu K.go K.ra K.ro K.fi=true)(O:1≤W∧W≤64)(S:d.down=true)(h:Dw w dg SD d):
  Calls prog 54 #[aY dg,.agg (jC K.qn K.qx K.re K.cu K.go K.ra K.ro K.fi),aG A n c,W] w (Val w (eP #[aY none,eV 10])):=by
 have R:=aJ w (aS (jC K.qn K.qx K.re K.cu K.go K.ra K.ro K.fi) 23);obtain⟨V,Y⟩:=aV (fun w'=>wu X w') (fun w' (Q:aP w w')=>ab3 (h.keep (bQ.of_below Q) (fun _ _ h=>h)));rw[S]at Y;have T:=ay R;have N:¬(64:Int)<(W:Int):=aj
 have M:¬(W:Int)<1:=aj
 go_enter func54,ntmps54;go_wp2_with(first|(go_at_call 39;refine(V _).aQ ?_;rintro P U;have Z:=T.trans (U.mono T.size))|(go_at_call 90;refine(Y P Z).aQ ?_;rintro L rfl)|fail);go_ret2;exact⟨rfl,Z⟩
end
section
variable{w w':aK}{I:MG}{S:Nat→Prop}{d:aI}{s:oK}{ρ:Nat→Nat}{N:Nat}
theorem akV{n:Int}(Y:n<0∨64<n)(h:IG w I S s):Calls prog 23 #[aY I.sg,n] w fun e w'=>e=bM (eV 3)∧EP w I S s w':=by
 have Z:=ay h
 by_cases X:n<0
 ·clear Y
  go_enter func23,ntmps23;go_wp2;go_ret;exact⟨rfl,EP.same Z (aU _ _)⟩
 ·have W:64<n:=aj
  go_enter func23,ntmps23;go_wp2;go_ret;exact⟨rfl,EP.same Z (aU _ _)⟩
theorem akW{f:bZ}(U:n≤64)(Y:s.f=some f)(h:IG w I S s):Calls prog 23 #[aY I.sg,n] w fun e w'=>e=bM (eV 12)∧EP w I S s w':=by
 have X:=ay h;obtain⟨T,W,Z⟩:=h;obtain⟨-,-,-,-,-,-,-,-,-,-,-,V⟩:=wM W;rw[Y]at Z;obtain⟨M,R,Q,P,O,L,rfl,-,-,-,-,-⟩:=Z;go_enter func23,ntmps23;go_wp2;go_ret;exact⟨rfl,EP.same X (aU _ _)⟩
end
section
variable{w w':aK}{I:MG}{S:Nat→Prop}{d:aI}{s:oK}{ρ:Nat→Nat}{N:Nat}
def ab6(w:aK)(I:MG)(S:Nat→Prop)(W:Nat)(d:aI)(e:Ending)(w':aK):Prop:=
 ∃l,Es d l∧(∀x∈l,x<36)∧l.length≤36∧∃v p,e=bM v∧ErV w' p (dR I.X d l).2.2.2 v∧((dR I.X d l).2.2.2≠0→p=[(⟨#[102,97,114,109]⟩,(dR I.X d l).2.2.1)])∧
  EP w I S ⟨(dR I.X d l).1,if(dR I.X d l).2.2.2=0 then some ⟨(dR I.X d l).2.1,List.replicate W aX.zero,[],false⟩else none⟩ w'
theorem EM(h:bF w I.sg 60 (siA I V)):aN w I.sg 0 (aB I.K.qn)∧aN w I.sg 1 (aB I.K.qx)∧aN w I.sg 2 (aB I.K.re)∧aN w I.sg 3 (aB I.K.cu)∧aN w I.sg 4 (aB I.K.go)∧aN w I.sg 5 (aB I.K.ra)∧aN w I.sg 6 (aB I.K.ro)∧aN w I.sg 7 (aB I.K.fi)∧aN w I.sg 8 (aG I.A I.n I.c)∧aN w I.sg 10 (aY I.dg)∧aN w I.sg 11 V∧w.frozen? (aH I.sg 11)=false:=
 ⟨h.at rfl,h.at rfl,h.at rfl,h.at rfl,h.at rfl,h.at rfl,h.at rfl,h.at rfl,h.at rfl,h.at rfl,h.at rfl,h.frozen 11⟩
theorem ai4(L:s.f=none)(J:s.d.down=true)(h:IG w I S s):Calls prog 23 #[aY I.sg,aB 0] w fun e w'=>e=bM (eV 10)∧EP w I S s w':=by
 have H:=ay h;obtain⟨fv,V,M⟩:=h;rw[L]at M;obtain⟨rfl,G,F,E⟩:=M;obtain⟨D,C,B,z,y,x,v,u,t,a9,T,qa⟩:=wM V;have r:=ay V;have qe:¬G I.sg:=fun e=>(E _ e).2.1 rfl
 have R:=ay (fun w' (q:aP w w')=>YO (n:=I.n) (c:=I.c) (A:=I.A) V.may V.W J (F.keep (bQ.of_below (S:=fun _=>False) q) (fun _ _ h=>h)));have U:=(aU w w).drew;have Y:=V.box.keep (aU _ _).drew;obtain⟨p,o,b2,m,b4,l,k,j,i,Q,-,-⟩:=EM Y;go_enter func23,ntmps23;go_upto_region 7 with(fail)
 go_region_held3(fun W=>aN W I.sg 0 (aB I.K.qn)∧aN W I.sg 1 (aB I.K.qx)∧aN W I.sg 2 (aB I.K.re)∧aN W I.sg 3 (aB I.K.cu)∧aN W I.sg 4 (aB I.K.go)∧aN W I.sg 5 (aB I.K.ra)∧aN W I.sg 6 (aB I.K.ro)∧aN W I.sg 7 (aB I.K.fi)∧aN W I.sg 8 (aG I.A I.n I.c)∧aN W I.sg 10 (aY I.dg))
  (first|with_reducible exact⟨D,C,B,z,y,x,v,u,t,T⟩|with_reducible exact⟨p,o,b2,m,b4,l,k,j,i,Q⟩|with_reducible exact⟨g,b,a,v3,v4,v5,v6,v7,v8,P⟩|fail)
  (first
    |(go_at_call 54;refine(R w.drew U).aQ ?_;rintro w2 O;rw[show eV 10=Value.iface 48 (.int .i64 10)from rfl];have X:=U.trans O;have Z:=r.box.keep X;obtain⟨g,b,a,v3,v4,v5,v6,v7,v8,P,-,-⟩:=EM Z)
    |fail)
 go_wp2;go_ret;exact⟨rfl,EP.same H X⟩
theorem WZ(hf:s.f=none)(hu:s.d.down=false)(j:bY I.X ρ s.d)(g:aZ s.d N)(hN:N≤700000)(b:I.n≤100000000)(D:Gl w)(h:IG w I S s):
  Calls prog 23 #[aY I.sg,aB 0] w (ab6 w I S I.W s.d):=by
 obtain⟨fv,R,h2⟩:=h;rw[hf]at h2;obtain⟨rfl,p,hd,o⟩:=h2;obtain⟨a0,a1,a2,a3,a4,a5,a6,a7,a8,a9,a,qC⟩:=wM R;have P:=ay R;have qa:¬p I.sg:=fun e=>(o _ e).2.1 rfl
 obtain⟨qe,V,qf⟩:=dB qa o (fun w' (m:aP w w')=>aeI R.may R.W hu j g hN R.Zv b R.src.cap (D.keep m) (fun e=>R.g0 (o _ e).1) (R.src.lb.keep m) (fun i U e=>(o i e).2.2 U) (fun i U=>wP (R.lt'.2 i U) m.size) (hd.keep (bQ.of_below m) (fun _ _ h=>h)));have qg:=(aU w w).drew;have Y:=R.box.keep (aU _ _).drew;obtain⟨b0,b1,b2,b3,b4,b5,b6,b7,b8,qh,-,-⟩:=EM Y;have C:=ay (lt_of_cell D);generalize qD:s.d=d at*;go_enter func23,ntmps23;go_upto_region 7 with(fail)
 go_region_held3(fun W=>aN W I.sg 0 (aB I.K.qn)∧aN W I.sg 1 (aB I.K.qx)∧aN W I.sg 2 (aB I.K.re)∧aN W I.sg 3 (aB I.K.cu)∧aN W I.sg 4 (aB I.K.go)∧aN W I.sg 5 (aB I.K.ra)∧aN W I.sg 6 (aB I.K.ro)∧aN W I.sg 7 (aB I.K.fi)∧aN W I.sg 8 (aG I.A I.n I.c)∧aN W I.sg 10 (aY I.dg))
  (first|with_reducible exact⟨a0,a1,a2,a3,a4,a5,a6,a7,a8,a⟩|with_reducible exact⟨b0,b1,b2,b3,b4,b5,b6,b7,b8,qh⟩|with_reducible exact⟨v0,v1,v2,v3,v4,v5,v6,v7,v8,qi⟩|fail)
  (first
    |(go_at_call 54;refine(qf w.drew qg).mono ?_;rintro e G qj;obtain⟨l,qk,t,ql,qE,v2,p2,rfl,L,r,qm,qo,qq⟩:=qj;have B:bQ p w G:=((bQ.refl p w).drew).trans qq;have Z:=P.box.dH B qe;obtain⟨v0,v1,v2,v3,v4,v5,v6,v7,v8,qi,qF,qG⟩:=EM Z)
    |fail)
 obtain⟨HZ,J,z,O,y,q,qr,qs⟩:=GI Z B qk t ql r qm qo;have qt:=ay L
 by_cases F:(dR I.X d l).2.2.2=0
 ·obtain rfl:=L.1 F
  obtain⟨M,jg,mb,Q,oP,tb,rfl,hM,qu,qv,hA,qw⟩:=qr F;obtain⟨E,x,qy,qz⟩:=jH F qu qw qv;go_wp2;go_ret;have H:bQ (fun i=>i=I.sg) G (G.setCell ⟨I.sg,11,none⟩ (aY M.fg)):=(bQ.refl (fun i=>i=I.sg) G).setCell (fun _=>rfl) _;have v:bQ (fun i=>p i∨i=I.sg) w (G.setCell ⟨I.sg,11,none⟩ (aY M.fg)):=(J.mono (fun _ _ e=>.inl e)).trans (H.mono (fun _ _ e=>.inr e));have u:∀i,Ox M Q jg mb i→newS w S (G.setCell ⟨I.sg,11,none⟩ (aY M.fg)) i∧i≠I.sg∧¬In I.A i:=fun i U=>CJ P V (qy i U) (wP (x.lt U) H.size)
  refine⟨l,z,O,y,_,[],rfl,⟨fun _=>rfl,fun k=>absurd E k⟩,fun k=>absurd E k,_,⟨_,P.next C (HZ.store 11 (aY M.fg)) v (fun i e k=>?_),?_⟩,v.mono (fun i _ e=>e.elim (fun e=>(V i e).1) (fun e=>by rw[e];exact P.sg)),Hr⟩
  ·rcases e with e|rfl
   ·exact(V i e).2.2 k
   ·exact uq P.src.e P.box bn k
  ·rw[aF E.out]
   exact⟨M,jg,mb,Q,oP,tb,rfl,hM,x.dH H (fun i U e=>(u i U).2.1 e),qz,hA,u⟩
 ·obtain⟨T,xx,rfl⟩:=(L.2 F).iface
  obtain⟨rfl,qA⟩:=q F;obtain⟨E,qB⟩:=aV F qA;go_wp2;go_ret;obtain⟨Q,k1,k2⟩:=qs;refine⟨l,z,O,y,_,p2,rfl,qt,fun _=>qB,_,⟨_,P.next C HZ J (fun i e k=>(V i e).2.2 k),?_⟩,J.mono (fun i _ e=>(V i e).1),Hr⟩;rw[au E];exact⟨rfl,Q,k1,fun i U=>CJ P V (k2 i U) (k1.lt U)⟩
theorem ai5(L:1≤n∧n≤64)(J:s.f=none)(H:s.d.down=true)(h:IG w I S s):Calls prog 23 #[aY I.sg,n] w fun e w'=>e=bM (eV 10)∧EP w I S s w':=by
 have G:=ay h;obtain⟨fv,U,M⟩:=h;rw[J]at M;obtain⟨rfl,F,E,D⟩:=M;obtain⟨C,B,z,y,x,v,u,t,r,a9,T,qa⟩:=wM U;have q:=ay U;have qe:¬F I.sg:=fun e=>(D _ e).2.1 rfl
 have R:=ay (fun w' (p:aP w w')=>YO (n:=I.n) (c:=I.c) (A:=I.A) U.may L H (E.keep (bQ.of_below (S:=fun _=>False) p) (fun _ _ h=>h)));have V:=(aU w w).drew;have Y:=U.box.keep (aU _ _).drew;obtain⟨o,m,b2,l,b4,k,j,i,g,Q,-,-⟩:=EM Y;go_enter func23,ntmps23;go_upto_region 7 with(fail)
 go_region_held3(fun W=>aN W I.sg 0 (aB I.K.qn)∧aN W I.sg 1 (aB I.K.qx)∧aN W I.sg 2 (aB I.K.re)∧aN W I.sg 3 (aB I.K.cu)∧aN W I.sg 4 (aB I.K.go)∧aN W I.sg 5 (aB I.K.ra)∧aN W I.sg 6 (aB I.K.ro)∧aN W I.sg 7 (aB I.K.fi)∧aN W I.sg 8 (aG I.A I.n I.c)∧aN W I.sg 10 (aY I.dg))
  (first|with_reducible exact⟨C,B,z,y,x,v,u,t,r,T⟩|with_reducible exact⟨o,m,b2,l,b4,k,j,i,g,Q⟩|with_reducible exact⟨b,a,v2,v3,v4,v5,v6,v7,v8,P⟩|fail)
  (first
    |(go_at_call 54;refine(R w.drew V).aQ ?_;rintro w2 O;rw[show eV 10=Value.iface 48 (.int .i64 10)from rfl];have X:=V.trans O;have Z:=q.box.keep X;obtain⟨b,a,v2,v3,v4,v5,v6,v7,v8,P,-,-⟩:=EM Z)
    |fail)
 go_wp2;go_ret;exact⟨rfl,EP.same G X⟩
theorem ai6(hn:1≤n∧n≤64)(hf:s.f=none)(hu:s.d.down=false)(j:bY I.X ρ s.d)(g:aZ s.d N)(hN:N≤700000)(b:I.n≤100000000)(D:Gl w)(h:IG w I S s):
  Calls prog 23 #[aY I.sg,n] w (ab6 w I S n s.d):=by
 obtain⟨fv,R,h2⟩:=h;rw[hf]at h2;obtain⟨rfl,p,hd,o⟩:=h2;obtain⟨a0,a1,a2,a3,a4,a5,a6,a7,a8,a9,a,qC⟩:=wM R;have P:=ay R;have qa:¬p I.sg:=fun e=>(o _ e).2.1 rfl
 obtain⟨qe,V,qf⟩:=dB qa o (fun w' (m:aP w w')=>aeI R.may hn hu j g hN R.Zv b R.src.cap (D.keep m) (fun e=>R.g0 (o _ e).1) (R.src.lb.keep m) (fun i U e=>(o i e).2.2 U) (fun i U=>wP (R.lt'.2 i U) m.size) (hd.keep (bQ.of_below m) (fun _ _ h=>h)));have qg:=(aU w w).drew;have Y:=R.box.keep (aU _ _).drew;obtain⟨b0,b1,b2,b3,b4,b5,b6,b7,b8,qh,-,-⟩:=EM Y;have C:=ay (lt_of_cell D);generalize qD:s.d=d at*;go_enter func23,ntmps23;go_upto_region 7 with(fail)
 go_region_held3(fun W=>aN W I.sg 0 (aB I.K.qn)∧aN W I.sg 1 (aB I.K.qx)∧aN W I.sg 2 (aB I.K.re)∧aN W I.sg 3 (aB I.K.cu)∧aN W I.sg 4 (aB I.K.go)∧aN W I.sg 5 (aB I.K.ra)∧aN W I.sg 6 (aB I.K.ro)∧aN W I.sg 7 (aB I.K.fi)∧aN W I.sg 8 (aG I.A I.n I.c)∧aN W I.sg 10 (aY I.dg))
  (first|with_reducible exact⟨a0,a1,a2,a3,a4,a5,a6,a7,a8,a⟩|with_reducible exact⟨b0,b1,b2,b3,b4,b5,b6,b7,b8,qh⟩|with_reducible exact⟨v0,v1,v2,v3,v4,v5,v6,v7,v8,qi⟩|fail)
  (first
    |(go_at_call 54;refine(qf w.drew qg).mono ?_;rintro e G qj;obtain⟨l,qk,t,ql,qE,v2,p2,rfl,L,r,qm,qo,qq⟩:=qj;have B:bQ p w G:=((bQ.refl p w).drew).trans qq;have Z:=P.box.dH B qe;obtain⟨v0,v1,v2,v3,v4,v5,v6,v7,v8,qi,qF,qG⟩:=EM Z)
    |fail)
 obtain⟨HZ,J,z,O,y,q,qr,qs⟩:=GI Z B qk t ql r qm qo;have qt:=ay L
 by_cases F:(dR I.X d l).2.2.2=0
 ·obtain rfl:=L.1 F
  obtain⟨M,jg,mb,Q,oP,tb,rfl,hM,qu,qv,hA,qw⟩:=qr F;obtain⟨E,x,qy,qz⟩:=jH F qu qw qv;go_wp2;go_ret;have H:bQ (fun i=>i=I.sg) G (G.setCell ⟨I.sg,11,none⟩ (aY M.fg)):=(bQ.refl (fun i=>i=I.sg) G).setCell (fun _=>rfl) _;have v:bQ (fun i=>p i∨i=I.sg) w (G.setCell ⟨I.sg,11,none⟩ (aY M.fg)):=(J.mono (fun _ _ e=>.inl e)).trans (H.mono (fun _ _ e=>.inr e));have u:∀i,Ox M Q jg mb i→newS w S (G.setCell ⟨I.sg,11,none⟩ (aY M.fg)) i∧i≠I.sg∧¬In I.A i:=fun i U=>CJ P V (qy i U) (wP (x.lt U) H.size)
  refine⟨l,z,O,y,_,[],rfl,⟨fun _=>rfl,fun k=>absurd E k⟩,fun k=>absurd E k,_,⟨_,P.next C (HZ.store 11 (aY M.fg)) v (fun i e k=>?_),?_⟩,v.mono (fun i _ e=>e.elim (fun e=>(V i e).1) (fun e=>by rw[e];exact P.sg)),Hr⟩
  ·rcases e with e|rfl
   ·exact(V i e).2.2 k
   ·exact uq P.src.e P.box bn k
  ·rw[aF E.out]
   exact⟨M,jg,mb,Q,oP,tb,rfl,hM,x.dH H (fun i U e=>(u i U).2.1 e),qz,hA,u⟩
 ·obtain⟨T,xx,rfl⟩:=(L.2 F).iface
  obtain⟨rfl,qA⟩:=q F;obtain⟨E,qB⟩:=aV F qA;go_wp2;go_ret;obtain⟨Q,k1,k2⟩:=qs;refine⟨l,z,O,y,_,p2,rfl,qt,fun _=>qB,_,⟨_,P.next C HZ J (fun i e k=>(V i e).2.2 k),?_⟩,J.mono (fun i _ e=>(V i e).1),Hr⟩;rw[au E];exact⟨rfl,Q,k1,fun i U=>CJ P V (k2 i U) (k1.lt U)⟩
end
def II(W:Nat):aO:=(List.range W).map fun i:Nat=>(i:Int)
def vC(W n:Nat):aO:=(List.replicate n (II W)).flatten
theorem MH(W n:Nat):vC W (n+1)=II W++vC W n:=by unfold vC;rw[List.replicate_succ];rfl
theorem aas(h:j<W):(II W).drop j=(j:Int)::(II W).drop (j+1):=by
 unfold II;rw[lY (by simpa using h)];simp
theorem ab7(W:Nat):(II W).drop W=[]:=iU (by simp[II])
theorem UE(X:bI)(d:aI)(f:bZ)(w:Int)(l:aO):iV X d f (w::l)=if(eF X d f w).2.2=10 then eF X d f w else iV X (eF X d f w).1 (eF X d f w).2.1 l:=rfl
theorem amf(d:Int)(w:aK):Calls prog 47 #[iI,.iface 48 d] w fun e Z=>e=bM (.bool false)∧w=Z:=by
 have Y:=fun y=>run_eql_iface_nil_left (P:=prog) w 48 y underlying32
 go_enter func47,ntmps47;go_wp2;go_ret;exact sD
section
variable{w w' w1 w2:aK}{I:MG}{S S1:Nat→Prop}{d:aI}{f:bZ}{s s1 s2:oK}{N W:Nat}
theorem EP.comp(Z:bQ S w w1)(Y:∀i,S1 i→S i∨w≤i)(h:EP w1 I S1 s2 w2):EP w I S s2 w2:=by
 obtain⟨X,V,U,T⟩:=h;exact⟨X,V,Z.step U (fun i R e=>(Y i e).elim id (fun k=>absurd R aj)),fun i e=>(T i e).elim (Y i) (fun k=>.inr (dD Z.size k))⟩
def aeL(w:aK)(I:MG)(S:Nat→Prop)(r:aI × bZ × Int)(e:Ending)(w':aK):Prop:=∃v p,e=bM v∧ErV w' p r.2.2 v∧EP w I S ⟨r.1,some r.2.1⟩ w'
structure SiP(w:World)(I:MG)(S:Nat→Prop)(d:aI)(f:bZ)(fg:Nat):Prop where
 cell:aN w I.sg 11 (BG fg)
 wk:Calls prog 55 #[BG fg] w fun e w'=>e=bM (aB (f.tasks.length:Nat))∧w=w'
 pick:∀wi:Int,Calls prog 21 #[BG fg,aB wi] w (aeL w I S (eF I.X d f wi))
theorem UZ(E:0<w.heap.size)(D:kH I.X d f W N)(C:W≤64)(B:N≤800000)(h:IG w I S ⟨d,some f⟩):∃A,SiP w I S d f A:=by
 obtain⟨m,Z,M,Q,P,z,y,x,rfl,u,O,L,K,Y⟩:=h;obtain⟨-,-,-,-,-,-,-,-,-,-,-,U⟩:=wM Z;refine⟨M.fg,U,Ui O,fun J=>(aiV L D C B K (wi:=J) O).mono ?_⟩;rintro e w' ⟨⟨p,v,rfl,t⟩,H,T,G,r,q,o,V,n⟩;have R:¬Ox M z Q P I.sg:=fun e=>(Y _ e).2.1 rfl
 refine⟨v,p,rfl,t,newS w S w',⟨aY H.fg,?_,H,Q,P,T,y,x,rfl,q.trans u,G,L,o.trans K,fun i F=>CJ Z Y (n i F) (G.lt F)⟩,V.mono (fun i _ e=>(Y i e).1),Hr⟩;rw[r];exact Z.next E (Z.box.dH V R) V (fun i e k=>(Y i e).2.2 k)
theorem ab8(hn:n≤1000)(q:Gl w)(hX:I.X.ok)(hb:I.X.Si)(hB:kH I.X d f W N)(hW:W≤64)(hN:N+2*(W*n)≤790000)(h:IG w I S ⟨d,some f⟩):
  Calls prog 26 #[aY I.sg,n] w (aeL w I S (iV I.X d f (vC W n))):=by
 have B:=ay (lt_of_cell q);obtain⟨fg,hp⟩:=UZ B hB hW aj h;have o:=hp.cell;have g1:¬(1000:Int)<(n:Int):=aj
 have g2:¬(n:Int)<0:=aj
 have qf:=ay (fun i=>MH W i);have qg:Hid (vC W 0=[]):=ay rfl;generalize l:iV I.X d f (vC W n)=RR;change Hid _ at hX hb hB hN h l;clear q hp;go_enter func26,ntmps26;go_wp2_with fail
 go_loopg [5,6,23] n (fun k v5 v6 qh wr=>∃(i:Nat) (F:aI) (E:bZ),i+k=n∧qh=i∧EP w I S ⟨F,some E⟩ wr∧kH I.X F E W (N+2*(W*i))∧Hid (RR=iV I.X F E (vC W k)))
 case atStart=>exact⟨0,d,f,aj,rfl,EP.same h (aU _ _),hB,ay l.symm⟩
 case round=>
  obtain⟨i,F,E,hi,rfl,A,J,L⟩:=hrel;obtain⟨Sr,Y,Z,V⟩:=A;have R:=wP B Z.size
  by_cases qt:i<n
  ·have qr:(i:Int)<(n:Int):=aj
   obtain⟨m,rfl⟩:∃m,gk=m+1:=⟨gk-1,aj⟩
   have hm:W*i+W≤W*n:=by
    have:=Nat.mul_le_mul_left W (aj:i+1≤n);rw[Nat.mul_succ]at this;exact this
   have qi:=hN.out;have qj:Hid (W*(i+1)=W*i+W):=ay (Nat.mul_succ _ _);generalize hP:W*i=P at*;generalize qu:W*n=PN at*;obtain⟨qv,z⟩:=UZ R J hW aj Y;have o:=z.cell;have g:=ay z.wk;rw[J.tasks]at g;rw[qf m]at L;obtain⟨y,x⟩:=aV L.out (show EP w I S ⟨F,some E⟩ wr from⟨Sr,Y,Z,V⟩);have qk:Hid (N+2*(P+W)≤790000):=ay aj;change Hid _ at J;clear L Y Z V z R hm qi;go_wp2_with(first|(go_at_call 55;refine g.aQ ?_;rintro w2 rfl)|fail)
   go_loopg [5,6,30] W (fun k v5 v6 ql wq=>∃(j:Nat) (D:aI) (C:bZ),j+k=W∧ql=j∧EP w I S ⟨D,some C⟩ wq∧kH I.X D C W (N+2*(P+j))∧Hid (RR=iV I.X D C ((II W).drop j++vC W m)))
   case atStart=>exact⟨0,F,E,aj,rfl,x,J,y⟩
   case round=>
    obtain⟨j,D,C,hj,rfl,A,K,U⟩:=hrel;obtain⟨Sq,Y,Z,V⟩:=A;have R:0<wr.heap.size:=wP B Z.size
    by_cases qm:j<W
    ·have qs:(j:Int)<(W:Int):=aj
     rw[aas qm,List.cons_append,UE]at U;obtain⟨qw,G⟩:=UZ R K hW (by have:=qk.out;omega) Y;have o:=G.cell;have c:=ay (G.pick j);have u:=K.pick hX hb j;obtain⟨b,a⟩:=aV Z V;generalize eF I.X D C j=r at*;have qo:=ay u
     by_cases Q:r.2.2=10
     ·rw[aF Q]at U
      have H:=ay U.out;change Hid _ at Q;clear U Y Z V K G R u;go_upto_region 11 with(first|(go_at_call 21;refine c.mono ?_;rintro e t ⟨v,p,rfl,O,M⟩)|fail)
      have he:=O.2 (by rw[Q];decide);obtain⟨T,xx,rfl⟩:=he.iface;rw[Q]at he;change Hid _ at he O;go_wp2_with(first|(go_at_call 47;refine(Rt (d:=10) _ he).aQ ?_;rintro w4 rfl)|fail);go_ret;rw[H];exact⟨_,p,rfl,O,EP.comp b a M⟩
     ·rw[au Q]at U
      have H:=ay U.out;clear U Y Z V K G R u;have qa:(r.2.2==10)=false:=by rw[oO];exact Q
      change Hid _ at Q qa;go_upto_region 11 with(first|(go_at_call 21;refine c.mono ?_;rintro e t ⟨v,p,rfl,O,M⟩)|fail)
      change Hid _ at O M
      have qq:Hid (Calls prog 47 #[v,.iface 48 (aB 10)] t fun e w'=>e=bM (.bool false)∧t=w'):=ay (by
       by_cases h0:r.2.2=0
       ·rw[O.1 h0];exact amf 10 t
       ·have k:=Rt (d:=10) t (O.2 h0)
        rw[qa]at k;exact k)
      go_wp2_with(first|(go_at_call 47;refine qq.aQ ?_;rintro w4 rfl)|fail);go_roundg(gk-1)
      case measure=>omega
      case rel=>exact⟨j+1,r.1,r.2.1,aj,fA,EP.comp b a M,by have:=qo.out;rw[show N+2*(P+(j+1))=N+2*(P+j)+2 by omega];exact this,H⟩
    ·obtain rfl:j=W:=aj
     rw[ab7,jI]at U;obtain⟨H,qe⟩:=aV U.out (show EP w I S ⟨D,some C⟩ wr from⟨Sq,Y,Z,V⟩);change Hid _ at K;clear U Y Z V R;go_wp2_with fail;go_roundg m
     case measure=>omega
     case rel=>exact⟨i+1,D,C,aj,fA,qe,by rw[qj];exact K,H⟩
  ·obtain rfl:i=n:=aj
   obtain rfl:gk=0:=aj
   rw[qg]at L;obtain⟨y,x⟩:=aV L.out (show EP w I S ⟨F,some E⟩ wr from⟨Sr,Y,Z,V⟩);clear L Y Z V J R;go_wp2_with fail;go_ret;rw[y];exact⟨_,[],rfl,⟨fun _=>rfl,fun k=>absurd rfl k⟩,x⟩
end
section
variable{w w':aK}{I:MG}{S:Nat→Prop}{d:aI}{f:bZ}{o:Option bZ}{s:oK}{N pn pc:Nat}{PA:dK}{pl:aO}
theorem ai7(D:0<w.heap.size)(h:IG w I S ⟨d,o⟩):∃Y,Dw w I.dg Y d∧(∀i,Y i→S i∧i≠I.sg∧¬In I.A i)∧(∀w' U,jh w I.dg Y U w'→EP w I S ⟨U,o⟩ w')∧
  ∀w' U,jh w I.dg Y U w'→(∃v,aN w' I.sg 11 v)∧w'.frozen? (aH I.sg 11)=false∧EP w I S ⟨U,none⟩ (w'.setCell ⟨I.sg,11,none⟩ (aY none)):=by
 obtain⟨p,V,z⟩:=h
 have G:∀Y,Dw w I.dg Y d→(∀i,Y i→S i∧i≠I.sg∧¬In I.A i)→∀w' U,jh w I.dg Y U w'→(∃v,aN w' I.sg 11 v)∧w'.frozen? (aH I.sg 11)=false∧EP w I S ⟨U,none⟩ (w'.setCell ⟨I.sg,11,none⟩ (aY none)):=fun Y J X w' U L=>by
  obtain⟨Q,W,O,H⟩:=L;have T:¬Y I.sg:=fun e=>(X _ e).2.1 rfl
  have Z:=V.box.dH Q T;have K:bQ (fun i=>i=I.sg) w' (w'.setCell ⟨I.sg,11,none⟩ (aY none)):=(bQ.refl (fun i=>i=I.sg) w').setCell (fun _=>rfl) _;have F:bQ (fun i=>Y i∨i=I.sg) w (w'.setCell ⟨I.sg,11,none⟩ (aY none)):=(Q.mono (fun _ _ e=>.inl e)).trans (K.mono (fun _ _ e=>.inr e));have E:∀i,W i→newS w S (w'.setCell ⟨I.sg,11,none⟩ (aY none)) i∧i≠I.sg∧¬In I.A i:=fun i P=>CJ V X (H i P) (wP (O.lt P) K.size)
  refine⟨⟨_,Z.at rfl⟩,Z.frozen 11,_,⟨_,V.next D (Z.store 11 (aY none)) F (fun i e k=>?_),rfl,W,O.keep K (fun i P e=>(E i P).2.1 e),E⟩,F.mono (fun i _ e=>e.elim (fun e=>(X i e).1) (fun e=>by rw[e];exact V.sg)),Hr⟩;rcases e with e|rfl
  ·exact(X i e).2.2 k
  ·exact uq V.src.e V.box bn k
 cases o with
 |none=>
  obtain⟨rfl,Y,J,X⟩:=z;refine⟨Y,J,X,fun w' U L=>?_,G Y J X⟩;obtain⟨Q,W,O,H⟩:=L;have T:¬Y I.sg:=fun e=>(X _ e).2.1 rfl
  exact⟨_,⟨_,V.next D (V.box.dH Q T) Q (fun i e k=>(X i e).2.2 k),rfl,W,O,fun i P=>CJ V X (H i P) (O.lt P)⟩,Q.mono (fun i _ e=>(X i e).1),Hr⟩
 |some f=>
  obtain⟨M,x,u,Y,t,r,rfl,C,y,B,q,X⟩:=z;have J:Dw w I.dg Y d:=by rw[←C];exact y.base.disk
  have R:∀i,Y i→S i∧i≠I.sg∧¬In I.A i:=fun i e=>X i (.inl e)
  refine⟨Y,J,R,fun w' U L=>?_,G Y J R⟩;have Q:=L.1;rw[←C]at L;obtain⟨W,O,H⟩:=y.Dk L;have T:¬Y I.sg:=fun e=>(R _ e).2.1 rfl
  exact⟨_,⟨_,V.next D (V.box.dH Q T) Q (fun i e k=>(R i e).2.2 k),M,x,u,W,t,r,rfl,C,O,B,q,fun i P=>CJ V X (P.disk H) (O.lt P)⟩,Q.mono (fun i _ e=>(R i e).1),Hr⟩
abbrev X8(k n:Int)(PA:dK)(pn pc:Nat):Array cO:=#[aB k,aB n,aG PA pn pc]
theorem EP.from(Z:aP w w1)(h:EP w1 I S s w'):EP w I S s w':=EP.comp (bQ.of_below Z) (fun _ e=>.inl e) h
theorem aoz{k n:Int}(h1:k≠1)(h2:k≠2)(W:k≠3)(V:k≠4)(U:k≠5)(T:k≠6)(h:IG w I S s):Calls prog 9 #[aY I.sg,.agg (X8 k n PA pn pc)] w fun e w'=>e=bM (eV 13)∧EP w I S s w':=by
 obtain⟨R,Z,Y,X⟩:=ES w 36 (X8 k n PA pn pc);obtain⟨Q,P,O⟩:=Y.s3;change Hid _ at X Z h;clear Y;go_enter func9,ntmps9;go_upto_region 1 with(fail)
 change Code.wp _ _ _ _ (w.alloc _);rw[←Z];go_wp2;go_ret;exact⟨rfl,EP.same h X⟩
theorem amg{n:Int}{Q:aK→Ending→aK→Prop}(U:∀Z,aP w Z→Calls prog 23 #[aY I.sg,n] Z (Q Z))(T:∀Z e w',Q Z e w'→∃v,e=bM v)(h:IG w I S s):Calls prog 9 #[aY I.sg,.agg (X8 3 n PA pn pc)] w fun e w'=>∃Z,aP w Z∧Q Z e w':=by
 obtain⟨W,Y,X,V⟩:=ES w 36 (X8 3 n PA pn pc);obtain⟨M,L,K⟩:=X.s3;obtain⟨P,O⟩:=aV (U W V) (fun e w'=>T W e w');change Hid _ at V Y;clear X h U T;go_enter func9,ntmps9;go_upto_region 1 with(fail)
 change Code.wp _ _ _ _ (w.alloc _);rw[←Y];go_wp2_with(go_at_call 23;refine P.mono ?_;rintro e J R;obtain⟨v,rfl⟩:=O _ _ R);go_ret;exact⟨W,V,R⟩
theorem ano{n:Int}{Q:aK→Ending→aK→Prop}(U:∀Z,aP w Z→Calls prog 26 #[aY I.sg,n] Z (Q Z))(T:∀Z e w',Q Z e w'→∃v,e=bM v)(h:IG w I S s):Calls prog 9 #[aY I.sg,.agg (X8 6 n PA pn pc)] w fun e w'=>∃Z,aP w Z∧Q Z e w':=by
 obtain⟨W,Y,X,V⟩:=ES w 36 (X8 6 n PA pn pc);obtain⟨M,L,K⟩:=X.s3;obtain⟨P,O⟩:=aV (U W V) (fun e w'=>T W e w');change Hid _ at V Y;clear X h U T;go_enter func9,ntmps9;go_upto_region 1 with(fail)
 change Code.wp _ _ _ _ (w.alloc _);rw[←Y];go_wp2_with(go_at_call 26;refine P.mono ?_;rintro e J R;obtain⟨v,rfl⟩:=O _ _ R);go_ret;exact⟨W,V,R⟩
theorem alo{n:Int}(V:s.f=none)(h:IG w I S s):Calls prog 9 #[aY I.sg,.agg (X8 1 n PA pn pc)] w fun e w'=>e=bM (eV 12)∧EP w I S s w':=by
 obtain⟨Q,Z,Y,X⟩:=ES w 36 (X8 1 n PA pn pc);have W:=h.keep X;obtain⟨P,O,M⟩:=Y.s3;obtain⟨L,U,T⟩:=W;obtain⟨-,-,-,-,-,-,-,-,-,-,-,R⟩:=wM U;rw[V]at T;obtain⟨rfl,-⟩:=T;change Hid _ at X Z h;clear Y U V;go_enter func9,ntmps9;go_upto_region 1 with(fail)
 change Code.wp _ _ _ _ (w.alloc _);rw[←Z];go_wp2;go_ret;exact⟨rfl,EP.same h X⟩
theorem anp{n:Int}(K:0<w.heap.size)(M:kH I.X d f W N)(J:W≤64)(H:N≤800000)(h:IG w I S ⟨d,some f⟩):Calls prog 9 #[aY I.sg,.agg (X8 1 n PA pn pc)] w (aeL w I S (eF I.X d f n)):=by
 obtain⟨G,Y,V,L⟩:=ES w 36 (X8 1 n PA pn pc);obtain⟨D,C,B⟩:=V.s3;have Z:=L.drew;obtain⟨F,U⟩:=UZ (wP K Z.size) M J H (h.keep Z);have E:G.cell? (aH I.sg 11)=some (aY F):=U.cell;have T:=ay (U.pick n);generalize eF I.X d f n=R at*;change Hid _ at Y;clear L V h U M;go_enter func9,ntmps9;go_upto_region 1 with(fail)
 change Code.wp _ _ _ _ (w.alloc _);rw[←Y];go_upto_region 6 with(fail)
 go_region_law(first|(go_simp;go_at_call 21;refine T.mono ?_;rintro e A Q;obtain⟨v,p,rfl,P,O⟩:=Q)|fail)
 all_goals(go_wp2;go_ret;exact⟨v,p,rfl,P,EP.from Z O⟩)
theorem aoA{n:Int}(O:n≤9223372036854775807)(M:0<w.heap.size)(h:IG w I S ⟨d,o⟩):Calls prog 9 #[aY I.sg,.agg (X8 4 n PA pn pc)] w fun e w'=>e=bM iI∧EP w I S ⟨d.arm n,o⟩ w':=by
 obtain⟨L,Y,V,R⟩:=ES w 36 (X8 4 n PA pn pc);obtain⟨F,E,D⟩:=V.s3;have Z:=R.drew;have X:=wP M Z.size;obtain⟨C,Q,K,W,U⟩:=ai7 X (h.keep Z);obtain⟨B,P,J⟩:=h.keep Z;obtain⟨-,-,-,-,-,-,-,-,-,-,G,-⟩:=wM P;have T:=ay (akR O L.drew Q);change Hid _ at Y W;clear R V h Q K U P J X;go_enter func9,ntmps9;go_upto_region 1 with(fail)
 change Code.wp _ _ _ _ (w.alloc _);rw[←Y];go_upto_region 13 with(fail)
 go_region_law(first|(go_simp;go_at_call 24;refine T.aQ ?_;rintro A H)|fail)
 all_goals(go_wp2;go_ret;exact⟨rfl,EP.from Z (W _ _ H)⟩)
theorem aoB{n:Int}(Y:aZ d N)(L:0<w.heap.size)(h:IG w I S ⟨d,o⟩):Calls prog 9 #[aY I.sg,.agg (X8 5 n PA pn pc)] w fun e w'=>e=bM (eV (d.grow n).2)∧EP w I S ⟨(d.grow n).1,o⟩ w':=by
 obtain⟨K,X,U,P⟩:=ES w 36 (X8 5 n PA pn pc);obtain⟨E,D,C⟩:=U.s3;have Z:=P.drew;have W:=wP L Z.size;obtain⟨B,O,J,V,T⟩:=ai7 W (h.keep Z);obtain⟨A,M,H⟩:=h.keep Z;obtain⟨-,-,-,-,-,-,-,-,-,-,F,-⟩:=wM M;have Q:=ay (ai1 (n:=n) Y K.drew O);generalize d.grow n=R at*;change Hid _ at X V;clear P U h O J T M H W Y;go_enter func9,ntmps9;go_upto_region 1 with(fail)
 change Code.wp _ _ _ _ (w.alloc _);rw[←X];go_upto_region 15 with(fail)
 go_region_law(first|(go_simp;go_at_call 25;refine Q.aQ ?_;rintro z G)|fail)
 all_goals(go_wp2;go_ret;exact⟨rfl,EP.from Z (V _ _ G)⟩)
theorem aoC{n:Int}(K:fZ d)(Y:aZ d N)(D:N≤900000)(X:∀v∈pl,-9223372036854775808≤v∧v≤9223372036854775807)(J:Ls w PA pn pl)(W:0<pn→∀i,In PA i→¬S i)(C:0<w.heap.size)(h:IG w I S ⟨d,o⟩):Calls prog 9 #[aY I.sg,.agg (X8 2 n PA pn pc)] w fun e w'=>e=bM iI∧∃R,FM d R∧EP w I S ⟨R,none⟩ w':=by
 obtain⟨B,V,Q,H⟩:=ES w 36 (X8 2 n PA pn pc);obtain⟨q,p,m⟩:=Q.s3;have Z:=H.drew;have U:=wP C Z.size;obtain⟨l,G,F,P,T⟩:=ai7 U (h.keep Z);obtain⟨k,E,A⟩:=h.keep Z;obtain⟨-,-,-,-,-,-,-,-,-,-,u,-⟩:=wM E;have O:=ay (agn (pc:=pc) K Y D X B.drew G (J.keep Z) (fun z i y e=>W z i y (F i e).1));change Hid _ at V T;clear H Q h G F P E A U Y K J W X;go_enter func9,ntmps9;go_upto_region 1 with(fail)
 change Code.wp _ _ _ _ (w.alloc _);rw[←V];go_upto_region 8 with(fail)
 go_region_law(first|(go_simp;go_at_call 22;refine O.aQ ?_;rintro j ⟨R,M,x⟩;obtain⟨⟨g,t⟩,r,L⟩:=T _ _ x)|fail)
 all_goals(go_wp2;go_ret;exact⟨rfl,R,M,EP.from Z L⟩)
end
end
end Go.Proofs.YtiaeohgghaaciaaGreatDoor
