import Derived.Shelf.SlMaps.Clone
import Derived.Shelf.SortM.Plain
import Derived.Test.YtiaeohgghaaciaaGreatDoorB14
namespace Go.Proofs.YtiaeohgghaaciaaGreatDoor
open Go Go.Maps Go.RowKit Go.Extern.Stop Go.Stop Go.Extern Go.Proofs.Tryz
set_option linter.all false
set_option maxRecDepth 100000
set_option maxHeartbeats 4000000
section
variable{l:List Int}{c g j m mb n:Nat}{A:Option Addr}
theorem get_any(Z:4≤n)(Y:dV l)(w:aK)(h:Lb w A n l):Calls prog 97 #[aG A n c] w fun e X=>e=bM (yw l 0)∧∃m,X=w.drewN m:=by
 obtain⟨b,o,rfl,-⟩:=h.at_ (i:=0) aj;exact alS Z Y w h
theorem Ou{k:Int}(V:48≤k∧k≤51)(X:Qk k=n)(w:aK):Calls prog 96 #[F7 ⟨k,0,0,0,0⟩] w fun e Z=>∃B b,e=bM (aG B n b)∧aP w Z:=by
 subst X;obtain rfl|rfl|rfl|rfl:k=48∨k=49∨k=50∨k=51:=aj
 ·exact(UR (.start 0 0 aj aj) w).mono fun e Z h=>by obtain⟨B,b,rfl,-,h⟩:=h;exact⟨B,b,rfl,h⟩
 ·exact(UR (.done 0 0 0 aj aj aj) w).mono fun e Z h=>by obtain⟨B,b,rfl,-,h⟩:=h;exact⟨B,b,rfl,h⟩
 ·have Y:=(aJ w (aS (Ej ⟨50,0,0,0,0⟩) 68))
  have W:=ay (Y.alloc Y.size (aS #[.int .u8 0] 5));go_enter func96,ntmps96;go_wp2;go_ret;exact⟨_,_,rfl,W⟩
 ·exact(UR (.fin 0 0 aj aj) w).mono fun e Z h=>by obtain⟨B,b,rfl,-,h⟩:=h;exact⟨B,b,rfl,h⟩
theorem V6{p:Int}(l:aO)(h:0≤p∧p≤4294967295):yw (dY p++l) 0=p:=by
 exact D9 h
theorem adl{p x y:Int}{b o:Nat}(hp:1≤p∧p≤15)(w:aK)(hd:Lb w (some (aH b o)) 1 ([p]))(qf:1≤c):
  Calls prog 58 #[.agg (KF 50 (some (aH b o)) 1 c x y)] w (Val w (eP #[F7 ⟨50,0,0,0,p⟩,iI])):=by
 have v:=gU w (aS (KF 50 (some (aH b o)) 1 c x y) 124) (aS Dq 68);have u:=(bF.new w 124 (KF 50 (some (aH b o)) 1 c x y)).alloc (aS Dq 68);have Y:=bF.new1 w (aS (KF 50 (some (aH b o)) 1 c x y) 124) 68 Dq;obtain⟨V,U⟩:=kF ((w.alloc (aS (KF 50 (some (aH b o)) 1 c x y) 124)).alloc (aS Dq 68));have s2:V.heap.size=w+2:=by rw[U];simp
 rw[←U]at v u Y;obtain⟨W3,G,Z,T⟩:=ES V 68 (Ej ⟨50,0,0,0,0⟩);have k0:=u.c0;have t:=u.keep T;have Y3:=Y.keep T;have W:=v.trans (T.mono v.size);obtain⟨HD,HX,HY,HZ,HB,m,l,F⟩:=GI (hd.keep W) t Y3 Z W U G s2;obtain⟨HK,j,h⟩:=dB (fun w=>Kt (k:=50) aj w) (fun w=>Ou (k:=50) (n:=1) aj rfl w) (fun w=>Oq (.fail p hp) w);have x0:=t.c0;have x1:=t.c1;obtain⟨N,M,L,K,J⟩:=gV Z;dsimp only at N M L K J
 have g:b<w:=by
  obtain⟨b',o',e,kk⟩:=hd.at_ (i:=0) aj;injection e with e
  injection e with s e2
  subst s;exact lt_of_cell kk
 clear v T u Y Z t Y3 W hd U G s2 g;go_enter func58,ntmps58;go_upto_region 1 with(fail)
 change Code.wp _ _ _ _ ((w.alloc (aS (KF 50 (some (aH b o)) 1 c x y) 124)).alloc (aS Dq 68));rw[←m];go_upto_region 3 with(go_at_call 95;refine(HK _).aQ ?_;rintro w1 rfl)
 go_upto_region 4 with(fail)
 change Code.wp _ _ _ _ (V.alloc _);rw[←l];clear k0;go_upto_region 10 with(go_at_call 96;refine(j _).mono ?_;rintro e I ⟨B4,b4,rfl,X⟩)
 have X4:=HX.keep X;have x0:=X4.c0;have H:=HZ.keep X;have Y4:=HY.keep X;have E:=HD.keep X;have D:=ay (HB.trans (X.mono HB.size));obtain⟨N,M,L,K,J⟩:=gV H;dsimp only at N M L K J;have f2:=H.frozen 2;have f3:=H.frozen 3;have f4:=H.frozen 4
 have P:∀i,i<1→aN I b (o+i) (.int .u8 (([p]).getD i 0)):=fun i hi=>by
  obtain⟨b',o',e,k⟩:=E.at_ hi;injection e with e
  injection e with s e2
  subst s e2;exact k
 have r:=P 0 aj;rw[dW]at r;have r:aN I b o (.int .u8 p):=r;have qg:IntKind.i64.wrap p=p:=iE _ aj;clear P;go_upto_region 14 with(fail)
 obtain⟨W5,S⟩:=kF ((I.setCell ⟨V,4,none⟩ p));have O:bQ (fun i=>i=V) I W5:=by rw[S];exact((bQ.refl (fun i=>i=V) I).setCell (p:=(aH V 4)) (fun _=>rfl) p)
 have q:bF W5 V 68 (Ej ⟨50,0,0,0,p⟩):=by rw[S];exact(H.store 4 p)
 have Y5:=Y4.dH O (by have:=F.out;omega);have C:=eH D O D.size (fun i hi=>by have:=F.out;omega);change Code.wp _ _ _ _ ((I.setCell ⟨V,4,none⟩ p));rw[←S];obtain⟨N,M,L,K,J⟩:=gV q;dsimp only at N M L K J;obtain⟨f,d,B⟩:=dB q Y5 C;clear O q Y5 C S x0 x1 f2 f3 f4 X4 H Y4 E X;go_upto_region 16 with(go_at_call 98;refine(h _).aQ ?_;rintro w6 R)
 have Z6:=f.keep R;have Q:=d.keep R;obtain⟨v0,v1,v2,v3,v4⟩:=gV Z6;dsimp only at v0 v1 v2 v3 v4;obtain⟨y0,y1,y2,y3,y4⟩:=gV Q;have g0:=Q.frozen 0;have g1:=Q.frozen 1;have g2:=Q.frozen 2;have g3:=Q.frozen 3;have g4:=Q.frozen 4;obtain⟨W9,A,⟨t0,t1,t2,t3,t4⟩,z,a⟩:=Fp (cs:=Dq) rfl (aB (50)) (aB (0)) (aB (0)) (aB (0)) (p) Q (B.trans (R.mono B.size)) aj;obtain⟨qa,qe⟩:=aV z A;clear Z6 Q z A a R N M L K J;go_wp2_with fail;rw[←qe];refine aT (by simp[results,results58,go_sem,t0,t1,t2,t3,t4];rfl) rfl ?_;exact⟨rfl,qa⟩
theorem abw{p q x y:Int}{b o:Nat}(hp:0≤p∧p≤4294967295)(hq:0≤q∧q≤16)(w:aK)(hd:Lb w (some (aH b o)) 5 (dY p++ [q]))(qt:5≤c):
  Calls prog 58 #[.agg (KF 48 (some (aH b o)) 5 c x y)] w (Val w (eP #[F7 ⟨48,p,q,0,0⟩,iI])):=by
 have a:=gU w (aS (KF 48 (some (aH b o)) 5 c x y) 124) (aS Dq 68);have X0:=(bF.new w 124 (KF 48 (some (aH b o)) 5 c x y)).alloc (aS Dq 68);have Y:=bF.new1 w (aS (KF 48 (some (aH b o)) 5 c x y) 124) 68 Dq;obtain⟨X,R⟩:=kF ((w.alloc (aS (KF 48 (some (aH b o)) 5 c x y) 124)).alloc (aS Dq 68));have s2:X.heap.size=w+2:=by rw[R];simp
 rw[←R]at a X0 Y;obtain⟨W3,B,Z,Q⟩:=ES X 68 (Ej ⟨48,0,0,0,0⟩);have k0:=X0.c0;have X3:=X0.keep Q;have Y3:=Y.keep Q;have S:aP w W3:=a.trans (Q.mono a.size);obtain⟨HD,HX,HY,HZ,HB,qa,qe,H⟩:=GI (hd.keep S) X3 Y3 Z S R B s2;obtain⟨HK,qf,qg⟩:=dB (fun w=>Kt (k:=48) aj w) (fun w=>Ou (k:=48) (n:=5) aj rfl w) (fun w=>Oq (.start p q hp hq) w);have qh:Hid (dV (dY p++ [q])):=ay ((jR p).app (by intro v hv;simp at hv;omega));have x0:=X3.c0;have x1:=X3.c1;obtain⟨E,J,I,D,C⟩:=gV Z;dsimp only at E J I D C
 have A:b<w:=by
  obtain⟨b',o',e,kk⟩:=hd.at_ (i:=0) aj;injection e with e
  injection e with e1 e2
  subst e1;exact lt_of_cell kk
 have qi:=ay A;clear a Q X0 Y Z X3 Y3 S hd R B s2 A;go_enter func58,ntmps58;go_upto_region 1 with(fail)
 change Code.wp _ _ _ _ ((w.alloc (aS (KF 48 (some (aH b o)) 5 c x y) 124)).alloc (aS Dq 68));rw[←qa];go_upto_region 3 with(first|(go_at_call 95;refine(HK _).aQ ?_;rintro w1 rfl)|fail)
 go_upto_region 4 with(fail)
 change Code.wp _ _ _ _ (X.alloc _);rw[←qe];clear k0;go_upto_region 10 with(first|(go_at_call 96;refine(qf _).mono ?_;rintro e U ⟨B4,b4,rfl,T⟩)|fail)
 have X4:=HX.keep T;have x0:=X4.c0;have M:=HZ.keep T;have Y4:=HY.keep T;have G:=HD.keep T;have z:=ay (HB.trans (T.mono HB.size));obtain⟨E,J,I,D,C⟩:=gV M;dsimp only at E J I D C;have f1:=M.frozen 1;have f2:=M.frozen 2;have f3:=M.frozen 3;have f4:=M.frozen 4
 have K:∀i,i<5→aN U b (o+i) (.int .u8 ((dY p++ [q]).getD i 0)):=fun i hi=>by
  obtain⟨b',o',e,k⟩:=G.at_ hi;injection e with e
  injection e with e1 e2
  subst e1 e2;exact k
 have q4:aN U b (o+4) (.int .u8 q):=K 4 aj;have qu:IntKind.i64.wrap q=q:=iE _ aj;have qj:=V6 [q] hp;have HG:=ay (fun w' (hw:aP U w')=>get_any (c:=c) aj qh w' (G.keep hw));rw[qj]at HG;have t:¬b=X:=by have:=qi.out;have:=H.out;omega
 have s:=ay M;clear K;go_upto_region 13 with(fail)
 have r:aN U.drew b (o+4) (.int .u8 q):=q4
 go_region_held3(fun W=>aN W b (o+4) (.int .u8 q))
  (first|with_reducible exact q4|with_reducible exact r|with_reducible exact P|with_reducible exact bG P (l _) t|with_reducible exact bG P (j _ _) t|fail)
  (first
    |(go_at_call 97;refine(HG _ (aU _ _).drew).aQ ?_;rintro w5 ⟨m,rfl⟩;have V:aP U (U.drewN (1+m)):=jM (aU _ _) _;have P:=aC q4 V;have u1:=aC J V;have u2:=aC I V;have qk:=(s.out.keep V).frozen 1;have ql:=(s.out.keep V).frozen 2;have l:=fun u=>((bQ.refl (fun i=>i=X) (U.drewN (1+m))).setCell (p:=⟨X,1,none⟩) (fun _=>rfl) u);have j:=fun u v=>(((bQ.refl (fun i=>i=X) (U.drewN (1+m))).setCell (p:=⟨X,1,none⟩) (fun _=>rfl) u).setCell (p:=⟨X,2,none⟩) (fun _=>rfl) v))
    |fail)
 go_upto_region 14 with(fail)
 obtain⟨W5,O⟩:=kF ((((U.drewN (1+m)).setCell ⟨X,1,none⟩ p).setCell ⟨X,2,none⟩ q));have F:bQ (fun i=>i=X) U W5:=by rw[O];exact((((bQ.refl (fun i=>i=X) U).drewN (1+m)).setCell (p:=(aH X 1)) (fun _=>rfl) p).setCell (p:=(aH X 2)) (fun _=>rfl) q)
 have Z5:bF W5 X 68 (Ej ⟨48,p,q,0,0⟩):=by rw[O];exact(((M.keep V).store 1 p).store 2 q)
 have Y5:=Y4.dH F (by have:=H.out;omega);have h:aP w W5:=eH z F z.size (fun i hi=>by have:=H.out;omega);change Code.wp _ _ _ _ ((((U.drewN (1+m)).setCell ⟨X,1,none⟩ p).setCell ⟨X,2,none⟩ q));rw[←O];obtain⟨E,J,I,D,C⟩:=gV Z5;dsimp only at E J I D C;obtain⟨qm,qo,g⟩:=dB Z5 Y5 h;clear q4 r P u1 u2 qk ql l j V F Z5 Y5 h O x0 x1 f1 f2 f3 f4 X4 M Y4 G T;go_upto_region 16 with(first|(go_at_call 98;refine(qg _).aQ ?_;rintro w6 N)|fail)
 have Z6:=qm.keep N;have L:=qo.keep N;obtain⟨v0,v1,v2,v3,v4⟩:=gV Z6;dsimp only at v0 v1 v2 v3 v4;obtain⟨y0,y1,y2,y3,y4⟩:=gV L;have g0:=L.frozen 0;have g1:=L.frozen 1;have g2:=L.frozen 2;have g3:=L.frozen 3;have g4:=L.frozen 4;obtain⟨W9,f,⟨t0,t1,t2,t3,t4⟩,d,qq⟩:=Fp (cs:=Dq) rfl (aB (48)) (p) (q) (aB (0)) (aB (0)) L (g.trans (N.mono g.size)) aj;obtain⟨qr,qs⟩:=aV d f;clear Z6 L d f qq N E J I D C;go_wp2_with fail;rw[←qs];refine aT (by simp[results,results58,go_sem,t0,t1,t2,t3,t4];rfl) rfl ?_;exact⟨rfl,qr⟩
theorem afR{p s x y:Int}{b o:Nat}(hp:0≤p∧p≤4294967295)(hs:0≤s∧s≤16777216)(w:aK)(hd:Lb w (some (aH b o)) 8 (dY s++dY p))(hc:8≤c):
  Calls prog 58 #[.agg (KF 51 (some (aH b o)) 8 c x y)] w (Val w (eP #[F7 ⟨51,p,0,s,0⟩,iI])):=by
 have hb:=gU w (aS (KF 51 (some (aH b o)) 8 c x y) 124) (aS Dq 68);have X0:=(bF.new w 124 (KF 51 (some (aH b o)) 8 c x y)).alloc (aS Dq 68);have Y:=bF.new1 w (aS (KF 51 (some (aH b o)) 8 c x y) 124) 68 Dq;obtain⟨U,R⟩:=kF ((w.alloc (aS (KF 51 (some (aH b o)) 8 c x y) 124)).alloc (aS Dq 68));have s2:U.heap.size=w+2:=by rw[R];simp
 rw[←R]at hb X0 Y;obtain⟨W3,l,Z,Q⟩:=ES U 68 (Ej ⟨51,0,0,0,0⟩);have k0:=X0.c0;have X3:=X0.keep Q;have Y3:=Y.keep Q;have S:=hb.trans (Q.mono hb.size);obtain⟨HD,HX,HY,HZ,HB,qo,qq,F⟩:=GI (hd.keep S) X3 Y3 Z S R l s2;obtain⟨HK,qr,qs,qt⟩:=jH (fun w=>Kt (k:=51) aj w) (fun w=>Ou (k:=51) (n:=8) aj rfl w) (fun w=>Oq (.fin p s hp hs) w) ((jR s).app (jR p));have C:=X3.c0;have x1:=X3.c1;obtain⟨B,H,A,G,z⟩:=gV Z;dsimp only at B H A G z
 have j:b<w:=by
  obtain⟨b',o',e,kk⟩:=hd.at_ (i:=0) aj;injection e with e
  injection e with e1 e2
  subst e1;exact lt_of_cell kk
 have qC:=ay j;clear hb Q X0 Y Z X3 Y3 S hd R l s2 j;go_enter func58,ntmps58;go_upto_region 1 with(fail)
 change Code.wp _ _ _ _ ((w.alloc (aS (KF 51 (some (aH b o)) 8 c x y) 124)).alloc (aS Dq 68));rw[←qo];go_upto_region 3 with(go_at_call 95;refine(HK _).aQ ?_;rintro w1 rfl)
 go_upto_region 4 with(fail)
 change Code.wp _ _ _ _ (U.alloc _);rw[←qq];clear k0;go_upto_region 10 with(first|(go_at_call 96;refine(qr _).mono ?_;rintro e V ⟨B4,b4,rfl,T⟩)|fail)
 have X4:=HX.keep T;have C:=X4.c0;have L:=HZ.keep T;have Y4:=HY.keep T;have P:=HD.keep T;have h:=ay (HB.trans (T.mono HB.size));obtain⟨B,H,A,G,z⟩:=gV L;dsimp only at B H A G z;have f1:=L.frozen 1;have f2:=L.frozen 2;have f3:=L.frozen 3;have f4:=L.frozen 4
 have qm:∀i,i<8→aN V b (o+i) (.int .u8 ((dY s++dY p).getD i 0)):=fun i hi=>by
  obtain⟨b',o',e,k⟩:=P.at_ hi;injection e with e
  injection e with e1 e2
  subst e1 e2;exact k
 obtain⟨hT,g,J⟩:=Lr (i:=4) P hc aj;have g:∀r,(Instr.slice 24 (aG (some (aH b o)) 8 c) (some (aB 4)) none none).run prog r= .ok (aG (some (aH b (o+4))) 4 (c-4)) r:=g;have J:∀r,(Instr.sliceAt 24 (aG (some (aH b o)) 8 c) (some (aB 4)) none none).run prog r= .ok (aG (some (aH b (o+4))) 4 (c-4)) r:=J;have hT:Lb V (some (aH b (o+4))) 4 (dY p++ []):=by rw[gI];exact hT
 have f:=V6 (dY p) (p:=s) aj;have I:=V6 [] hp;obtain⟨HG,d⟩:=aV (fun q (hw:aP V q)=>get_any (c:=c) aj qt q (P.keep hw)) (fun q (hw:aP V q)=>get_any (c:=c-4) aj (by rw[gI];exact jR p) q (hT.keep hw));rw[f]at HG;rw[I]at d;have a:¬w.heap.size=U:=by have:=F.out;omega
 have qa:=ay L;clear hT f I qm;go_upto_region 7 with(fail)
 have qe:aN V.drew w 0 (aB 51):=C
 go_region_held3(fun W=>aN W w 0 (aB 51))
  (first|with_reducible exact C|with_reducible exact qe|with_reducible exact qf|with_reducible exact O|with_reducible exact bG O (qg _) a|with_reducible exact bG O (qh _ _) a|fail)
  (first
    |(go_at_call 97;refine(d _ E).aQ ?_;rintro w5 ⟨t,rfl⟩;have X:aP V (V.drewN (1+m+t)):=jM (aU _ _) _;have O:=aC C X;have u1:=aC H X;have u3:=aC G X;have qu:=(qa.out.keep X).frozen 1;have qv:=(qa.out.keep X).frozen 3;have qg:=fun u=>((bQ.refl (fun i=>i=U) (V.drewN (1+m+t))).setCell (p:=⟨U,3,none⟩) (fun _=>rfl) u);have qh:=fun u v=>(((bQ.refl (fun i=>i=U) (V.drewN (1+m+t))).setCell (p:=⟨U,3,none⟩) (fun _=>rfl) u).setCell (p:=⟨U,1,none⟩) (fun _=>rfl) v))
    |(go_at_call 97;refine(HG _ (aU _ _).drew).aQ ?_;rintro w5 ⟨m,rfl⟩;have E:aP V (V.drewN (1+m)):=jM (aU _ _) _;have qf:=aC C E)
    |fail)
 go_upto_region 14 with(fail)
 obtain⟨W5,N⟩:=kF ((((V.drewN (1+m+t)).setCell ⟨U,3,none⟩ s).setCell ⟨U,1,none⟩ p));have D:bQ (fun i=>i=U) V W5:=by rw[N];exact((((bQ.refl (fun i=>i=U) V).drewN (1+m+t)).setCell (p:=(aH U 3)) (fun _=>rfl) s).setCell (p:=(aH U 1)) (fun _=>rfl) p)
 have Z5:bF W5 U 68 (Ej ⟨51,p,0,s,0⟩):=by rw[N];exact(((L.keep X).store 3 s).store 1 p)
 have Y5:=Y4.dH D (by have:=F.out;omega);have qi:aP w W5:=eH h D h.size (fun i hi=>by have:=F.out;omega);change Code.wp _ _ _ _ ((((V.drewN (1+m+t)).setCell ⟨U,3,none⟩ s).setCell ⟨U,1,none⟩ p));rw[←N];obtain⟨B,H,A,G,z⟩:=gV Z5;dsimp only at B H A G z;obtain⟨qw,qy,qj⟩:=dB Z5 Y5 qi;clear qe qf O u1 u3 qu qv qg qh E X D Z5 Y5 qi N C x1 f1 f2 f3 f4 X4 L Y4 P T;go_upto_region 16 with(first|(go_at_call 98;refine(qs _).aQ ?_;rintro w6 M)|fail)
 have Z6:=qw.keep M;have K:=qy.keep M;obtain⟨v0,v1,v2,v3,v4⟩:=gV Z6;dsimp only at v0 v1 v2 v3 v4;obtain⟨y0,y1,y2,y3,y4⟩:=gV K;have g0:=K.frozen 0;have g1:=K.frozen 1;have g2:=K.frozen 2;have g3:=K.frozen 3;have g4:=K.frozen 4;obtain⟨W9,qk,⟨t0,t1,t2,t3,t4⟩,ql,qz⟩:=Fp (cs:=Dq) rfl (aB (51)) (p) (aB (0)) (s) (aB (0)) K (qj.trans (M.mono qj.size)) aj;obtain⟨qA,qB⟩:=aV ql qk;clear Z6 K ql qk qz M B H A G z;go_wp2_with fail;rw[←qB];refine aT (by simp[results,results58,go_sem,t0,t1,t2,t3,t4];rfl) rfl ?_;exact⟨rfl,qA⟩
theorem adn{p q s x y:Int}{b o:Nat}(hp:0≤p∧p≤4294967295)(hq:0≤q∧q≤15)(hs:0≤s∧s≤16777216)(w:aK)(hd:Lb w (some (aH b o)) 9 (q::(dY s++dY p)))(hc:9≤c):
  Calls prog 58 #[.agg (KF 49 (some (aH b o)) 9 c x y)] w (Val w (eP #[F7 ⟨49,p,q,s,0⟩,iI])):=by
 have hb:=gU w (aS (KF 49 (some (aH b o)) 9 c x y) 124) (aS Dq 68);have X0:=(bF.new w 124 (KF 49 (some (aH b o)) 9 c x y)).alloc (aS Dq 68);have Y:=bF.new1 w (aS (KF 49 (some (aH b o)) 9 c x y) 124) 68 Dq;obtain⟨X,G⟩:=kF ((w.alloc (aS (KF 49 (some (aH b o)) 9 c x y) 124)).alloc (aS Dq 68));have s2:X.heap.size=w+2:=by rw[G];simp
 rw[←G]at hb X0 Y;obtain⟨W3,qf,Z,F⟩:=ES X 68 (Ej ⟨49,0,0,0,0⟩);have k0:=X0.c0;have X3:=X0.keep F;have Y3:=Y.keep F;have L:=hb.trans (F.mono hb.size);obtain⟨HD,HX,HY,HZ,HB,qw,qy,Q⟩:=GI (hd.keep L) X3 Y3 Z L G qf s2;obtain⟨HK,qz,qA⟩:=dB (fun w=>Kt (k:=49) aj w) (fun w=>Ou (k:=49) (n:=9) aj rfl w) (fun w=>Oq (.done p q s hp hq hs) w);have qK:Hid (dV (q::(dY s++dY p))):=ay (by intro v hv;rcases je.1 hv with rfl|hv;omega;exact((jR s).app (jR p)) v hv);have A:=X3.c0;have x1:=X3.c1;obtain⟨z,J,I,H,t⟩:=gV Z;dsimp only at z J I H t
 have qg:b<w:=by
  obtain⟨b',o',e,kk⟩:=hd.at_ (i:=0) aj;injection e with e
  injection e with e1 e2
  subst e1;exact lt_of_cell kk
 have qB:=ay qg;clear hb F X0 Y Z X3 Y3 L hd G qf s2 qg;go_enter func58,ntmps58;go_upto_region 1 with(fail)
 change Code.wp _ _ _ _ ((w.alloc (aS (KF 49 (some (aH b o)) 9 c x y) 124)).alloc (aS Dq 68));rw[←qw];go_upto_region 3 with(go_at_call 95;refine(HK _).aQ ?_;rintro w1 rfl)
 go_upto_region 4 with(fail)
 change Code.wp _ _ _ _ (X.alloc _);rw[←qy];clear k0;go_upto_region 10 with(go_at_call 96;refine(qz _).mono ?_;rintro e K ⟨B4,b4,rfl,P⟩)
 have X4:=HX.keep P;have A:=X4.c0;have f:=HZ.keep P;have Y4:=HY.keep P;have d:=HD.keep P;have qh:=ay (HB.trans (P.mono HB.size));obtain⟨z,J,I,H,t⟩:=gV f;dsimp only at z J I H t;have f1:=f.frozen 1;have f2:=f.frozen 2;have f3:=f.frozen 3;have f4:=f.frozen 4
 have j:∀i,i<9→aN K b (o+i) (.int .u8 ((q::(dY s++dY p)).getD i 0)):=fun i hi=>by
  obtain⟨b',o',e,k⟩:=d.at_ hi;injection e with e
  injection e with e1 e2
  subst e1 e2;exact k
 have q0:=j 0 aj;rw[dW]at q0;have q0:=q0;have qL:IntKind.i64.wrap q=q:=iE _ aj;obtain⟨S,O,T⟩:=Lr (i:=1) d hc aj;have O:=O;have T:∀r,(Instr.sliceAt 24 (aG (some (aH b o)) 9 c) (some (aB 1)) none none).run prog r= .ok (aG (some (aH b (o+1))) 8 (c-1)) r:=T;have S:Lb K (some (aH b (o+1))) 8 (dY s++dY p):=S;have a:aN K.drew b o (.int .u8 q):=q0;have M:=fun u=>((bQ.refl (fun i=>i=X) K.drew).setCell (p:=(aH X 2)) (fun _=>rfl) u)
 have N:¬b=X:=by have:=qB.out;have:=Q.out;omega
 have u2:aN K.drew X 2 (aB 0):=I;have qC:K.drew.frozen? (aH X 2)=false:=f2;clear j;go_upto_region 6 with(fail)
 go_region_held3(fun W=>aN W b o (.int .u8 q))
  (first|with_reducible exact q0|with_reducible exact a|with_reducible exact bG a (M _) N|fail)
  (fail)
 go_upto_region 7 with(fail)
 obtain⟨U,E⟩:=kF (K.drew.setCell ⟨X,2,none⟩ q);have R:bQ (fun i=>i=X) K U:=by rw[E];exact((bQ.refl (fun i=>i=X) K).drew).setCell (p:=(aH X 2)) (fun _=>rfl) q
 have Z7:bF U X 68 (Ej ⟨49,0,q,0,0⟩):=by rw[E];exact((f.keep (aU _ _).drew).store 2 q)
 have Y7:=Y4.dH R (by have:=Q.out;omega);have qi:aP w U:=eH qh R qh.size (fun i hi=>by have:=Q.out;omega);have h:¬w.heap.size=X:=by have:=Q.out;omega
 have A:=bG A R h;have S:Lb U (some (aH b (o+1))) 8 (dY s++dY p):=⟨S.len,S.rd.dH R (fun p hp e=>by injection hp with hp;rw[←hp]at e;exact N e)⟩;change Code.wp _ _ _ _ (K.drew.setCell ⟨X,2,none⟩ q);rw[←E];obtain⟨z,J,I,H,t⟩:=gV Z7;dsimp only at z J I H t;have qj:=ay qi;clear E R qi q0 a M N h u2 qC O T f Y4 d f1 f2 f3 f4 X4 x1 P;obtain⟨hT,O,T⟩:=Lr (i:=4) S (c:=c-1) aj aj;have O:∀r,(Instr.slice 24 (aG (some (aH b (o+1))) 8 (c-1)) (some (aB 4)) none none).run prog r= .ok (aG (some (aH b (o+1+4))) 4 (c-1-4)) r:=O;have T:∀r,(Instr.sliceAt 24 (aG (some (aH b (o+1))) 8 (c-1)) (some (aB 4)) none none).run prog r= .ok (aG (some (aH b (o+1+4))) 4 (c-1-4)) r:=T;have hT:Lb U (some (aH b (o+1+4))) 4 (dY p++ []):=by rw[gI];exact hT
 have qk:=V6 (dY p) (p:=s) aj;have g:=V6 [] hp;obtain⟨HG,ql⟩:=aV (fun w' (hw:aP U w')=>get_any (c:=c-1) aj ((jR s).app (jR p)) w' (S.keep hw)) (fun w' (hw:aP U w')=>get_any (c:=c-1-4) aj (by rw[gI];exact jR p) w' (hT.keep hw));rw[qk]at HG;rw[g]at ql;have N:¬w.heap.size=X:=by have:=Q.out;omega
 have qm:=ay Z7;clear hT qk g S;have qo:aN U.drew w 0 (aB 49):=A
 go_region_held3(fun W=>aN W w 0 (aB 49))
  (first|with_reducible exact A|with_reducible exact qo|with_reducible exact qq|with_reducible exact D|with_reducible exact bG D (M _) N|with_reducible exact bG D (qr _ _) N|fail)
  (first
    |(go_at_call 97;refine(ql _ qa).aQ ?_;rintro w5 ⟨m2,rfl⟩;have V:aP U (U.drewN (1+m+m2)):=jM (aU _ _) _;have D:=aC A V;have u1:=aC J V;have u3:=aC H V;have qD:=(qm.out.keep V).frozen 1;have qE:=(qm.out.keep V).frozen 3;have M:=fun u=>((bQ.refl (fun i=>i=X) (U.drewN (1+m+m2))).setCell (p:=⟨X,3,none⟩) (fun _=>rfl) u);have qr:=fun u v=>(((bQ.refl (fun i=>i=X) (U.drewN (1+m+m2))).setCell (p:=⟨X,3,none⟩) (fun _=>rfl) u).setCell (p:=⟨X,1,none⟩) (fun _=>rfl) v))
    |(go_at_call 97;refine(HG _ (aU _ _).drew).aQ ?_;rintro w5 ⟨m,rfl⟩;have qa:aP U (U.drewN (1+m)):=jM (aU _ _) _;have qq:=aC A qa)
    |fail)
 go_upto_region 14 with(fail)
 obtain⟨W5,C⟩:=kF ((((U.drewN (1+m+m2)).setCell ⟨X,3,none⟩ s).setCell ⟨X,1,none⟩ p));have qe:bQ (fun i=>i=X) U W5:=by rw[C];exact((((bQ.refl (fun i=>i=X) U).drewN (1+m+m2)).setCell (p:=(aH X 3)) (fun _=>rfl) s).setCell (p:=(aH X 1)) (fun _=>rfl) p)
 have Z5:bF W5 X 68 (Ej ⟨49,p,q,s,0⟩):=by rw[C];exact(((Z7.keep V).store 3 s).store 1 p)
 have Y5:=Y7.dH qe (by have:=Q.out;omega);have qs:aP w W5:=eH qj qe qj.size (fun i hi=>by have:=Q.out;omega);change Code.wp _ _ _ _ ((((U.drewN (1+m+m2)).setCell ⟨X,3,none⟩ s).setCell ⟨X,1,none⟩ p));rw[←C];obtain⟨z,J,I,H,t⟩:=gV Z5;dsimp only at z J I H t;obtain⟨qF,qG,qt⟩:=dB Z5 Y5 qs;clear qo qq D u1 u3 qD qE M qr qa V qe Z5 Y5 qs C A Z7 Y7;go_upto_region 16 with(first|(go_at_call 98;refine(qA _).aQ ?_;rintro w6 B)|fail)
 have Z6:=qF.keep B;have l:=qG.keep B;obtain⟨v0,v1,v2,v3,v4⟩:=gV Z6;dsimp only at v0 v1 v2 v3 v4;obtain⟨y0,y1,y2,y3,y4⟩:=gV l;have g0:=l.frozen 0;have g1:=l.frozen 1;have g2:=l.frozen 2;have g3:=l.frozen 3;have g4:=l.frozen 4;obtain⟨W9,qu,⟨t0,t1,t2,t3,t4⟩,qv,qH⟩:=Fp (cs:=Dq) rfl (aB (49)) (p) (q) (s) (aB (0)) l (qt.trans (B.mono qt.size)) aj;obtain⟨qI,qJ⟩:=aV qv qu;clear Z6 l qv qu qH B z J I H t;go_wp2_with fail;rw[←qJ];refine aT (by simp[results,results58,go_sem,t0,t1,t2,t3,t4];rfl) rfl ?_;exact⟨rfl,qI⟩
theorem afS{r:bV}(h:wR r){b o:Nat}{x y:Int}(w:aK)(X:(fQ r)=n)(hd:Lb w (some (aH b o)) n (fQ r))(Y:n≤c):
  Calls prog 58 #[.agg (KF r.kind (some (aH b o)) n c x y)] w (Val w (eP #[F7 r,iI])):=by
 subst X;have Z:=KQ h;cases h with
 |start s n W X=>
  have e:bJ n=n:=Ac aj;have Z:fQ ⟨48,s,n,0,0⟩=dY s++ [n]:=by rw[Z];show dY s++ [bJ n]=_;rw[e]
  rw[Z]at hd Y ⊢;exact abw W X w hd Y
 |done s n l W X V=>
  have e:bJ n=n:=Ac aj;have Z:fQ ⟨49,s,n,l,0⟩=n::(dY l++dY s):=by rw[Z];show [bJ n]++dY l++dY s=_;rw[e];rfl
  rw[Z]at hd Y ⊢;exact adn W X V w hd Y
 |fail p U=>
  have e:bJ p=p:=Ac aj;have Z:fQ ⟨50,0,0,0,p⟩=[p]:=by rw[Z];show [bJ p]=_;rw[e]
  rw[Z]at hd Y ⊢;exact adl U w hd Y
 |fin s l W V=>
  have Z:fQ ⟨51,s,0,l,0⟩=dY l++dY s:=Z;rw[Z]at hd Y ⊢;exact afR W V w hd Y
abbrev lq:bV:=⟨0,0,0,0,0⟩
theorem V9{l:List bV}(Z:j<l):bD l=bD (l.take j)++(bH (l.getD j lq)++bD (l.drop (j+1)))∧(bD (l.take (j+1))).length=(bD (l.take j))+((fQ (l.getD j lq)).length+8):=by
 have e:l.getD j lq=l[j]:=by rw[dG,fP Z];rfl
 rw[e];have Y:bD [l[j]]=bH l[j]:=by simp[bD]
 refine⟨?_,?_⟩
 ·have X:l=l.take j++([l[j]]++l.drop (j+1)):=by
   rw[show [l[j]]++l.drop (j+1)=l.drop j by rw[List.singleton_append,List.getElem_cons_drop],kP]
  calc bD l=bD (l.take j++([l[j]]++l.drop (j+1))):=by rw[←X]
   _=_:=by rw[Au,Au,Y]
 ·rw[BH Z,Au,Y,mG,kN]
theorem abz{l:List bV}(Y:∀r∈l,jQ r=true)(t:aO)(Z:j<l):nH (bD l++t) (bD (l.take j))=some ⟨(l.getD j lq).kind,fQ (l.getD j lq),(bD (l.take (j+1))).length⟩:=by
 obtain⟨X,W⟩:=V9 Z;have V:jQ (l.getD j lq)=true:=Y _ (by rw[dG,fP Z];exact lS _);have:=JG (k:=(l.getD j lq).kind) (d:=fQ (l.getD j lq)) (p:=bD (l.take j)) (r:=bD (l.drop (j+1))++t) (Ju V) (by have:=wW (l.getD j lq);omega);rw[W,X];rw[show bD (l.take j)++(bH (l.getD j lq)++bD (l.drop (j+1)))++t=bD (l.take j)++(dQ (l.getD j lq).kind (fQ (l.getD j lq))++(bD (l.drop (j+1))++t)) by simp only[wQ];rfl];exact this
theorem ZM{l:List bV}{c:bV}(X:jQ c=true)(Y:m<(bH c)):nH (bD l++(bH c).take m) (bD l)=none∧QU (bD l++(bH c).take m) (bD l):=by
 have S:=wW c;rw[kN]at Y;refine⟨Ql (Ju X) aj Y,fun W _=>?_⟩
 have V:(bD l++(bH c).take m).length=(bD l)+m:=by
  rw[mG,xO,kN];omega
 rw[V]at W ⊢
 have Z:∀i,i<m→nS (bD l++(bH c).take m) ((bD l).length+i)=nS (bH c) i:=by
  intro i U;rw[Ea];unfold nS;rw[dG,dG,kW U]
 have T:iL (bD l++(bH c).take m) (bD l)=(fQ c):=by
  unfold iL;rw[Z 1 aj,Z 2 aj,Z 3 aj];have:=KP (k:=c.kind) (d:=fQ c) (r:=dY (jf (iP c.kind (fQ c)))) aj;unfold iL at this;exact this
 rw[T];exact⟨aj,fun h=>aj⟩
theorem ZN{r:bV}(h:wR r):0<(fQ r).length:=by
 have Z:=KQ h;cases h<;>(rw[Z];simp[dY])
def Wh:tJ bV where
 S:=64
 T:=68
 k:=5
 bytes:=40
 z:=.agg #[aB 0,aB 0,aB 0,aB 0,aB 0]
 enc:=fun m=>[aB m.kind,aB m.sum,aB m.num,aB m.len,aB m.code]
 und:=underlying64
 info:=aW
 zs:=rfl
 pos:=bn
 hk:=fun _=>rfl
 one:=fun a u Z=>by simp at Z;rcases Z with rfl|rfl|rfl|rfl|rfl<;>rfl
theorem aeo{l:List bV}{z:bV}(hl:∀r∈l,jQ r=true)(g:jQ z=true)(hm:m<(bH z))(hn:n≤100000000)(hb:dV (bD l++(bH z).take m))(w:aK)(hA:Lb w A n (bD l++(bH z).take m))(hc:n≤c):
  Calls prog 28 #[aG A n c] w fun e t=>∃B b,e=bM (eP #[aG B l b,aB (bD l)])∧dX Wh t w B l b l∧aP w t:=by
 have f:=hA.len;have V:(bD l)≤n:=by rw[←f,mG];omega
 have d:=Ik l;obtain⟨a,qa⟩:=ZM g hm;obtain⟨qs,qe,qt⟩:=dB (fun j (hj:j<l.length)=>abz hl ((bH z).take m) hj) (fun t (hw:aP w t) i (hi:i≤n) (hf:QU _ i)=>abu aj hb t (hA.keep hw) hc hi hf) (fun j (hj:j<l.length)=>FT (hl (l.getD j lq) (by rw[dG,fP hj];exact lS _)))
 have qf:Hid (∀j,(bD (l.take j))≤n):=ay (fun j=>by
  have e:(bD (l.take j)).length+(bD (l.drop j))=(bD l):=by rw[←mG,←Au,kP]
  omega)
 have qu:=ay (dD d V);generalize bD l++(bH z).take m=bs at*;change Hid _ at a qa;clear hA hl g hm hb f V d;go_enter func28,ntmps28;go_wp2
 go_loopg [4,5,6,7,8] l (fun k v4 v5 v6 v7 v8 wr=>∃(j:Nat) (B:dK) (b:Nat),j+k=l∧v5= aB ((bD (l.take j)).length:Nat)∧v4=aG B j b∧dX Wh wr w B j b (l.take j)∧aP w wr)
 case atStart=>exact⟨0,none,0,aj,rfl,rfl,dX.nil _ _,aU _ _⟩
 case round=>
  obtain⟨j,B,b,hj,rfl,rfl,own,X⟩:=hrel;obtain⟨W,HO⟩:=aV X own
  by_cases V:j<l
  ·have F:=qs j V
   have K:=OV F;have Y:=qe wr X _ (qf j) K;rw[F]at Y;have N:=qt j V;have E:l.take (j+1)=l.take j++ [l.getD j lq]:=by rw[BH V,dG,fP V];rfl
   obtain⟨P2,D⟩:=kF ((bD (l.take (j+1))).length);obtain⟨R,hR⟩:=kF (l.getD j lq);rw[←D,←hR]at Y;rw[←hR]at N E;have qv:=ZN N;obtain⟨HN,qw,qy,qz⟩:=jH Y E D N;have qG:j≤n:=by have:=qu.out;omega
   clear F K Y N E D hR own X;generalize(bD (l.take j))=P1 at*;go_upto_region 6 with(go_at_call 57;refine HN.mono ?_;rintro e O ⟨U,B5,b5,rfl,o5⟩)
   obtain⟨g5,rfl,-⟩:=o5.form qv;have J:=o5.cap;obtain⟨W6,M⟩:=kF (O.alloc (aS (KF R.kind g5 (fQ R) b5 P1 P2) 124));have Q:aP O W6:=by rw[M];exact aJ O _
   have u:bF W6 O 124 (KF R.kind g5 (fQ R) b5 P1 P2):=by rw[M];exact bF.new O _ _
   change Code.wp _ _ _ _ (O.alloc _);rw[←M];obtain⟨u0,u1,u2,u3⟩:=u.s4;have qA:=ay (afS qz (x:=P1) (y:=P2) W6 rfl (o5.lb.keep Q) J);have Z:=U.trans (Q.mono U.size);obtain⟨qg,qB,qC,qH⟩:=jH (W.trans (Z.mono W.size)) (HO.keep Z) u (dD W.size U.size);clear M Q U o5 J u Z;go_upto_region 9 with(go_at_call 58;refine qA.aQ ?_;rintro G C)
   obtain⟨s,q,p,o,h⟩:=R;obtain⟨W8,L⟩:=kF (G.alloc (aS (Ej ⟨s,q,p,o,h⟩) 68));have qh:aP G W8:=by rw[L];exact aJ G _
   have R8:bF W8 G 68 (Ej ⟨s,q,p,o,h⟩):=by rw[L];exact bF.new G _ _
   change Code.wp _ _ _ _ (G.alloc _);rw[←L];obtain⟨r0,r1,r2,r3,r4⟩:=gV R8;dsimp only at r0 r1 r2 r3 r4;have P:=C.trans (qh.mono C.size);have qi:=aJ W8 (aS (Ej ⟨s,q,p,o,h⟩) 68);have qD:=ay (bF.new W8 68 (Ej ⟨s,q,p,o,h⟩));have S:=P.trans (qi.mono P.size);have qj:=ay (qB.keep S);have U9:=qC.keep S;obtain⟨qk,ql⟩:=aV U9 (qg.trans (S.mono qg.size));clear L qh R8 C P qi S U9 u0 u1 u2 u3;go_upto_region 10 with(first|(at_builtin;refine BA Wh (v:=⟨s,q,p,o,h⟩) rfl _ _ rfl rfl qj rfl qD (by show(_+1)*40≤_;omega) ql.size aj ?_;intro qE qF qI qm I H qq)|fail)
   have qo:=qk.dH H (uq qj qk bn);have u3:=qo.c3;have qr:=ay (ql.trans I);change Hid _ at qm;clear I H qq qo r0 r1 r2 r3 r4;go_wp2;go_roundg(gk-1)
   case measure=>omega
   case rel=>exact⟨j+1,qE,qF,aj,by rw[←qy],rfl,by rw[qw];exact qm,qr⟩
  ·obtain rfl:j=l:=aj
   have e:l.take l=l:=uM;rw[e]at own;rw[e];have Y:=qe wr X _ (by have:=qf l;rw[e]at this;exact this) qa;rw[a]at Y;obtain⟨HN,HO⟩:=aV Y own;clear Y own X e;go_wp2_with(go_at_call 57;refine HN.mono ?_;rintro e O ⟨U,T,x,rfl⟩);go_ret2;have Q:=aJ O (aS #[aB 0,bU,aB 0,aB 0] 124);have Z:=U.trans (Q.mono U.size);exact⟨B,b,rfl,HO.keep Z,W.trans (Z.mono W.size)⟩
def jmV(f:Nat→Option bV):Nat→Option cO:=fun x=>(f x).map F7
theorem aj1(f:Nat→Option bV)(k:Nat)(r:bV):jmV (fun n=>if n=k then some r else f n)=xE (jmV f) k (F7 r):=by
 funext x
 unfold jmV xE
 by_cases h:x=k<;>simp[h]
theorem aj2(f:Nat→Option bV)(k:Nat):jmV (fun n=>if n=k then none else f n)=wK (jmV f) k:=by
 funext x
 unfold jmV wK
 by_cases h:x=k<;>simp[h]
theorem abB(j:bT):∀k,pq (jmV j.done) k=j.count k
 |0=>rfl
 |k+1=>by
  show pq (jmV j.done) k+_=j.count k+_;rw[abB j k];unfold jmV;cases j.done k<;>rfl
abbrev jbA(j:bT)(mb:Nat)(e:bV):Array cO:=#[aB (j.state:Nat),aB j.sum,aB j.chunks,aB j.code,.map (some mb),aB e.kind,aB e.sum,aB e.num,aB e.len,aB e.code]
structure JbM(w:World)(g mb:Nat)(e:bV)(j:bT):Prop where
 box:bF w g 151 (jbA j mb e)
 done:pK XL w mb (jmV j.done)
def Q9(w:aK)(g mb:Nat)(j:bT):Prop:=∃e,JbM w g mb e j
section
variable{w w':aK}{g mb:Nat}{j:bT}{e:bV}{S:Nat→Prop}
theorem JbM.ne(h:JbM w g mb e j):mb≠g:=IB h.done h.box
theorem JbM.dH(h:JbM w g mb e j)(Z:bQ S w w')(h1:¬S g)(h2:¬S mb):JbM w' g mb e j:=⟨h.box.dH Z h1,h.done.dH Z h2⟩
theorem Q9.dH(h:Q9 w g mb j)(Z:bQ S w w')(h1:¬S g)(h2:¬S mb):Q9 w' g mb j:=by
 obtain⟨e,h⟩:=h;exact⟨e,h.dH Z h1 h2⟩
theorem Q9.keep(h:Q9 w g mb j)(Z:aP w w'):Q9 w' g mb j:=h.dH (bQ.of_below (S:=fun _=>False) Z) (fun h=>h) (fun h=>h)
theorem Q9.lt(h:Q9 w g mb j):g<w∧mb<w:=by obtain⟨e,h⟩:=h;exact⟨h.box.lt,h.done.lt⟩
theorem yE(X:bF w g 151 (jbA j mb e)):aN w g 0 (aB (j.state:Nat))∧aN w g 1 (aB j.sum)∧aN w g 2 (aB j.chunks)∧aN w g 3 (aB j.code)∧aN w g 4 (.map (some mb)):=
 ⟨X.at rfl,X.at rfl,X.at rfl,X.at rfl,X.at rfl⟩
end
theorem aj3(w:aK):Calls prog 235 #[] w fun e Z=>∃g Y,e=bM (BG g)∧Q9 Z g Y bT.new∧w≤g∧w≤Y∧aP w Z:=by
 have O:∀W:aK,(Instr.makeMap 149 none).run prog W= .ok (.map (some W)) (W.alloc (.map #[] 0)):=fun W=>aW
 have U:(w.alloc (.map #[] 0)).heap.size=w+1:=bK
 have X:=aJ w (.map #[] 0);have b2:=aJ (w.alloc (.map #[] 0)) (aS (jbA bT.new w lq) 151);have V:=bF.new (w.alloc (.map #[] 0)) 151 (jbA bT.new w lq);rw[U]at V;have S:=(pK.made (T:=XL) w).keep b2;obtain⟨R,Q,P⟩:=dB (X.trans (b2.mono X.size)) V S;go_enter func235,ntmps235;go_wp2;go_ret;exact⟨w.heap.size+1,w.heap.size,rfl,⟨lq,Q.out,P.out⟩,aj,bC _,R.out⟩
def ah2(j:bT)(r:bV):bT × Int:=
 if r.kind=49 then if j.chunks≤r.num then(j,3)else({j with done:=fun n=>if n=r.num.toNat then some r else j.done n},0)
 else if r.kind=50 then if 0<j.chunks then(j,14)else({j with state:=2,code:=r.code},0)
 else if j.chunks=0∨(j.count 16:Int)<j.chunks then(j,14)
 else({j with state:=3},0)
def amT(w:aK)(g mb:Nat)(r:bT × Int)(e:Ending)(w':aK):Prop:=e= .returned (eV r.2)∧Q9 w' g mb r.1∧bQ (fun i=>i=g∨i=mb) w w'
theorem aj6{j:bT}{r:bV}(hr:wR r)(hs:¬r.kind=48)(w:aK)(h:Q9 w g mb j):Calls prog 173 #[aY g,F7 r] w (amT w g mb (ah2 j r)):=by
 obtain⟨A,h⟩:=h;have qh:=h.box.lt;have qi:=h.done.lt;have E:=h.ne;have hb:=aJ w (aS (Ej r) 68);have G:=bF.new w 68 (Ej r);have Y:=h.dH (bQ.of_below (S:=fun _=>False) hb) (fun h=>h) (fun h=>h);obtain⟨Q,U⟩:=kF (w.alloc (aS (Ej r) 68));rw[←U]at hb G Y;have R:=ay (bQ.of_below (S:=fun i=>i=g∨i=mb) hb);obtain⟨b0,b1,b2,b3,b4⟩:=yE Y.box;have f0:=Y.box.frozen 0;have f3:=Y.box.frozen 3;have qj:¬g=w:=aj
 have X:=fun(k:Nat)=>(Y.done.keep (jM (aU _ _) k)).len (t:=149) (e:=68) aW 3
 have x:Hid (pq (jmV j.done) XL.lim=j.count 16):=ay (abB j 16);have q:=ay X;change Hid _ at U hb Y;clear h X;unfold ah2;cases hr with
 |start s n o hn=>exact absurd rfl hs
 |fail c qk=>
  obtain⟨O,N,M,L,P⟩:=gV G;dsimp only at O N M L P ⊢;rw[au aj,aF rfl];clear G
  by_cases V:0<j.chunks
  ·rw[aF V]
   go_enter func173,ntmps173;go_upto_region 1 with(fail)
   change Code.wp _ _ _ _ (w.alloc _);rw[←U];go_wp2;go_ret;exact⟨rfl,⟨A,Y⟩,R⟩
  ·rw[au V]
   have d4:aN Q.drew w 4 (aB c):=P;have m:=fun u=>((bQ.refl (fun i=>i=g) Q.drew).setCell (p:=(aH g 0)) (fun _=>rfl) u)
   have D:=fun u v=>((bQ.refl (fun i=>i=g) Q.drew).setCell (p:=(aH g 0)) (fun _=>rfl) u).setCell (p:=(aH g 3)) (fun _=>rfl) v
   have f:¬w=g:=aj
   have ql:aN Q.drew g 0 (aB (j.state:Nat)):=b0;have qm:aN Q.drew g 3 (aB j.code):=b3;have qo:Q.drew.frozen? (aH g 0)=false:=f0;have qq:Q.drew.frozen? (aH g 3)=false:=f3;go_enter func173,ntmps173;go_upto_region 1 with(fail)
   change Code.wp _ _ _ _ (w.alloc _);rw[←U];go_upto_region 12 with(fail)
   go_region_held3(fun W=>aN W w 4 (aB c))
    (first|with_reducible exact P|with_reducible exact d4|with_reducible exact bG d4 (m _) f|with_reducible exact bG d4 (D _ _) f|fail)
    (fail)
   have F:=D (aB 2) c;have z:=((Y.box.keep (aU _ _).drew).store 0 (aB 2)).store 3 c;change Hid _ at F z;clear m D;go_wp2;go_ret;exact⟨rfl,⟨A,z,(Y.done.keep (aU _ _).drew).dH F E⟩,R.trans ((bQ.refl _ Q).drew.trans (F.mono (fun i _ h=>.inl h)))⟩
 |done s n l o hn hl=>
  obtain⟨k,rfl⟩:∃k:Nat,n=k:=⟨n.toNat,aj⟩;obtain⟨O,N,M,L,P⟩:=gV G;dsimp only at O N M L P ⊢;rw[aF rfl];clear G
  by_cases V:j.chunks≤k
  ·rw[aF V]
   go_enter func173,ntmps173;go_upto_region 1 with(fail)
   change Code.wp _ _ _ _ (w.alloc _);rw[←U];go_upto_region 6 with(fail)
   go_quiet(fail)
   go_wp2;go_ret;exact⟨rfl,⟨A,Y.dH (bQ.of_below (S:=fun _=>False) (jM (aU _ _) nq)) (fun h=>h) (fun h=>h)⟩,R.trans (bQ.of_below (jM (aU _ _) nq))⟩
  ·rw[au V]
   go_enter func173,ntmps173;go_upto_region 1 with(fail)
   change Code.wp _ _ _ _ (w.alloc _);rw[←U];go_upto_region 6 with(fail)
   go_quiet(fail)
   revert nq
   intro y;go_upto_region 8 with(fail)
   have qe:k<XL.lim:=by show k<16;omega
   have Z:=jM (aU Q Q) y;obtain⟨W2,K⟩:=kF (Q.drewN y);rw[←K]at Z ⊢;have q0:=aC O Z;have q1:=aC N Z;have q2:=aC M Z;have q3:=aC L Z;have q4:=aC P Z;have qb:=aC b4 Z;have r0:=aC O Z.drew;have r1:=aC N Z.drew;have r2:=aC M Z.drew;have r3:=aC L Z.drew;have r4:=aC P Z.drew;have rb:=aC b4 Z.drew;obtain⟨C,qf,B⟩:=dB (Y.done.keep Z.drew) (Y.box.keep Z.drew) (bQ.of_below (S:=fun i=>i=g∨i=mb) Z.drew);have d:¬g=mb:=fun e=>E e.symm
   obtain⟨w3,H,b,a⟩:=C.store (t:=149) (e:=68) underlying149 qe (F7 ⟨49,s,k,l,0⟩);have I:=Cc a;have H:(Instr.mapUpdate 149 (.map (some mb)) k (.agg #[aB 49,s,k,l,aB 0])).run prog W2.drew= .ok () w3:=H;have J:¬w=mb:=aj
   clear K Z O N M L P b0 b1 b2 b3 b4
   go_region_held3(fun W=>aN W g 4 (.map (some mb))∧aN W w 0 (aB 49)∧aN W w 1 (aB s)∧aN W w 2 (aB k)∧aN W w 3 (aB l)∧aN W w 4 (aB 0))
    (first|with_reducible exact⟨qb,q0,q1,q2,q3,q4⟩|with_reducible exact⟨rb,r0,r1,r2,r3,r4⟩|with_reducible exact⟨bG rb I d,bG r0 I J,bG r1 I J,bG r2 I J,bG r3 I J,bG r4 I J⟩|fail)
    (fail)
   change Hid _ at b I;clear a;go_wp2;go_ret;refine⟨rfl,⟨A,qf.dH I d,?_⟩,(R.trans B).trans (I.mono (fun i _ h=>.inr h))⟩;show pK XL w3 mb (jmV (fun n=>if n=(k:Int).toNat then some ⟨49,s,k,l,0⟩else j.done n));rw[Int.toNat_natCast,aj1];exact b
 |fin s l o hl=>
  obtain⟨O,N,M,L,P⟩:=gV G;dsimp only at O N M L P ⊢;rw[au aj,au aj];clear G
  by_cases V:j.chunks=0
  ·rw[aF (.inl V)]
   go_enter func173,ntmps173;go_upto_region 1 with(fail)
   change Code.wp _ _ _ _ (w.alloc _);rw[←U];go_upto_region 2 with(fail)
   go_quiet(fail)
   go_wp2;go_ret;exact⟨rfl,⟨A,Y.dH (bQ.of_below (S:=fun _=>False) (jM (aU _ _) nq)) (fun h=>h) (fun h=>h)⟩,R.trans (bQ.of_below (jM (aU _ _) nq))⟩
  ·by_cases qa:(j.count 16:Int)<j.chunks
   ·rw[aF (.inr qa)]
    have X:=q.out;rw[x]at X;have hz:(j.chunks==0)=false:=by rw[oO];exact V
    go_enter func173,ntmps173;go_upto_region 1 with(fail)
    change Code.wp _ _ _ _ (w.alloc _);rw[←U];go_upto_region 2 with(fail)
    go_quiet(fail)
    go_wp2;go_ret;exact⟨rfl,⟨A,Y.dH (bQ.of_below (S:=fun _=>False) (jM (aU _ _) nq)) (fun h=>h) (fun h=>h)⟩,R.trans (bQ.of_below (jM (aU _ _) nq))⟩
   ·rw[au (by rintro(h|h);exact V h;exact qa h)]
    have X:=q.out;rw[x]at X;have hz:(j.chunks==0)=false:=by rw[oO];exact V
    have f5:=Y.box.frozen 5;have f6:=Y.box.frozen 6;have f7:=Y.box.frozen 7;have f8:=Y.box.frozen 8;have f9:=Y.box.frozen 9;obtain⟨-,-,-,-,-,b5,b6,b7,b8,b9⟩:=Y.box.s10;go_enter func173,ntmps173;go_upto_region 1 with(fail)
    change Code.wp _ _ _ _ (w.alloc _);rw[←U];go_upto_region 2 with(fail)
    go_quiet(fail)
    revert nq
    intro y;go_upto_region 4 with(fail)
    have Z:=jM (aU Q Q) y;obtain⟨W2,K⟩:=kF (Q.drewN y);rw[←K]at Z ⊢;have q0:=aC O Z;have q1:=aC N Z;have q2:=aC M Z;have q3:=aC L Z;have q4:=aC P Z;have r0:=aC O Z.drew;have r1:=aC N Z.drew;have r2:=aC M Z.drew;have r3:=aC L Z.drew;have r4:=aC P Z.drew;have qg:=Y.box.keep Z.drew;have v0:=aC b0 Z;have v5:=aC b5 Z;have v6:=aC b6 Z;have v7:=aC b7 Z;have v8:=aC b8 Z;have v9:=aC b9 Z;have T:=Y.box.keep Z;have f0:=T.frozen 0;have f5:=T.frozen 5;have f6:=T.frozen 6;have f7:=T.frozen 7;have f8:=T.frozen 8;have f9:=T.frozen 9;obtain⟨B,C⟩:=aV (bQ.of_below (S:=fun i=>i=g∨i=mb) Z) (Y.done.keep Z);have F:=(((((((bQ.refl (fun i=>i=g) W2).setCell (p:=(aH g 0)) (fun _=>rfl) (aB 3)).setCell (p:=(aH g 5)) (fun _=>rfl) (aB 51)).setCell (p:=(aH g 6)) (fun _=>rfl) s).setCell (p:=(aH g 7)) (fun _=>rfl) (aB 0)).setCell (p:=(aH g 8)) (fun _=>rfl) l).setCell (p:=(aH g 9)) (fun _=>rfl) (aB 0)).drew;have z:=((((((T.store 0 (aB 3)).store 5 (aB 51)).store 6 s).store 7 (aB 0)).store 8 l).store 9 (aB 0)).keep (aU _ _).drew;change Hid _ at F z;clear K Z qg T O N M L P b0 b1 b2 b3 b4 b5 b6 b7 b8 b9 X
    go_region_law(fail)
    all_goals(go_wp2;go_ret)
    all_goals exact⟨rfl,⟨⟨51,s,0,l,0⟩,z,C.dH F E⟩,(R.trans B).trans (F.mono (fun i _ h=>.inl h))⟩
theorem ah3{j:bT}{r:bV}(Z:jQ r=true):j.apply r=if j.state=0∧r.kind=48 then({j with state:=1,sum:=r.sum,chunks:=r.num},0)else if j.state≠1∨r.kind=48 then(j,12)else ah2 j r:=by
 unfold bT.apply;rw[au (by rw[Z];simp)];rfl
theorem abC{j:bT}{r:bV}(u:wR r)(d:jQ r=true)(w:aK)(h:Q9 w g mb j):Calls prog 128 #[aY g,F7 r] w (amT w g mb (j.apply r)):=by
 rw[ah3 d];obtain⟨W1,U,c,T⟩:=ES w 68 (Ej r);obtain⟨R,Q,s⟩:=dB (fun w=>Oq u w) (fun t (hw:aP w t)=>h.keep hw) (fun(hs:¬r.kind=48) t h=>aj6 (g:=g) (mb:=mb) (j:=j) u hs t h);obtain⟨E,b,a,rl,rc⟩:=r;dsimp only at*;obtain⟨O,N,M,L,K⟩:=gV c;change Hid _ at U T;clear c h u d
 by_cases G:j.state=0∧E=48
 ·rw[aF G]
  obtain⟨q,rfl⟩:=G;have C:((j.state:Nat):Int)=0:=aj
  change Hid _ at C;go_enter func128,ntmps128;go_upto_region 1 with(fail)
  change Code.wp _ _ _ _ (w.alloc _);rw[←U];go_upto_region 3 with(go_at_call 98;refine(R _).aQ ?_;rintro D Z)
  have O:=aC O Z;have N:=aC N Z;have M:=aC M Z;have L:=aC L Z;have K:=aC K Z;have X:=ay (T.trans (Z.mono T.size));have W:=ay (bQ.of_below (S:=fun i=>i=g∨i=mb) X);obtain⟨J,Y⟩:=Q _ X;obtain⟨I,A,b2,z,b4⟩:=yE Y.box
  try rw[C]at I
  have P:=Y.ne;have y:=Y.box.frozen 0;have x:=Y.box.frozen 1;have v:=Y.box.frozen 2;clear Z;have hC:=(((bQ.refl (fun i=>i=g) D).setCell (p:=(aH g 0)) (fun _=>rfl) (aB 1)).setCell (p:=(aH g 1)) (fun _=>rfl) b).setCell (p:=(aH g 2)) (fun _=>rfl) a;have hX:=((Y.box.store 0 (aB 1)).store 1 b).store 2 a;obtain⟨B,HX⟩:=aV hC.drew (hX.keep (aU _ _).drew);change Hid _ at Y;clear hC hX q;go_upto_region 4 with(fail)
  go_region_law(fail)
  all_goals(go_wp2;go_ret)
  all_goals exact⟨rfl,⟨J,HX,Y.done.dH B P⟩,W.trans (B.mono (fun i _ h=>.inl h))⟩
 ·rw[au G]
  by_cases H:j.state≠1∨E=48
  ·rw[aF H]
   by_cases o:j.state=1
   ·obtain rfl:E=48:=H.elim (fun h=>absurd o h) id
    have V:=ay (show((j.state:Nat):Int)=1 by omega);clear G H;go_enter func128,ntmps128;go_upto_region 1 with(fail)
    change Code.wp _ _ _ _ (w.alloc _);rw[←U];go_upto_region 3 with(go_at_call 98;refine(R _).aQ ?_;rintro D Z)
    have O:=aC O Z;have N:=aC N Z;have M:=aC M Z;have L:=aC L Z;have K:=aC K Z;have X:=ay (T.trans (Z.mono T.size));have W:=ay (bQ.of_below (S:=fun i=>i=g∨i=mb) X);obtain⟨J,Y⟩:=Q _ X;obtain⟨I,A,b2,z,b4⟩:=yE Y.box
    try rw[V]at I
    have P:=Y.ne;have y:=Y.box.frozen 0;have x:=Y.box.frozen 1;have v:=Y.box.frozen 2;clear Z;change Hid _ at Y;go_wp2;go_ret;exact⟨rfl,⟨J,Y⟩,W⟩
   ·by_cases F:j.state=0
    ·have V:=ay (show((j.state:Nat):Int)=0 by omega)
     have n:¬E=48:=fun e=>G ⟨F,e⟩
     have hk:(E==48)=false:=by rw[oO];exact n
     clear G H F;go_enter func128,ntmps128;go_upto_region 1 with(fail)
     change Code.wp _ _ _ _ (w.alloc _);rw[←U];go_upto_region 3 with(go_at_call 98;refine(R _).aQ ?_;rintro D Z)
     have O:=aC O Z;have N:=aC N Z;have M:=aC M Z;have L:=aC L Z;have K:=aC K Z;have X:=ay (T.trans (Z.mono T.size));have W:=ay (bQ.of_below (S:=fun i=>i=g∨i=mb) X);obtain⟨J,Y⟩:=Q _ X;obtain⟨I,A,b2,z,b4⟩:=yE Y.box
     try rw[V]at I
     have P:=Y.ne;have y:=Y.box.frozen 0;have x:=Y.box.frozen 1;have v:=Y.box.frozen 2;clear Z;change Hid _ at Y;go_wp2;go_ret;exact⟨rfl,⟨J,Y⟩,W⟩
    ·have qa:¬((j.state:Nat):Int)=0:=aj
     have V:=ay (show True from trivial);clear G H F;go_enter func128,ntmps128;go_upto_region 1 with(fail)
     change Code.wp _ _ _ _ (w.alloc _);rw[←U];go_upto_region 3 with(go_at_call 98;refine(R _).aQ ?_;rintro D Z)
     have O:=aC O Z;have N:=aC N Z;have M:=aC M Z;have L:=aC L Z;have K:=aC K Z;have X:=ay (T.trans (Z.mono T.size));have W:=ay (bQ.of_below (S:=fun i=>i=g∨i=mb) X);obtain⟨J,Y⟩:=Q _ X;obtain⟨I,A,b2,z,b4⟩:=yE Y.box
     try rw[V]at I
     have P:=Y.ne;have y:=Y.box.frozen 0;have x:=Y.box.frozen 1;have v:=Y.box.frozen 2;clear Z;change Hid _ at Y;go_wp2;go_ret;exact⟨rfl,⟨J,Y⟩,W⟩
  ·rw[au H]
   have hk:(E==48)=false:=by rw[oO];exact fun e=>H (.inr e)
   obtain⟨V,m⟩:=aV (show((j.state:Nat):Int)=1 by omega) (s (fun e=>H (.inr e)));clear G H;go_enter func128,ntmps128;go_upto_region 1 with(fail)
   change Code.wp _ _ _ _ (w.alloc _);rw[←U];go_upto_region 3 with(go_at_call 98;refine(R _).aQ ?_;rintro D Z)
   have O:=aC O Z;have N:=aC N Z;have M:=aC M Z;have L:=aC L Z;have K:=aC K Z;have X:=ay (T.trans (Z.mono T.size));have W:=ay (bQ.of_below (S:=fun i=>i=g∨i=mb) X);obtain⟨J,Y⟩:=Q _ X;obtain⟨I,A,b2,z,b4⟩:=yE Y.box
   try rw[V]at I
   have P:=Y.ne;have y:=Y.box.frozen 0;have x:=Y.box.frozen 1;have v:=Y.box.frozen 2;clear Z;have l:=ay (m D ⟨J,Y⟩);change Hid _ at Y;go_wp2_with(go_at_call 173;refine l.aQ ?_;rintro w3 ⟨k,f⟩);go_ret;exact⟨rfl,k,W.trans f⟩
end
section
variable{j:Nat}{S T:Nat→Prop}{A:Option Addr}{u w w' w1:World}
theorem yF(w:aK)(g j:Nat)(v:cO):bQ (fun i=>i=g) w (w.setCell ⟨g,j,none⟩ v):=bQ.setCell (S:=fun i=>i=g) (p:=(aH g j)) (bQ.refl _ w) (fun _=>rfl) v
structure amU(w:World)(g:Nat)(d:aI)(M:DkM):Prop where
 gn:g≠M.nb
 gs:g≠M.sb
 gA:¬In M.A g
 gB:¬In M.B g
 gF:∀j,j<d.all.length→¬In (M.ms.getD j default).A g
 nA:¬In M.A M.nb
 nB:¬In M.B M.nb
 nF:∀j,j<d.all.length→¬In (M.ms.getD j default).A M.nb
 sA:¬In M.A M.sb
 sB:¬In M.B M.sb
 sF:∀j,j<d.all.length→¬In (M.ms.getD j default).A M.sb
 AB:∀i,In M.A i→¬In M.B i
 AF:∀i j,j<d.all.length→In M.A i→¬In (M.ms.getD j default).A i
 BF:∀i j,j<d.all.length→In M.B i→¬In (M.ms.getD j default).A i
theorem V8.sep{g:Nat}{d:aI}{M:DkM}(h:V8 w g S d M):amU w g d M where
 gn:=fun e=>IB h.names h.box e.symm
 gs:=fun e=>IB h.safe h.box e.symm
 gA:=uq h.all h.box bn
 gB:=uq h.steps h.box bn
 gF:=fun j Z=>Jl (h.fl j Z).1 h.box bn
 nA:=LJ h.names h.all
 nB:=LJ h.names h.steps
 nF:=fun j Z=>abx h.names (h.fl j Z).1
 sA:=LJ h.safe h.all
 sB:=LJ h.safe h.steps
 sF:=fun j Z=>abx h.safe (h.fl j Z).1
 AB:=D5 h.all h.steps bn
 AF:=fun i j Z Y X=>absurd ((h.all.ty Y).one ((h.fl j Z).1.ty X)) bn
 BF:=fun i j Z Y X=>absurd ((h.steps.ty Y).one ((h.fl j Z).1.ty X)) bn
def jh(w:aK)(g:Nat)(S:Nat→Prop)(d:aI)(w':aK):Prop:=bQ S w w'∧∃Z,Dw w' g Z d∧∀i,Z i→S i∨w.heap.size≤i
theorem jh.of{g:Nat}{d:aI}(h:Dw w' g S d)(Z:bQ T w w')(Y:∀i,T i→S i):jh w g S d w':=⟨Z.mono (fun i _ h=>Y i h),S,h,fun _ h=>.inl h⟩
theorem jh.trans{g:Nat}{R:Nat→Prop}{d:aI}(h:bQ S w w1)(Y:∀i,R i→S i∨w≤i)(h2:jh w1 g R d u):jh w g S d u:=by
 obtain⟨W,V,U,Z⟩:=h2;have Q:=h.size;refine⟨h.step W fun i X T=>(Y i T).elim id (fun k=>aj),V,U,fun i X=>?_⟩;rcases Z i X with k|k
 ·exact Y i k
 ·exact .inr aj
theorem Dw.g{w:aK}{g:Nat}{S:Nat→Prop}{d:aI}(h:Dw w g S d):S g:=by obtain⟨M,h⟩:=h;exact h.sg
theorem ah4{v:aK}{g:Nat}{d:aI}{s:DU}{M:DkM}{o:Obj}(h:V8 v g S d M)(L:aP w v)(X:bQ (fun i=>i=M.nb) v w1)
  (I:pK Az w1 M.nb (LH (uO d.names s))) (U:bQ (In M.B) ((w1.alloc o).drew) u) (K:dX stR u 0 A (d.steps.length+1) j (d.steps++ [s])) (T:∀i,In A i→In M.B i∨(w1.alloc o).drew≤i)
  (H:bF (u.setCell ⟨g,4,none⟩ (aG A (d.steps.length+1:Nat) j)) g 110 (dkC (d.does s) {M with B:=A,e:=j})):jh w g S (d.does s) (u.setCell ⟨g,4,none⟩ (aG A (d.steps.length+1:Nat) j)):=by
 have Y:=h.sep;have G:=((X.mono (fun i _ e=>Or.inl e)).alloc o).drew.trans (U.mono (fun i _ e=>Or.inr e));have P:=yF u g 4 (aG A (d.steps.length+1:Nat) j);have W:=(G.mono (fun i _ e=>e.elim Or.inl (fun k=>Or.inr (Or.inl k)))).trans (P.mono (fun i _ e=>Or.inr (Or.inr e)));have J:g<w1:=wP (h.lt g h.sg) X.size;have O:w1.heap.size≤(w1.alloc o).drew:=bK
 have F:=dD L.size X.size;have R:∀i,In A i→In M.B i∨w≤i:=fun i Z=>(T i Z).elim Or.inl (fun k=>Or.inr (dD F (dD O k)))
 have Q:¬In A g:=fun e=>(T g e).elim Y.gB (fun k=>aj)
 refine⟨?_,fun i=>S i∨In A i,⟨{M with B:=A,e:=j},?_⟩,fun i Z=>Z.elim Or.inl (fun k=>(R i k).elim (fun q=>.inl (h.sB i q)) Or.inr)⟩
 ·refine(bQ.of_below L).trans (W.mono fun i _ Z=>?_)
  rcases Z with rfl|Z|rfl
  ·exact h.sn
  ·exact h.sB i Z
  ·exact h.sg
 ·have E:u.heap.size≤(u.setCell ⟨g,4,none⟩ (aG A (d.steps.length+1:Nat) j)):=P.size
  refine⟨H,h.all.dH W ?_,fun i Z=>⟨(h.fl i Z).1.dH W ?_,(h.fl i Z).2⟩,h.apart,?_,h.safe.dH W ?_,h.ne,h.arm,?_,.inl h.sg,.inl h.sn,.inl h.ss,fun i Z=>.inl (h.sA i Z),fun i Z=>.inr Z,fun i Z k V=>.inl (h.sF i Z k V),fun i Z=>?_⟩
  ·rintro i Z (rfl|k|rfl)
   ·exact Y.nA Z
   ·exact Y.AB i Z k
   ·exact Y.gA Z
  ·rintro k V (rfl|q|rfl)
   ·exact Y.nF i Z V
   ·exact Y.BF k i Z q V
   ·exact Y.gF i Z V
  ·have N:=I.dH (((bQ.refl (In M.B) w1).alloc o).drew.trans U) Y.nB
   exact N.dH P (fun e=>Y.gn e.symm)
  ·rintro(e|q|e)
   ·exact h.ne e.symm
   ·exact Y.sB q
   ·exact Y.gs e.symm
  ·show dX stR _ 0 A (d.steps++ [s]) j (d.steps++ [s])
   rw[mG];exact K.dH P (fun i Z e=>Q (e▸Z))
  ·rcases Z with Z|Z
   ·have:=h.lt i Z
    have:=W.size;omega
   ·have:=(K.dN Z).2
    omega
theorem Wj{g:Nat}{d:aI}{s:DU}(l:s.name<36)(ht:s.to<36)(hN:d.steps.length≤1000000)(w:aK)(h:Dw w g S d):
  Calls prog 122 #[aY g,.agg (stC s)] w fun e U=>e=bM (eP #[])∧jh w g S (d.does s) U:=by
 obtain⟨M,h⟩:=h;have Q:=aJ w (aS (stC s) 116);have X:=bF.new w 116 (stC s);have V:=h.keep (bQ.of_below Q) (fun _ _ h=>h);obtain⟨P,T⟩:=kF (w.alloc (aS (stC s) 116));rw[←T]at Q X V;have k:=ay (fun U (Q:aP P U)=>aeu l ht U (V.names.keep Q));have R:=V.sep;have L:∀i,S i→i≠w:=fun i C=>by have:=h.lt i C;omega
 obtain⟨j,f,m,c,A,b,a,x7⟩:=Wi V.box;obtain⟨H,G,F,E⟩:=X.s4;change Hid _ at T;go_enter func122,ntmps122;go_upto_region 1 with(fail)
 change Code.wp _ _ _ _ (w.alloc _);rw[←T];obtain⟨v,u⟩:=aV (fun U (D:bQ (fun i=>i=M.nb) P U)=>And.intro (V.box.dH D (fun e=>R.gn e)) (X.dH D (fun e=>L _ V.sn e.symm))) (fun U (D:bQ (fun i=>i=M.nb) P U)=>V.steps.dH D (fun i C e=>R.nB (e▸C)));change Hid _ at Q V;clear X
 go_region_held3(fun W=>aN W g 2 (.map (some M.nb))∧aN W w 0 (aB s.kind)∧aN W w 1 (.string (bP s.name))∧aN W w 2 (.string (toB s))∧aN W w 3 (aB s.file))
  (first|exact⟨m,H,G,F,E⟩|exact⟨z2,H,G,F,E⟩|fail) (first
  |(go_at_call 52;refine(k _ ((aU _ _).drew)).aQ ?_;rintro Z ⟨K,Y⟩;replace Y:=((bQ.refl (fun i=>i=M.nb) P).drew).trans Y;obtain⟨O,N⟩:=v _ Y;have z2:aN Z g 2 (.map (some M.nb)):=(O.at rfl);have H:aN Z w 0 (.int .i64 s.kind):=(N.at rfl);have G:aN Z w 1 (.string (bP s.name)):=(N.at rfl);have F:aN Z w 2 (.string (toB s)):=(N.at rfl);have E:aN Z w 3 (.int .i64 s.file):=(N.at rfl))
  |fail)
 obtain⟨HO,t,r⟩:=dB (u _ Y) K Y;have A:=O.c4;have f4:=O.frozen 4;have q:=ay O;have j4:∀o,aN (Z.alloc o) g 4 (aG M.B d.steps M.e):=fun o=>aC A (aJ Z o)
 have k4:∀o,aN ((Z.alloc o).drew) g 4 (aG M.B d.steps M.e):=fun o=>aC A (aJ Z o).drew
 have l0:∀o,aN ((Z.alloc o).drew) w 0 (aB s.kind):=fun o=>aC H (aJ Z o).drew
 have l1:∀o,aN ((Z.alloc o).drew) w 1 (.string (bP s.name)):=fun o=>aC G (aJ Z o).drew
 have l2:∀o,aN ((Z.alloc o).drew) w 2 (.string (toB s)):=fun o=>aC F (aJ Z o).drew
 have l3:∀o,aN ((Z.alloc o).drew) w 3 (aB s.file):=fun o=>aC E (aJ Z o).drew
 have p:=R.gB;have qa:¬In M.B w:=fun e=>L _ (V.sB _ e) rfl
 clear O N K Y j f m c b a x7;go_wp2
 go_region_law(first|(refine RX stR kE (.tmp 14) (.tmp 16) kE kE ((HO.alloc _).drew) kE (lV _ _) (by show(_+1)*48≤_;omega) bK aj ?_;intro z y w2 o1 qe J I;have x:=((q.alloc _).drew).dH J p;have f4:=x.frozen 4;have d4:aN w2 g 4 (aG M.B d.steps M.e):=(x.at rfl))|fail)
 all_goals(
  go_wp2;have n:=x.store 4 (aG z (d.steps.length+1:Nat) y);refine eU (by simp[results,results122,go_sem]) rfl ⟨rfl,?_⟩;exact ah4 V Q r t J o1 I (by rw[show(dkC (d.does s) {M with B:=z,e:=y})=(dkC d M).setIfInBounds 4 (aG z (d.steps.length+1:Nat) y) by unfold aI.does;simp[dkC]];exact n))
end
section
variable{l:List Int}{c g k m mb n x:Nat}{S:Nat→Prop}{A:Option Addr}
theorem NY{d:aI}{k:Int}(w:aK)(h:Dw w g S d):
  Calls prog 121 #[aY g,eV k] w fun e W=>e=bM (eV (d.goes k).2)∧Dw W g S (d.goes k).1∧bQ (fun i=>i=g) w W:=by
 obtain⟨V,U⟩:=aV (ah1 w h) h;obtain⟨M,h⟩:=h;have T:=h.box.c6;clear h;unfold aI.goes;cases R:d.down with
 |true=>
  rw[R]at T;rw[aF rfl];go_enter func121,ntmps121;go_wp2;go_ret;exact⟨rfl,U,bQ.refl _ _⟩
 |false=>
  rw[R]at T;rw[au bK]
  by_cases X:k=0
  ·subst X
   rw[au bK];have Q:eV 0=iI:=rfl;rw[Q];generalize d.fall=F at*;obtain⟨N,L,K,J,I,H,P⟩:=F;dsimp only at*;cases P with
   |true=>
    rw[aF rfl];go_enter func121,ntmps121;go_wp2_with fail;refine V.aQ ?_;rintro O ⟨Y,Z⟩;change Hid _ at Y Z;go_wp2;go_ret;exact⟨rfl,Y,Z⟩
   |false=>
    rw[au bK];go_enter func121,ntmps121;go_wp2_with fail;refine V.aQ ?_;rintro O ⟨Y,Z⟩;change Hid _ at Y Z;go_wp2_with fail;go_ret;exact⟨rfl,Y,Z⟩
  ·rw[aF X,pz X]
   go_enter func121,ntmps121;go_wp2_with fail;go_ret;exact⟨rfl,U,bQ.refl _ _⟩
theorem Kz{d:aI}(hx:x<36)(w:aK)(h:Dw w g S d):
  Calls prog 123 #[aY g,.string (bP x)] w fun e W=>e=bM (eV (d.there x))∧w=W:=by
 have Y:=ay (named_ok hx w);obtain⟨M,h⟩:=h;have U:=h.box.c2;have Z:=Ug h.names hx;unfold aI.there;generalize bP x=B at*;cases X:(d.names x).isSome with
 |true=>
  rw[X]at Z;rw[aF rfl];go_enter func123,ntmps123;go_wp2_with fail;refine Y.aQ ?_;rintro V rfl;go_wp2;go_ret;exact sD
 |false=>
  rw[X]at Z;rw[au bK];go_enter func123,ntmps123;go_wp2_with fail;refine Y.aQ ?_;rintro V rfl;go_wp2;go_ret;exact sD
section
open Go.Shelf Go.Sort
def abD:Go.Shelf.Ren:=⟨fun|5=>53|7=>89|n=>n,fun|23=>107|25=>9|3=>3|4=>4|20=>20|n=>n,fun|n=>n⟩
theorem aj7:Go.Proofs.SlLaysW.n5 prog abD:={
 mixed:=aW
 f5:=⟨Tryz.f53.name,bn,func53.trans (bf some aW)⟩
 f7:=func89.trans (bf some aW)
 t4:=underlying4
 a4:=Tryz.isAgg4
 z4:=Tryz.sizeOf4
 v4:=Tryz.zeroValue4
 t20:=underlying20
 a20:=Tryz.isAgg20
 z20:=Tryz.sizeOf20
 v20:=Tryz.zeroValue20
 t23:=underlying107
 a23:=Tryz.isAgg107
 z23:=Tryz.sizeOf107
 v23:=Tryz.zeroValue107}
def abE:Go.Shelf.Ren:=⟨fun|5=>165|7=>89|n=>n,fun|23=>149|25=>3|3=>68|4=>4|20=>20|n=>n,fun|n=>n⟩
theorem aj9:Go.Proofs.SlLaysW.n5 prog abE:={
 mixed:=aW
 f5:=⟨Tryz.f165.name,bn,func165.trans (bf some aW)⟩
 f7:=func89.trans (bf some aW)
 t4:=underlying4
 a4:=Tryz.isAgg4
 z4:=Tryz.sizeOf4
 v4:=Tryz.zeroValue4
 t20:=underlying20
 a20:=Tryz.isAgg20
 z20:=Tryz.sizeOf20
 v20:=Tryz.zeroValue20
 t23:=underlying149
 a23:=Tryz.isAgg149
 z23:=Tryz.sizeOf149
 v23:=Tryz.zeroValue149}
def abG:Go.Shelf.Ren:=⟨fun|5=>88|8=>131|7=>130|19=>183|20=>184|10=>174|11=>175|12=>176|13=>177|14=>178|15=>179|16=>180|17=>181|18=>182|30=>228|31=>229|32=>230|33=>231|34=>232|35=>233|40=>261|n=>n,fun|23=>34|25=>3|3=>3|32=>175|22=>34|0=>0|44=>176|46=>286|4=>4|36=>279|35=>278|41=>212|5=>5|9=>9|53=>324|57=>328|63=>352|64=>353|n=>n,fun|n=>n⟩
theorem aev:Go.Proofs.SlLaysM.n5 prog abG:={
 mixed:=aW
 f5:=⟨Tryz.f88.name,bn,func88.trans (bf some aW)⟩
 f7:=⟨Tryz.f130.name,bn,func130.trans (bf some aW)⟩
 f8:=func131.trans (bf some aW)
 f10:=⟨Tryz.f174.name,bn,func174.trans (bf some aW)⟩
 f11:=⟨Tryz.f175.name,bn,func175.trans (bf some aW)⟩
 f12:=⟨Tryz.f176.name,bn,func176.trans (bf some aW)⟩
 f13:=⟨Tryz.f177.name,bn,func177.trans (bf some aW)⟩
 f14:=⟨Tryz.f178.name,bn,func178.trans (bf some aW)⟩
 f15:=⟨Tryz.f179.name,bn,func179.trans (bf some aW)⟩
 f16:=⟨Tryz.f180.name,bn,func180.trans (bf some aW)⟩
 f17:=⟨Tryz.f181.name,bn,func181.trans (bf some aW)⟩
 f18:=⟨Tryz.f182.name,bn,func182.trans (bf some aW)⟩
 f19:=func183.trans (bf some aW)
 f20:=func184.trans (bf some aW)
 f30:=⟨Tryz.f228.name,bn,func228.trans (bf some aW)⟩
 f31:=func229.trans (bf some aW)
 f32:=func230.trans (bf some aW)
 f33:=⟨Tryz.f231.name,bn,func231.trans (bf some aW)⟩
 f34:=⟨Tryz.f232.name,bn,func232.trans (bf some aW)⟩
 f35:=⟨Tryz.f233.name,bn,func233.trans (bf some aW)⟩
 f40:=⟨Tryz.f261.name,bn,func261.trans (bf some aW)⟩
 t0:=underlying0
 a0:=Tryz.isAgg0
 z0:=Tryz.sizeOf0
 v0:=Tryz.zeroValue0
 t3:=underlying3
 a3:=Tryz.isAgg3
 z3:=Tryz.sizeOf3
 v3:=Tryz.zeroValue3
 t4:=underlying4
 a4:=Tryz.isAgg4
 z4:=Tryz.sizeOf4
 v4:=Tryz.zeroValue4
 t5:=underlying5
 a5:=Tryz.isAgg5
 z5:=Tryz.sizeOf5
 v5:=Tryz.zeroValue5
 t9:=underlying9
 a9:=Tryz.isAgg9
 z9:=Tryz.sizeOf9
 v9:=Tryz.zeroValue9
 t22:=underlying34
 a22:=Tryz.isAgg34
 z22:=Tryz.sizeOf34
 v22:=Tryz.zeroValue34
 t23:=underlying34
 a23:=Tryz.isAgg34
 z23:=Tryz.sizeOf34
 v23:=Tryz.zeroValue34
 t25:=underlying3
 a25:=Tryz.isAgg3
 z25:=Tryz.sizeOf3
 v25:=Tryz.zeroValue3
 t32:=underlying175
 a32:=Tryz.isAgg175
 z32:=Tryz.sizeOf175
 v32:=Tryz.zeroValue175
 t35:=underlying278
 a35:=Tryz.isAgg278
 z35:=Tryz.sizeOf278
 v35:=Tryz.zeroValue278
 t36:=underlying279
 a36:=Tryz.isAgg279
 z36:=Tryz.sizeOf279
 v36:=Tryz.zeroValue279
 t41:=underlying212
 a41:=Tryz.isAgg212
 z41:=Tryz.sizeOf212
 v41:=Tryz.zeroValue212
 t44:=underlying176
 a44:=Tryz.isAgg176
 z44:=Tryz.sizeOf176
 v44:=Tryz.zeroValue176
 t46:=underlying286
 a46:=Tryz.isAgg286
 z46:=Tryz.sizeOf286
 v46:=Tryz.zeroValue286
 t53:=underlying324
 a53:=Tryz.isAgg324
 z53:=Tryz.sizeOf324
 v53:=Tryz.zeroValue324
 t57:=underlying328
 a57:=Tryz.isAgg328
 z57:=Tryz.sizeOf328
 v57:=Tryz.zeroValue328
 t63:=underlying352
 a63:=Tryz.isAgg352
 z63:=Tryz.sizeOf352
 v63:=Tryz.zeroValue352
 t64:=underlying353
 a64:=Tryz.isAgg353
 z64:=Tryz.sizeOf353
 v64:=Tryz.zeroValue353}
def abH:Go.Shelf.Ren:=⟨fun|6=>92|8=>131|9=>139|19=>183|20=>184|21=>195|22=>196|23=>197|24=>198|25=>199|26=>200|27=>201|28=>202|29=>203|36=>238|31=>229|32=>230|37=>239|38=>240|39=>241|41=>263|n=>n,fun|27=>121|29=>9|3=>3|32=>175|26=>121|0=>0|44=>176|46=>286|4=>4|36=>279|35=>278|41=>212|5=>5|9=>9|53=>324|57=>328|63=>352|64=>353|n=>n,fun|n=>n⟩
theorem aew:Go.Proofs.SlLaysM.n6 prog abH:={
 mixed:=aW
 f6:=⟨Tryz.f92.name,bn,func92.trans (bf some aW)⟩
 f8:=func131.trans (bf some aW)
 f9:=⟨Tryz.f139.name,bn,func139.trans (bf some aW)⟩
 f19:=func183.trans (bf some aW)
 f20:=func184.trans (bf some aW)
 f21:=⟨Tryz.f195.name,bn,func195.trans (bf some aW)⟩
 f22:=⟨Tryz.f196.name,bn,func196.trans (bf some aW)⟩
 f23:=⟨Tryz.f197.name,bn,func197.trans (bf some aW)⟩
 f24:=⟨Tryz.f198.name,bn,func198.trans (bf some aW)⟩
 f25:=⟨Tryz.f199.name,bn,func199.trans (bf some aW)⟩
 f26:=⟨Tryz.f200.name,bn,func200.trans (bf some aW)⟩
 f27:=⟨Tryz.f201.name,bn,func201.trans (bf some aW)⟩
 f28:=⟨Tryz.f202.name,bn,func202.trans (bf some aW)⟩
 f29:=⟨Tryz.f203.name,bn,func203.trans (bf some aW)⟩
 f31:=func229.trans (bf some aW)
 f32:=func230.trans (bf some aW)
 f36:=⟨Tryz.f238.name,bn,func238.trans (bf some aW)⟩
 f37:=⟨Tryz.f239.name,bn,func239.trans (bf some aW)⟩
 f38:=⟨Tryz.f240.name,bn,func240.trans (bf some aW)⟩
 f39:=⟨Tryz.f241.name,bn,func241.trans (bf some aW)⟩
 f41:=⟨Tryz.f263.name,bn,func263.trans (bf some aW)⟩
 t0:=underlying0
 a0:=Tryz.isAgg0
 z0:=Tryz.sizeOf0
 v0:=Tryz.zeroValue0
 t3:=underlying3
 a3:=Tryz.isAgg3
 z3:=Tryz.sizeOf3
 v3:=Tryz.zeroValue3
 t4:=underlying4
 a4:=Tryz.isAgg4
 z4:=Tryz.sizeOf4
 v4:=Tryz.zeroValue4
 t5:=underlying5
 a5:=Tryz.isAgg5
 z5:=Tryz.sizeOf5
 v5:=Tryz.zeroValue5
 t9:=underlying9
 a9:=Tryz.isAgg9
 z9:=Tryz.sizeOf9
 v9:=Tryz.zeroValue9
 t26:=underlying121
 a26:=Tryz.isAgg121
 z26:=Tryz.sizeOf121
 v26:=Tryz.zeroValue121
 t27:=underlying121
 a27:=Tryz.isAgg121
 z27:=Tryz.sizeOf121
 v27:=Tryz.zeroValue121
 t29:=underlying9
 a29:=Tryz.isAgg9
 z29:=Tryz.sizeOf9
 v29:=Tryz.zeroValue9
 t32:=underlying175
 a32:=Tryz.isAgg175
 z32:=Tryz.sizeOf175
 v32:=Tryz.zeroValue175
 t35:=underlying278
 a35:=Tryz.isAgg278
 z35:=Tryz.sizeOf278
 v35:=Tryz.zeroValue278
 t36:=underlying279
 a36:=Tryz.isAgg279
 z36:=Tryz.sizeOf279
 v36:=Tryz.zeroValue279
 t41:=underlying212
 a41:=Tryz.isAgg212
 z41:=Tryz.sizeOf212
 v41:=Tryz.zeroValue212
 t44:=underlying176
 a44:=Tryz.isAgg176
 z44:=Tryz.sizeOf176
 v44:=Tryz.zeroValue176
 t46:=underlying286
 a46:=Tryz.isAgg286
 z46:=Tryz.sizeOf286
 v46:=Tryz.zeroValue286
 t53:=underlying324
 a53:=Tryz.isAgg324
 z53:=Tryz.sizeOf324
 v53:=Tryz.zeroValue324
 t57:=underlying328
 a57:=Tryz.isAgg328
 z57:=Tryz.sizeOf328
 v57:=Tryz.zeroValue328
 t63:=underlying352
 a63:=Tryz.isAgg352
 z63:=Tryz.sizeOf352
 v63:=Tryz.zeroValue352
 t64:=underlying353
 a64:=Tryz.isAgg353
 z64:=Tryz.sizeOf353
 v64:=Tryz.zeroValue353}
theorem clone_any{T:Sj prog}{F:FuncId}{b:Nat}{f:Nat→Option cO}(w:aK)(h:pK T w b f)
  (X:∀D,w.ownsMap prog T.K NT b T.lim D→Calls prog F #[.map (some b)] w fun e Z=>e=bM (.map (some w))∧Z.ownsMap prog T.K NT w T.lim D∧Z.ownsMap prog T.K NT b T.lim D∧aP w Z):
  Calls prog F #[.map (some b)] w fun e Z=>e=bM (.map (some w))∧pK T Z w f∧pK T Z b f∧aP w Z:=by
 obtain⟨D,W,Y⟩:=h;refine(X D W).aQ ?_;rintro Z ⟨V,U,S⟩;exact⟨rfl,⟨D,V,Y⟩,⟨D,U,Y⟩,S⟩
theorem Wn{b:Nat}{f:Nat→Option cO}(w:aK)(h:pK Az w b f):
  Calls prog 53 #[.map (some b)] w fun e Z=>e=bM (.map (some w))∧pK Az Z w f∧pK Az Z b f∧aP w Z:=
 clone_any w h fun D k=>AnyW.maps_Clone_owns aj7 _ _ b _ D w k
theorem adq{b:Nat}{f:Nat→Option cO}(w:aK)(h:pK XL w b f):
  Calls prog 165 #[.map (some b)] w fun e Z=>e=bM (.map (some w))∧pK XL Z w f∧pK XL Z b f∧aP w Z:=
 clone_any w h fun D k=>AnyW.maps_Clone_owns aj9 _ _ b _ D w k
end
section
variable{g mb:Nat}{j:bT}{w:aK}
theorem yh(h:Q9 w g mb j):Calls prog 44 #[aY g] w fun e Z=>e=bM j.state∧w=Z:=by
 obtain⟨Y,h⟩:=h;obtain⟨X,W,b2,V,b4⟩:=yE h.box;go_enter func44,ntmps44;go_wp2;go_ret;exact sD
theorem akc(h:Q9 w g mb j):Calls prog 190 #[aY g] w fun e Z=>e=bM j.sum∧w=Z:=by
 obtain⟨Y,h⟩:=h;obtain⟨X,W,b2,V,b4⟩:=yE h.box;go_enter func190,ntmps190;go_wp2;go_ret;exact sD
theorem En(h:Q9 w g mb j):Calls prog 72 #[aY g] w fun e Z=>e=bM j.chunks∧w=Z:=by
 obtain⟨Y,h⟩:=h;obtain⟨X,W,b2,V,b4⟩:=yE h.box;go_enter func72,ntmps72;go_wp2;go_ret;exact sD
def OA(o:Option bV):bV:=o.getD lq
theorem abJ{b:Nat}{f:Nat→Option bV}(h:pK XL w b (jmV f))(hx:x<16):(Instr.lookup 149 (.map (some b)) x true).run prog w= .ok (eP #[.agg #[aB (OA (f x)).kind,aB (OA (f x)).sum,aB (OA (f x)).num,aB (OA (f x)).len,aB (OA (f x)).code],.bool (f x).isSome]) w:=by
 have:=h.look_ok (t:=149) underlying149 (z:=F7 lq) aW hx;rw[show(jmV f x).getD (F7 lq)=F7 (OA (f x)) by unfold jmV OA;cases f x<;>rfl,show(jmV f x).isSome=(f x).isSome by unfold jmV;cases f x<;>rfl]at this;exact this
end
theorem adr{j:bT}(R:n<16)(w:aK)(h:Q9 w g mb j):Calls prog 193 #[aY g,n] w fun e T=>e=bM (eP #[])∧Q9 T g mb (j.forget n)∧bQ (fun i=>i=mb) w T:=by
 obtain⟨S,h⟩:=h;obtain⟨Q,P,b2,O,b4⟩:=yE h.box;have W:=ay h;have U:=h.ne;unfold bT.forget
 by_cases V:j.state=1
 ·rw[aF V]
  rw[show((j.state:Nat):Int)=1 by omega]at Q;clear V;have X:=R;go_enter func193,ntmps193;go_wp2_with(first|(refine Sv XL w rfl _ _ _ _ rfl underlying149 rfl W.done X rfl ?_;intro N Z Y)|fail);refine eU (by simp[results,results193,go_sem]) rfl ⟨rfl,?_,Cc Y⟩;exact⟨S,W.box.dH (Cc Y) (fun e=>U e.symm),by rw[←aj2]at Z;exact Z⟩
 ·rw[au V]
  have M:¬((j.state:Nat):Int)=1:=aj
  go_enter func193,ntmps193;go_wp2;refine eU (by simp[results,results193,go_sem]) rfl ⟨rfl,⟨S,W⟩,bQ.refl _ _⟩
theorem aij{j:bT}(w:aK)(h:Q9 w g mb j):Calls prog 108 #[BG g] w fun e K=>∃P J,e=bM (BG P)∧Q9 K P J j∧w≤P∧w≤J∧aP w K:=by
 obtain⟨I,h⟩:=h;obtain⟨E,D,b2,C,b4⟩:=yE h.box;obtain⟨-,-,-,-,-,B,A,z,y,x⟩:=h.box.s10;obtain⟨W,V,Y,S⟩:=ES w 151 (jbA j mb I);have O:=ay V;have u:=aC b4 S;obtain⟨H,R,N⟩:=dB Y S (adq W (h.done.keep S));clear V S Y h;go_enter func108,ntmps108;go_upto_region 2 with(fail)
 change Code.wp _ _ _ _ (w.alloc _);rw[←O];clear E D b2 C b4 B A z y x;go_upto_region 3 with(first|(go_at_call 165;refine N.aQ ?_;rintro G ⟨U,-,Z⟩;have Q:=H.keep Z;have s:aN G w 4 (.map (some mb)):=(Q.at rfl);have r:=Q.frozen 4)|fail)
 have F:=Q.store 4 (.map (some W));have X:=(bQ.refl (fun i=>i=w) G).setCell (p:=(aH w 4)) (fun _=>rfl) (.map (some W));have t:w.heap.size<W:=by have:=H.lt;exact this
 have T:=U.dH X aj;obtain⟨M,L,v⟩:=dB T F (eH (R.trans (Z.mono R.size)) X (R.trans (Z.mono R.size)).size (fun i q=>aj));clear Q F X U T Z;go_wp2;go_ret;exact⟨w,W.heap.size,rfl,⟨I,L,M⟩,bC _,aj,v⟩
theorem aik{j:bT}(Z:n<16)(w:aK)(h:Q9 w g mb j):Calls prog 191 #[aY g,n] w (Val w (eP #[F7 (OA (j.done n)),.bool (j.done n).isSome])):=by
 obtain⟨W,h⟩:=h;obtain⟨-,-,-,-,b4⟩:=yE h.box;have Y:=h.box.lt;have b4:=aC b4 (aJ w (aS Dq 68));have X:=abJ (h.done.keep (aJ w (aS Dq 68))) Z;generalize OA (j.done n)=R at*;generalize(j.done n).isSome=V at*;obtain⟨U,T,S,Q,P⟩:=R;go_enter func191,ntmps191;go_wp2;refine aT (by simp[results,results191,go_sem];rfl) rfl ?_;exact⟨rfl,gU w _ _⟩
theorem af5(j:bT)(m:Nat):(List.range (m+1)).filter (fun n=>(j.done n).isNone)=(List.range m).filter (fun n=>(j.done n).isNone)++if(j.done m).isNone then [m]else []:=by
 rw[jk,List.filter_append]
 congr 1
 cases h:(j.done m).isNone<;>simp[h]
theorem Uh{j:bT}(hc:0≤j.chunks∧j.chunks≤16)(w:aK)(h:Q9 w g mb j):Calls prog 71 #[aY g] w (Ve w j.missing (j.missing.map fun n:Nat=>(n:Int))):=by
 obtain⟨e0,h⟩:=h;obtain⟨-,-,b2,-,b4⟩:=yE h.box;obtain⟨V,P⟩:∃V:Nat,j.chunks=V:=⟨j.chunks.toNat,aj⟩;rw[P]at b2;have H:j.missing=(List.range V).filter (fun n=>(j.done n).isNone):=by unfold bT.missing;rw[P,Int.toNat_natCast]
 rw[H];have e:V≤16:=aj
 obtain⟨G,F,E⟩:=dB (fun K (J:aP w K) n (c:n<16)=>abJ (h.done.keep J) c) (af5 j) (fun K (J:aP w K)=>aC b4 J);go_enter func71,ntmps71;go_wp2
 go_loopg [3,4,5,6,11] V (fun k a v4 v5 v6 D wr=>∃(m N:Nat) (B:dK) (b:Nat),m+k=V∧D=m∧a=aG B N b∧N=((List.range m).filter (fun n=>(j.done n).isNone))∧N≤m∧dX Ib wr w B N b (((List.range m).filter (fun n=>(j.done n).isNone)).map fun n:Nat=>(n:Int))∧aP w wr)
 case atStart=>exact⟨0,0,none,0,aj,rfl,rfl,rfl,bC _,dX.nil _ _,aU _ _⟩
 case round=>
  obtain⟨m,N,B,b,hm,rfl,rfl,I,C,own,Y⟩:=hrel;obtain⟨X,s,U⟩:=dB Y own I
  by_cases qa:m<V
  ·have d:(m:Int)<(V:Int):=aj
   have b4:=E wr Y;have O:=G wr Y m aj;have Z:=F m;have W:=aJ wr (aS #[aB (OA (j.done m)).kind,aB (OA (j.done m)).sum,aB (OA (j.done m)).num,aB (OA (j.done m)).len,aB (OA (j.done m)).code] 68);generalize hR:OA (j.done m)=R at*;obtain⟨r,p,o,l,i⟩:=R;clear own Y I;cases S:j.done m with
   |some q=>
    have Q:(j.done m).isSome=true:=by rw[S];rfl
    rw[S]at Z;rw[show(if(some q:Option bV).isNone then [m]else [])=[]from rfl,gI]at Z;rw[Q]at O;change Hid _ at Z W;clear S Q;go_wp2;go_roundg(gk-1)
    case measure=>omega
    case rel=>exact⟨m+1,N,B,b,aj,fA,rfl,by rw[Z];exact U,aj,by rw[Z];exact s.keep W,X.trans (W.mono X.size)⟩
   |none=>
    have Q:(j.done m).isSome=false:=by rw[S];rfl
    rw[S]at Z;rw[show(if(none:Option bV).isNone then [m]else [])=[m]from rfl]at Z;rw[Q]at O;have T:=W.trans ((aJ (wr.alloc (aS #[r,p,o,l,i] 68)) (aS #[m] 3)).mono W.size);obtain⟨A,z,M⟩:=dB (bF.new1 wr (aS #[r,p,o,l,i] 68) 3 #[m]) (s.keep T) (X.trans (T.mono X.size));change Hid _ at Z;clear S Q W T;go_wp2_with(first|(at_builtin;refine BA Ib (v:=(m:Int)) rfl _ _ rfl rfl z rfl A (by show(_+1)*8≤_;omega) M.size aj ?_;intro B7 b7 w7 f L y x)|fail);have u:=ay (M.trans L);change Hid _ at f;clear L y x;go_wp2;go_roundg(gk-1)
    case measure=>omega
    case rel=>exact⟨m+1,N+1,B7,b7,aj,fA,rfl,by rw[Z,mG,←U];rfl,aj,by rw[Z,gG];exact f,u⟩
  ·obtain rfl:m=V:=aj
   have t:=ay own.own;subst I;clear own Y U C;go_wp2;go_ret;exact⟨B,b,rfl,t,X⟩
theorem af6{l:List bV}(hl:∀r∈l,jQ r=true)(hn:n≤100000000)(w:aK)(h:Qo Wh w A n l):Calls prog 186 #[aG A n c] w fun e u=>∃g K,e=bM (eP #[BG g,aB ((bT.new.run l).2:Nat)])∧Q9 u g K (bT.new.run l).1∧w≤g∧w≤K∧aP w u:=by
 obtain⟨I,HA,qa,qe⟩:=jH h.len (fun u (hw:aP w u)=>h.keep hw) (aj3 w) (fun i (J:i<l.length)=>hl l[i] (lS _));clear h hl;go_enter func186,ntmps186;go_wp2_with(go_at_call 235;refine qa.mono ?_;rintro e w1 ⟨g,K,rfl,H,G,F,E⟩);change Hid _ at H E;go_wp2_with fail
 go_loopg [5,6,10] n (fun k v5 v6 qf wr=>∃(i:Nat) (X:bT),i+k=n∧qf=i∧Q9 wr g K X∧Hid (bT.new.run l=((X.run (l.drop i)).1,i+(X.run (l.drop i)).2))∧aP w wr)
 case atStart=>exact⟨0,bT.new,aj,rfl,H,ay (by rw[List.drop_zero,dI]),E⟩
 case round=>
  obtain⟨i,X,J,rfl,T,D,W⟩:=hrel;obtain⟨U,qg⟩:=aV W T
  by_cases C:i<n
  ·have qi:(i:Int)<(n:Int):=aj
   have B:i<l:=by rw[I];exact C
   obtain⟨rb,ro,rfl,Y⟩:=(HA _ W).at_ C;have S:=qe i B;have m:=Y 0 _ rfl;have j:=Y 1 _ rfl;have f:=Y 2 _ rfl;have d:=Y 3 _ rfl;have b:=Y 4 _ rfl;simp only[Wh,dW]at m j f d b;have N:=lY B;obtain⟨R,hR⟩:=kF (l[i]);rw[←hR]at m j f d b S N;have Z:=D.out;rw[N]at Z;have z:(X.run (R::l.drop (i+1)))=if(X.apply R).2≠0 then(X,0)else(((X.apply R).1.run (l.drop (i+1))).1,((X.apply R).1.run (l.drop (i+1))).2+1):=rfl
   rw[z]at Z;have M:=aJ wr (aS (Ej R) 68);obtain⟨y,Q⟩:=aV (abC (FT S) S (wr.alloc (aS (Ej R) 68)) (T.keep M)) (U.trans (M.mono U.size));have L:=OW X R;obtain⟨t,s,q,p,o⟩:=R;clear S N z hR M T W Y
   by_cases O:(X.apply ⟨t,s,q,p,o⟩).2=0
   ·rw[au (by rw[O];simp)]at Z
    have a:Hid (eV (X.apply ⟨t,s,q,p,o⟩).2=iI):=ay (by rw[O];rfl);change Hid _ at Z;clear O L;go_wp2_with(go_at_call 128;refine y.aQ ?_;rintro w3 ⟨V,P⟩;rw[a]);have qh:=ay (eH Q P Q.size (fun i J=>by rcases J with rfl|rfl<;>assumption));change Hid _ at V;clear P m j f d b;go_wp2_with fail;go_roundg(gk-1)
    case measure=>omega
    case rel=>exact⟨i+1,_,aj,fA,V,ay (by rw[Z,iO,Nat.add_comm 1]),qh⟩
   ·rw[aF O]at Z
    have x:=L.2 O;have a:Hid (eV (X.apply ⟨t,s,q,p,o⟩).2= .iface 48 (aB (X.apply ⟨t,s,q,p,o⟩).2)):=ay (by unfold eV;rw[au O]);change Hid _ at Z x;clear O L;go_wp2_with(first|(go_at_call 128;refine y.aQ ?_;rintro w3 ⟨V,P⟩;rw[a])|fail);go_ret2;refine⟨g,K,by rw[Z];rfl,?_,G,F,eH Q P Q.size (fun i J=>by rcases J with rfl|rfl<;>assumption)⟩;rw[Z];rw[x]at V;exact V
  ·obtain rfl:i=n:=aj
   have Z:=D.out;rw[iU (by rw[I];exact bC _)]at Z;have v:Hid (bT.new.run l=(X,i)):=ay Z;clear Z T W;go_wp2_with fail;go_ret2;exact⟨g,K,by rw[v];rfl,by rw[v];exact qg,G,F,U⟩
theorem Rh(a b:Int)(w:aK):(convert 24 9 (aG w 2 2)).run prog (w.alloc (aS #[.int .u8 a,.int .u8 b] 5))= .ok (.string (strOfNums [a,b])) (w.alloc (aS #[.int .u8 a,.int .u8 b] 5)):=by
 refine run_convert_bytes_arg _ 24 5 underlying24 underlying5 w 0 2 2 [a,b] rfl ?_ 9 underlying9;intro i Z;rw[World.cell?_alloc_at _ _ _ _ bK]
 match i,Z with
 |0,_=>rfl
 |1,_=>rfl
def ail(pre:ByteArray)(n:Nat):ByteArray:=pre++strOfNums [48+(n:Int)/10,48+(n:Int)%10]
theorem Wp{pre:ByteArray}(T:n<16)(X:pre.size≤100)(w:aK):Calls prog 168 #[.string pre,n] w (Val w (.string (ail pre n))):=by
 have V:=Rh (48+(n:Int)/10) (48+(n:Int)%10) w;have Z:Hid (ail pre n=pre++strOfNums [48+(n:Int)/10,48+(n:Int)%10]):=ay rfl;have Y:(strOfNums [48+(n:Int)/10,48+(n:Int)%10]).size=2:=rfl;generalize strOfNums [48+(n:Int)/10,48+(n:Int)%10]=W at*;have U:¬9223372036854775807<pre.size+W.size:=aj
 clear Y X;go_enter func168,ntmps168;go_wp2;go_ret;exact⟨by rw[Z];rfl,aJ w _⟩
theorem ain:∀n,n<16→ail ⟨#[99,46]⟩ n=bP (iR n):=bn
theorem alU:∀n,n<16→ail ⟨#[116,46]⟩ n=bP (JF n):=bn
theorem Wq(Z:n<16)(w:aK):Calls prog 117 #[n] w (Val w (.string (bP (iR n)))):=by
 have H:=ay (Wp (pre:=⟨#[99,46]⟩) Z bn w);rw[ain n Z]at H;generalize bP (iR n)=s at*;go_enter func117,ntmps117;go_wp2_with(go_at_call 168;refine H.aQ ?_;rintro X Y);go_ret;exact⟨rfl,Y⟩
theorem akd(Z:n<16)(w:aK):Calls prog 116 #[n] w (Val w (.string (bP (JF n)))):=by
 have H:=ay (Wp (pre:=⟨#[116,46]⟩) Z bn w);rw[alU n Z]at H;generalize bP (JF n)=s at*;go_enter func116,ntmps116;go_wp2_with(go_at_call 168;refine H.aQ ?_;rintro X Y);go_ret;exact⟨rfl,Y⟩
theorem Z8(S:m≤1000000000)(hd:dV l)(w:aK)(h:Lb w A m l):Calls prog 127 #[k,n,aG A m c] w (Val w (F7 (iJ k n l))):=by
 have Z:=h.len;have Y:=aJ w (aS Dq 68);obtain⟨X,W⟩:=aV (Qj (c:=c) aj hd (w.alloc (aS Dq 68)) (h.keep Y)) (show jf l=bits .xor .u32 IntKind.u32.max (yN l m) by unfold jf;rw[Z]);obtain⟨U,T⟩:=BJ l;have V:Hid (iJ k n l=⟨k,jf l,n,m,0⟩):=ay (by unfold iJ;rw[Z]);rw[V];generalize jf l=R at*;go_enter func127,ntmps127;go_wp2_with(go_at_call 94;refine X.aQ ?_;rintro Q rfl;rw[←W]);refine aT (by simp[results,results127,go_sem];rfl) rfl ?_;exact⟨rfl,aJ w _⟩
end
end Go.Proofs.YtiaeohgghaaciaaGreatDoor
