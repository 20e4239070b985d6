import Derived.BigRegion
import Derived.Deep.RegionHeld3
import Derived.Great.BuildSlice
import Derived.StillTail
import Derived.Test.YtiaeohgghaaciaaGreatDoorB07
namespace Go.Proofs.YtiaeohgghaaciaaGreatDoor
open Go Go.Maps Go.RowKit Go.Extern.Stop Go.Stop Go.Extern Go.Proofs.Tryz
set_option linter.all false
set_option maxRecDepth 100000
set_option maxHeartbeats 4000000
section
variable{vx vy:Int}{b p:List Int}{H W c d g n x y:Nat}{A B:Option Addr}
theorem aea{v:Int}(h: -15≤v∧v≤15)(w:aK):Calls prog 321 #[v] w (Val w (.bool true)):=by
 go_enter func321,ntmps321;go_wp2;go_ret;exact⟨rfl,aU _ _⟩
theorem UL{x y:Int}(hx: -15≤x∧x≤15)(hy: -15≤y∧y≤15)(w:aK):Calls prog 301 #[afg x y] w (Val w (.bool true)):=by
 have V:=aJ w (Aj x y);obtain⟨U,T⟩:=aV (fun Y=>aea hx Y) (fun Y=>aea hy Y);have S:=bF.new w 364 #[x,y];have X:=ay (fun Y (h:Below (w.alloc (Aj x y)) (w.alloc (Aj x y)) Y)=>show aN Y w 1 (aB y) from (S.keep h).at rfl);go_enter func301,ntmps301;go_wp2_with fail;refine(U _).aQ ?_;rintro R Z;have Q:=X _ Z;go_wp2_with fail;refine(T _).aQ ?_;rintro P W;go_wp2;go_ret;exact⟨rfl,V.trans ((Z.trans (W.mono Z.size)).mono bK)⟩
theorem size_any{v:Int}(h: -1000≤v∧v≤1000)(w:aK):Calls prog 305 #[aB v] w (Val w (aB (max v (-v)))):=by
 go_enter func305,ntmps305;go_wp2;go_ret;exact⟨rfl,aU _ _⟩
theorem Vy(hx:x≤32)(hy:y≤32)(U: -15≤vx∧vx≤15)(T: -15≤vy∧vy≤15)(w:aK)(Q:Fr w W H n A p):
  Calls prog 284 #[uf W H A n c,x,y,aB 8,afg vx vy] w (Ve w 64 (gK W H p x y vx vy)):=by
 have X:=(aJ w (dA W H A n c)).trans ((aJ (w.alloc (dA W H A n c)) (Aj vx vy)).mono bK);have N:=((bF.new w 90 #[W,H,aG A n c]).alloc (Aj vx vy));have M:=(bF.new1 w (dA W H A n c) 364 #[vx,vy]);obtain⟨D,E⟩:=kF ((w.alloc (dA W H A n c)).alloc (Aj vx vy));obtain⟨L,K,J⟩:=dB (FI (c:=c) (Q.keep X)) (fun Y=>UL U T Y) (fun Y (S:Below ((w.alloc (dA W H A n c)).alloc (Aj vx vy)) ((w.alloc (dA W H A n c)).alloc (Aj vx vy)) Y)=>Px (c:=c) hx hy U T Y ((Q.keep X).keep S))
 have P:=ay (fun Y (S:Below ((w.alloc (dA W H A n c)).alloc (Aj vx vy)) ((w.alloc (dA W H A n c)).alloc (Aj vx vy)) Y)=>
  show(Y.cell? (aH w 0)=some (aB W)∧Y.cell? (aH w 1)=some (aB H)∧Y.cell? (aH w 2)=some (aG A n c))∧(Y.cell? (aH (w.heap.size+1) 0)=some (aB vx)∧Y.cell? (aH (w.heap.size+1) 1)=some (aB vy)) by
   refine⟨⟨?_,?_,?_⟩,?_,?_⟩<;>first|(rw[(N.keep S).cell];rfl)|(rw[(M.keep S).cell];rfl))
 have I:=ay X;go_enter func284,ntmps284;go_wp2_with fail;refine L.aQ ?_;rintro C V;obtain⟨_,G,F⟩:=P _ V;go_wp2_with fail;refine(K _).aQ ?_;rintro z Z;have Z:=V.trans (Z.mono V.size);obtain⟨⟨v,u,t⟩,G,F⟩:=P _ Z;go_wp2_with fail;refine(J _ Z).mono ?_;rintro e s ⟨B,b,rfl,own,R⟩;go_wp2;go_ret;have O:=Z.size;exact⟨_,_,rfl,own.lower (by simp at O;omega),I.trans ((Z.trans (R.mono O)).mono jy)⟩
def ED(a b:aO)(vx vy:Int):Int:=4*vN 64 a b+max vx (-vx)+max vy (-vy)
theorem Zj{a:aO}(M: -15≤vx∧vx≤15)(L: -15≤vy∧vy≤15)(R:Bd 0 255 a)(Q:Bd 0 255 b)(w:aK)(H:Ls w A 64 a)(G:Ls w B 64 b):
  Calls prog 286 #[aG A 64 c,aG B 64 d,afg vx vy] w (Val w (eP #[(ED a b vx vy),iI])):=by
 have X:=aJ w (Aj vx vy);have z:=ay (Ze (n:=64) (c:=c) (d:=d) aj (fun v P=>by have:=R v P;omega) (fun v P=>by have:=Q v P;omega) _ (H.keep X) (G.keep X));have q:=acL (n:=64) R Q;obtain⟨F,y,x,u⟩:=jH (bF.new w 364 #[vx,vy]) (fun Y=>UL M L Y) (fun Y=>size_any (v:=vx) aj Y) (fun Y=>size_any (v:=vy) aj Y);unfold ED;generalize vN 64 a b=s at*;change Hid _ at X;clear H G R Q;go_enter func286,ntmps286;go_wp2_with fail;refine z.aQ ?_;rintro o W;have V:=F.keep W;have O:=V.c0;have N:=V.c1;go_wp2_with fail;refine(y _).aQ ?_;rintro E Z;have Z:=W.trans (Z.mono W.size);have U:=F.keep Z;have O:=U.c0;have N:=U.c1;obtain⟨D,C⟩:=aV (Calls.grown (w:=E) (v:=aB (max vx (-vx))) fun Y _=>x Y) (Calls.grown (w:=E) (v:=aB (max vy (-vy))) fun Y _=>u Y);have t:=fun p:Go.Regrown=>Go.cell_regrown O p.d p.os
 have r:=fun p:Go.Regrown=>Go.cell_regrown N p.d p.os
 have m:IntKind.i64.wrap (4*s)=4*s:=iE _ aj;have l:IntKind.i64.wrap (4*s+max vx (-vx))=4*s+max vx (-vx):=iE _ aj;have k:IntKind.i64.wrap (4*s+max vx (-vx)+max vy (-vy))=4*s+max vx (-vx)+max vy (-vy):=iE _ aj;change Hid _ at Z;clear V U W;go_wp2
 (refine AQ aW aW ?_;(repeat(refine DV (fun K S=>?_);go_simp;first|(refine S _ ?_;clear S K)|(apply Exists.intro;refine⟨fun _=>?_,S _ ?_⟩;(focus(with_reducible first|exact D.out _|exact C.out _));clear S K)));(refine Hy ?_))
 intro j T;have J:=T.below;have I:=Z.size;clear D C t r O N T;go_wp2;go_ret2;exact⟨rfl,X.trans ((Z.trans (J.mono I)).mono bK)⟩
structure mW where
 vx:Int
 vy:Int
 cost:Int
def Dc(W H:Nat)(p b:aO)(x y:Nat)(vx vy:Int):Int:=ED (gK W H p x y vx vy) b vx vy
def Fh(W H:Nat)(p b:aO)(x y:Nat)(s:mW)(vx vy:Int):mW:=if Dc W H p b x y vx vy<s.cost then⟨vx,vy,Dc W H p b x y vx vy⟩else s
abbrev Dl(W H:Nat)(A:dK)(n c:Nat)(B:dK)(d x y:Nat)(s:mW):Array cO:=
 #[aB W,aB H,aG A n c,aG B 64 d,aB x,aB y,aB s.vx,aB s.vy,aB s.cost]
theorem ahl(h:Bd 0 255 p)(hx hy:Int):0≤FV W H p hx hy∧FV W H p hx hy≤255:=by
 have a:=KW (W:=W) (H:=H) h (hx/2) (hy/2);have b:=KW (W:=W) (H:=H) h (hx/2+1) (hy/2);have c:=KW (W:=W) (H:=H) h (hx/2) (hy/2+1);have d:=KW (W:=W) (H:=H) h (hx/2+1) (hy/2+1);unfold FV;simp only;split
 ·exact a
 ·split
  ·omega
  ·split<;>omega
theorem Ed(h:Bd 0 255 p):Bd 0 255 (gK W H p x y vx vy):=lK fun _ _=>ahl h _ _
theorem try_any{s:mW}(hx:x≤32)(hy:y≤32)(R: -15≤vx∧vx≤15)(Q: -15≤vy∧vy≤15)(G:Bd 0 255 b)(w:aK)(C:Fr w W H n A p)(l:Ls w B 64 b)
  (j:bF w g 410 (Dl W H A n c B d x y s)):
  Calls prog 304 #[aY g,afg vx vy] w fun e V=>e=bM (eP #[])∧bF V g 410 (Dl W H A n c B d x y (Fh W H p b x y s vx vy))∧bQ (fun i=>i=g) w V:=by
 have U:=aJ w (Aj vx vy);have Z:=j.keep U;obtain⟨L,h,F,HG,HB⟩:=rG (bF.new w 364 #[vx,vy]) (fun V (K:Below (w.alloc (Aj vx vy)) (w.alloc (Aj vx vy)) V)=>Px (c:=c) hx hy R Q V ((C.keep U).keep K)) (fun V f a (K:Below (w.alloc (Aj vx vy)) (w.alloc (Aj vx vy)) V) (hl:Ls V f 64 (gK W H p x y vx vy))=>Zj (c:=a) (d:=d) R Q (Ed C.bd) G V hl ((l.keep U).keep K)) Z U;unfold Fh Dc;generalize gK W H p x y vx vy=q at*;generalize ED q b vx vy=k at*;go_enter func304,ntmps304;obtain⟨z,v,u,t,r,o⟩:=Z.s6;have J:=L.c0;have I:=L.c1;have P:=aU (w.alloc (Aj vx vy)) (w.alloc (Aj vx vy));go_wp2
 go_region_held3(fun S=>aN S g 0 (aB W)∧aN S g 1 (aB H)∧aN S g 2 (aG A n c)∧aN S g 3 (aG B 64 d)∧aN S g 4 (aB x)∧aN S g 5 (aB y)∧aN S w 0 (aB vx)∧aN S w 1 (aB vy))
  (first|(exact⟨z,v,u,t,r,o,J,I⟩)|(exact⟨aC z X,aC v X,aC u X,aC t X,aC r X,aC o X,aC J X,aC I X⟩)|fail)
  (first
    |(go_at_call 302;refine(h _ P.drew).mono ?_;rintro e w1 ⟨B1,b1,rfl,M,E⟩;have X:=P.drew.trans E)
    |(go_at_call 286;refine(F _ _ _ X M.ls).aQ ?_;rintro m D;have X:=X.trans (D.mono X.size))
    |fail)
 have T:Below (w.alloc (Aj vx vy)) (w.alloc (Aj vx vy)) m:=by assumption
 obtain⟨sx,sy,sc⟩:=s;have Y:=HG.keep T;have g8:=Y.c8;have g7:=Y.c7;have g6:=Y.c6;have f8:=Y.frozen 8;have f7:=Y.frozen 7;have f6:=Y.frozen 6;have J:=(L.keep T).c0;have I:=(L.keep T).c1;have O:Hid (bQ (fun i=>i=g) w m):=ay (bQ.of_below (HB.trans (T.mono bK)));have N:=ay Y
 by_cases hc:k<sc
 ·go_wp2
  refine eU (by simp[results,results304,go_sem]) rfl ⟨rfl,?_,((O.out.setCell (fun _=>rfl) _).setCell (fun _=>rfl) _).setCell (fun _=>rfl) _⟩;exact((N.store 6 _).store 7 _).store 8 _
 ·go_wp2
  exact eU (by simp[results,results304,go_sem]) rfl ⟨rfl,N,O.out⟩
end
section
variable{a:Act}{cs:Array Value}{Q:Exit→Act→World→Prop}{mode vx vy:Int}{l p:List Int}{rest:List Oper}{H H2 N W W2 base c' c2 d g i j k m qp x y:Nat}{S:Nat→Prop}{o:Oper}{A2 B L:Option Addr}{t:TypeId}{w:World}
structure Sq where
 kind:Int:=0
 mode:Int:=0
 m0:Int:=0
 m1:Int:=0
 m2:Int:=0
 m3:Int:=0
 vx:Int:=0
 vy:Int:=0
 L:cO:=bU
 s0:cO:=bU
 s1:cO:=bU
 s2:cO:=bU
 s3:cO:=bU
abbrev Sq.c(s:Sq):Array cO:=#[aB s.kind,aB s.mode,aB s.m0,aB s.m1,aB s.m2,aB s.m3,aB s.vx,aB s.vy,s.L,s.s0,s.s1,s.s2,s.s3]
abbrev Sq.v(s:Sq):cO:=.agg s.c
theorem GZ(w:aK)(Z Y X:Obj):aP w (((w.alloc Z).alloc Y).alloc X):=
 ((aJ w Z).trans ((aJ (w.alloc Z) Y).mono bK)).trans ((aJ ((w.alloc Z).alloc Y) X).mono jy)
theorem ahm{c:Nat}(T:qp≤15)(Z:0≤mode∧mode≤3)(hx:x+8≤W)(hy:y+8≤H)(R:Bd (-16320) 16320 l)(w:aK)
  (Q:Jr w base W H N g c p) (P:Ls w L 64 l):
  Calls prog 274 #[uf W H g N c,uf W2 H2 A2 j c2,x,y,qp,({kind:=2,mode:=mode,L:=aG L 64 d}:Sq).v] w
   fun e U=>e=bM (eP #[])∧Jr U base W H N g c (AO W x y 8 6 qp mode l p)∧bQ (fun i=>i=g) w U:=by
 have Y:=GZ w (dA W H g N c) (dA W2 H2 A2 j c2) (.cells ({kind:=2,mode:=mode,L:=aG L 64 d}:Sq).c 367);obtain⟨O,M⟩:=aV (acN (n:=8) (K:=6) (d:=d) (.inr ⟨rfl,rfl⟩) T Z hx hy R _ (Q.keep Y) (P.keep Y)) (bQ.of_below (S:=fun i=>i=g) Y);go_enter func274,ntmps274;go_wp2_with fail;refine O.aQ ?_;rintro G ⟨X,V⟩;obtain⟨J,I⟩:=aV X (M.trans V);go_wp2;exact eU (by simp[results,results274,go_sem]) rfl ⟨rfl,J,I⟩
theorem ahn{c:Nat}{r:aO}(hx:x+8≤W)(hy:y+8≤H)(w:aK)
  (U:Jr w base W H N g c p) (M:Fr w W H j A2 r):
  Calls prog 274 #[uf W H g N c,uf W H A2 j c2,x,y,qp,({}:Sq).v] w
   fun e T=>e=bM (eP #[])∧Jr T base W H N g c (DI W x y 8 (gK W H r x y 0 0) p)∧bQ (fun i=>i=g) w T:=by
 have G:=GZ w (dA W H g N c) (dA W H A2 j c2) (.cells ({}:Sq).c 367);have a:=U.wd.2;have hH:=U.ht.2;have hg:=U.lt;have L:=U.own.len;have K:=U.fr.bd;have J:=Ed (W:=W) (H:=H) (x:=x) (y:=y) (vx:=0) (vy:=0) M.bd
 have h:=ay (fun T (hw:Below (((w.alloc (dA W H g N c)).alloc (dA W H A2 j c2)).alloc (.cells ({}:Sq).c 367)) (((w.alloc (dA W H g N c)).alloc (dA W H A2 j c2)).alloc (.cells ({}:Sq).c 367)) T)=>
  Vy (c:=c2) (x:=x) (y:=y) (vx:=0) (vy:=0) aj aj aj aj T ((M.keep G).keep hw))
 obtain⟨H4,f⟩:=aV (fun T B b' (q:aO) (F:Own T base g N c p) (hB:Ls T B 64 q) (hd:64≤b') (o:∀r,B=some r→r.block≠g)=>acE (x:=x) (y:=y) (m:=8) aj rfl a hH hx hy U.size T F hB hd o) (U.own.keep G)
 have I:=ay (fun T (F:Own T base g N c (DI W x y 8 (gK W H r x y 0 0) p))=>show Jr T base W H N g c (DI W x y 8 (gK W H r x y 0 0) p)from
  ⟨U.wd,U.ht,U.size,UK U.may (by rw[F.len,L]) (Fg K J 8),F⟩)
 have d:=ay G;have E:=((bF.new w 90 #[W,H,aG g N c]).alloc (dA W H A2 j c2)).alloc (.cells ({}:Sq).c 367);have D:=(bF.new1 w (dA W H g N c) 90 #[W,H,aG A2 j c2]).alloc (.cells ({}:Sq).c 367);obtain⟨V,Z⟩:∃V:aK,V=((w.alloc (dA W H g N c)).alloc (dA W H A2 j c2)).alloc (.cells ({}:Sq).c 367):=⟨_,rfl⟩;have A:V.cell? (aH w 0)=some (aB W):=by rw[Z,E.cell];rfl
 have z:V.cell? (aH w 1)=some (aB H):=by rw[Z,E.cell];rfl
 have u:V.cell? (aH w 2)=some (aG g N c):=by rw[Z,E.cell];rfl
 have t:V.cell? (aH (w.heap.size+1) 0)=some (aB W):=by rw[Z,D.cell];rfl
 have s:V.cell? (aH (w.heap.size+1) 1)=some (aB H):=by rw[Z,D.cell];rfl
 have b2:V.cell? (aH (w.heap.size+1) 2)=some (aG A2 j c2):=by rw[Z,D.cell];rfl
 have Q:V.heap.size=w+3:=by rw[Z];simp
 have P:w≠g:=aj
 have R:w.heap.size+1≠g:=aj
 rw[←Z]at h f d;clear U M G E D K J L;go_enter func274,ntmps274;go_wp2;change Code.wp _ _ _ _ (((w.alloc (dA W H g N c)).alloc (dA W H A2 j c2)).alloc (.cells ({}:Sq).c 367));rw[←Z];have Y:=aU V V;change Hid _ at Q;clear Z
 go_region_held3(fun O=>(O.cell? (aH w 0)=some (aB W)∧O.cell? (aH w 1)=some (aB H)∧O.cell? (aH w 2)=some (aG g N c))∧
   (O.cell? (aH (w.heap.size+1) 0)=some (aB W)∧O.cell? (aH (w.heap.size+1) 1)=some (aB H)∧O.cell? (aH (w.heap.size+1) 2)=some (aG A2 j c2)))
  (first
    |(exact⟨⟨A,z,u⟩,t,s,b2⟩)
    |(exact⟨⟨bG (aC A Y) X P,bG (aC z Y) X P,bG (aC u Y) X P⟩,bG (aC t Y) X R,bG (aC s Y) X R,bG (aC b2 Y) X R⟩)
    |(exact⟨⟨aC A Y,aC z Y,aC u Y⟩,aC t Y,aC s Y,aC b2 Y⟩)|fail)
  (first
    |(go_at_call 284;refine(h _ Y.drew).mono ?_;rintro e w3 ⟨B3,b3,rfl,C,n⟩;have Y:aP V w3:=Y.drew.trans n)
    |(go_at_call 293;refine(H4 _ _ _ _ (f.keep Y) C.ls C.cap (fun r M=>by have h1:=(C.row.lt r.block (by subst M;rfl)).1;have h2:V≤r.block:=h1;have:=Q.out;omega)).aQ ?_;rintro w4 ⟨b,X⟩)
    |fail)
 obtain⟨l,k⟩:=aV (I _ b) ((bQ.of_below (S:=fun i=>i=g) (d.trans (Y.mono (by have:=Q.out;omega)))).trans X);clear b X C;go_wp2;exact eU (by simp[results,results274,go_sem]) rfl ⟨rfl,l,k⟩
theorem aho{c:Nat}{r:aO}(hq:qp≤15)(qa: -15≤vx∧vx≤15)(qe: -15≤vy∧vy≤15)(hl:Bd (-16320) 16320 l)(hx:x+8≤W)(hy:y+8≤H)(w:aK)
  (T:Jr w base W H N g c p) (G:Fr w W H j A2 r) (hL:Ls w L 64 l):
  Calls prog 274 #[uf W H g N c,uf W H A2 j c2,x,y,qp,({kind:=1,vx:=vx,vy:=vy,L:=aG L 64 d}:Sq).v] w
   fun e U=>e=bM (eP #[])∧Jr U base W H N g c (DI W x y 8 (GY 6 qp (gK W H r x y vx vy) l) p)∧bQ (fun i=>i=g) w U:=by
 have F:=GZ w (dA W H g N c) (dA W H A2 j c2) (.cells ({kind:=1,vx:=vx,vy:=vy,L:=aG L 64 d}:Sq).c 367);have hW:=T.wd.2;have hH:=T.ht.2;have hg:=T.lt;have D:p=N:=T.own.len;have C:=T.fr.bd;have A:=Ed (W:=W) (H:=H) (x:=x) (y:=y) (vx:=vx) (vy:=vy) G.bd
 have H1:=ay (fun U (o:Below (((w.alloc (dA W H g N c)).alloc (dA W H A2 j c2)).alloc (.cells ({kind:=1,vx:=vx,vy:=vy,L:=aG L 64 d}:Sq).c 367)) (((w.alloc (dA W H g N c)).alloc (dA W H A2 j c2)).alloc (.cells ({kind:=1,vx:=vx,vy:=vy,L:=aG L 64 d}:Sq).c 367)) U)=>
  Vy (c:=c2) (x:=x) (y:=y) (vx:=vx) (vy:=vy) aj aj qa qe U ((G.keep F).keep o))
 obtain⟨H3,H4,HO⟩:=dB (fun U P c' (o:Below (((w.alloc (dA W H g N c)).alloc (dA W H A2 j c2)).alloc (.cells ({kind:=1,vx:=vx,vy:=vy,L:=aG L 64 d}:Sq).c 367)) (((w.alloc (dA W H g N c)).alloc (dA W H A2 j c2)).alloc (.cells ({kind:=1,vx:=vx,vy:=vy,L:=aG L 64 d}:Sq).c 367)) U) (hP:Ls U P 64 (gK W H r x y vx vy))=>ahi (K:=6) (c:=c') (d:=d) (.inr rfl) hq A hl U hP ((hL.keep F).keep o)) (fun U B b' (q:aO) (u:Own U base g N c p) (hB:Ls U B 64 q) (hd:64≤b') (qf:∀r,B=some r→r.block≠g)=>acE (x:=x) (y:=y) (m:=8) aj rfl hW hH hx hy T.size U u hB hd qf) (T.own.keep F)
 have z:=ay (fun U (u:Own U base g N c (DI W x y 8 (GY 6 qp (gK W H r x y vx vy) l) p))=>show Jr U base W H N g c (DI W x y 8 (GY 6 qp (gK W H r x y vx vy) l) p)from
  ⟨T.wd,T.ht,T.size,UK T.may (by rw[u.len,D]) (Fg C RG 8),u⟩)
 have HB:=ay F;have t:=((bF.new w 90 #[W,H,aG g N c]).alloc (dA W H A2 j c2)).alloc (.cells ({kind:=1,vx:=vx,vy:=vy,L:=aG L 64 d}:Sq).c 367);have s:=(bF.new1 w (dA W H g N c) 90 #[W,H,aG A2 j c2]).alloc (.cells ({kind:=1,vx:=vx,vy:=vy,L:=aG L 64 d}:Sq).c 367);obtain⟨V,Y⟩:∃V:aK,V=((w.alloc (dA W H g N c)).alloc (dA W H A2 j c2)).alloc (.cells ({kind:=1,vx:=vx,vy:=vy,L:=aG L 64 d}:Sq).c 367):=⟨_,rfl⟩;have n:V.cell? (aH w 0)=some (aB W):=by rw[Y,t.cell];rfl
 have k:V.cell? (aH w 1)=some (aB H):=by rw[Y,t.cell];rfl
 have h:V.cell? (aH w 2)=some (aG g N c):=by rw[Y,t.cell];rfl
 have E:=bF.new ((w.alloc (dA W H g N c)).alloc (dA W H A2 j c2)) 367 ({kind:=1,vx:=vx,vy:=vy,L:=aG L 64 d}:Sq).c;simp only[World.size_alloc]at E;have f:V.cell? (aH (w.heap.size+1+1) 6)=some (aB vx):=by rw[Y,E.cell];rfl
 have b:V.cell? (aH (w.heap.size+1+1) 7)=some (aB vy):=by rw[Y,E.cell];rfl
 have a:V.cell? (aH (w.heap.size+1+1) 8)=some (aG L 64 d):=by rw[Y,E.cell];rfl
 have b0:V.cell? (aH (w.heap.size+1) 0)=some (aB W):=by rw[Y,s.cell];rfl
 have b1:V.cell? (aH (w.heap.size+1) 1)=some (aB H):=by rw[Y,s.cell];rfl
 have b2:V.cell? (aH (w.heap.size+1) 2)=some (aG A2 j c2):=by rw[Y,s.cell];rfl
 have J:V.heap.size=w+3:=by rw[Y];simp
 have I:w≠g:=aj
 have R:w.heap.size+1≠g:=aj
 have Q:w.heap.size+1+1≠g:=aj
 rw[←Y]at H1 H3 HO HB;clear T G F hL hl t s E C A D;go_enter func274,ntmps274;go_wp2_with fail;change Code.wp _ _ _ _ (((w.alloc (dA W H g N c)).alloc (dA W H A2 j c2)).alloc (.cells ({kind:=1,vx:=vx,vy:=vy,L:=aG L 64 d}:Sq).c 367));rw[←Y];have Z:=aU V V;change Hid _ at J;clear Y
 go_region_held3(fun O=>(O.cell? (aH w 0)=some (aB W)∧O.cell? (aH w 1)=some (aB H)∧O.cell? (aH w 2)=some (aG g N c))∧
   (O.cell? (aH (w.heap.size+1) 0)=some (aB W)∧O.cell? (aH (w.heap.size+1) 1)=some (aB H)∧O.cell? (aH (w.heap.size+1) 2)=some (aG A2 j c2))∧
   (O.cell? (aH (w.heap.size+1+1) 6)=some (aB vx)∧O.cell? (aH (w.heap.size+1+1) 7)=some (aB vy)∧O.cell? (aH (w.heap.size+1+1) 8)=some (aG L 64 d)))
  (first
    |(exact⟨⟨n,k,h⟩,⟨b0,b1,b2⟩,f,b,a⟩)
    |(exact⟨⟨bG (aC n Z) X I,bG (aC k Z) X I,bG (aC h Z) X I⟩,⟨bG (aC b0 Z) X R,bG (aC b1 Z) X R,bG (aC b2 Z) X R⟩,bG (aC f Z) X Q,bG (aC b Z) X Q,bG (aC a Z) X Q⟩)
    |(exact⟨⟨aC n Z,aC k Z,aC h Z⟩,⟨aC b0 Z,aC b1 Z,aC b2 Z⟩,aC f Z,aC b Z,aC a Z⟩)|fail)
  (first
    |(go_at_call 284;refine(H1 _ Z.drew).mono ?_;rintro e w3 ⟨B3,b3,rfl,M,qg⟩;have Z:aP V w3:=Z.drew.trans qg;have qh:=Z.size)
    |(go_at_call 294;refine(H3 _ _ _ Z M.ls).mono ?_;rintro e w5 ⟨B3,b3,rfl,M,qi⟩;have Z:aP V w5:=Z.trans (qi.mono Z.size);have M:=M.lower qh)
    |(go_at_call 293;refine(H4 _ _ _ _ (HO.keep Z) M.ls M.cap (fun r G=>by have h1:=(M.row.lt r.block (by subst G;rfl)).1;have h2:V≤r.block:=h1;have:=J.out;omega)).aQ ?_;rintro w4 ⟨o4,X⟩)
    |fail)
 obtain⟨qj,qk⟩:=aV (z _ o4) ((bQ.of_below (S:=fun i=>i=g) (HB.trans (Z.mono (by have:=J.out;omega)))).trans X);clear o4 X M;go_wp2_with fail;exact eU (by simp[results,results274,go_sem]) rfl ⟨rfl,qj,qk⟩
theorem bF.row(h:bF w g t cs)(Z:Array cO):bF (w.setRow g Z) g t Z:=setRow_heap w g cs Z t (0,0) h
theorem Sq.cells_one{s:Sq}(h1:s.L.oneCell'=true∧s.s0.oneCell'=true∧s.s1.oneCell'=true∧s.s2.oneCell'=true∧s.s3.oneCell'=true):s.c.all (·.oneCell')=true:=by
 obtain⟨a,b,c,d,e⟩:=h1;simp only[Sq.c,List.all_toArray,List.all_cons,List.all_nil,a,b,c,d,e];rfl
theorem take_any{x cost:Int}{Z s:Sq}(w:aK)(K:bF w k 3 #[x])(J:bF w j 367 Z.c)(h1:s.L.oneCell'=true∧s.s0.oneCell'=true∧s.s1.oneCell'=true∧s.s2.oneCell'=true∧s.s3.oneCell'=true):
  Calls prog 281 #[s.v,cost,aY k,aY j] w fun e T=>e=bM (eP #[])∧
   bF T k 3 #[aB (if x<0∨cost<x then cost else x)]∧bF T j 367 (if x<0∨cost<x then s else Z).c∧bQ (fun i=>i=k∨i=j) w T:=by
 have Y:=aJ w (aS s.c 367);have X:=K.keep Y;have P:=J.keep Y;have V:=K.apart J bn;have F:=X.c0;obtain⟨H,R⟩:=aV X P;have O:=Sq.cells_one h1;have I:=ay (bQ.of_below (S:=fun i=>i=k∨i=j) Y)
 by_cases Q:x<0∨cost<x
 ·simp only[aF Q]
  have U:bQ (fun i=>i=j) (w.alloc (aS s.c 367)) ((w.alloc (aS s.c 367)).setRow j s.c):=Ai _ _ _;have W:=X.dH U V;have E:=W.c0;have D:((w.alloc (aS s.c 367)).setRow j s.c).frozen? (aH k 0)=false:=W.frozen 0;obtain⟨N,M⟩:=aV W U;have G:(decide (x<0)||decide (cost<x))=true:=by simp;exact Q
  go_enter func281,ntmps281;go_wp2_with(refine wpList_store_rowTo rfl 367 (.tmp 3) (.tmp 13) rfl rfl j s.c rfl rfl 367 Z.c R rfl rfl O ?_)
  all_goals exact eU (by simp[results,results281,go_sem]) rfl ⟨rfl,N.store 0 cost,(R.row s.c).far V.symm _,(I.trans (M.mono fun _ _ h=>.inr h)).setCell (fun _=>.inl rfl) cost⟩
 ·simp only[au Q]
  go_enter func281,ntmps281;go_wp2;exact eU (by simp[results,results281,go_sem]) rfl ⟨rfl,H,R,I⟩
structure tJ(α:Type) where
 S:TypeId
 T:TypeId
 k:Nat
 bytes:Nat
 z:cO
 enc:α→List cO
 und:prog.underlying S=some (.slice T)
 info:(prog.info? T).map (fun i=>(i.zero,i.size,i.bytes))=some (some z,k,bytes)
 zs:z.cells.size=k
 pos:0<k
 hk:∀a,(enc a).length=k
 one:∀a,∀u∈enc a,u.oneCell'=true
section
variable{α:Type}(R:tJ α)
def tJ.flat(l:List α):List cO:=l.flatMap R.enc
theorem tJ.aaX(l:List α):(R.flat l).length=l*R.k:=by
 induction l with
 |nil=>simp[tJ.flat]
 |cons a l Z=>
  have:R.flat (a::l)=R.enc a++R.flat l:=rfl;rw[this,mG,Z,R.hk,xQ,sO];omega
theorem tJ.Qn(l m:List α):R.flat (l++m)=R.flat l++R.flat m:=by simp[tJ.flat]
theorem tJ.Nj(a:α):R.flat [a]=R.enc a:=by simp[tJ.flat]
theorem tJ.flat_get{l:List α}(hi:i<l)(Y:j<R.k):(R.flat l)[i*R.k+j]? =(R.enc l[i])[j]? :=by
 induction l generalizing i with
 |nil=>simp at hi
 |cons a l Z=>
  have e:R.flat (a::l)=R.enc a++R.flat l:=rfl;rw[e];cases i with
  |zero=>
   rw[JD (by rw[R.hk];omega)];simp
  |succ i=>
   rw[ET (by rw[R.hk,sO];omega)];have:=Z (i:=i) (by simpa using hi);rw[show(i+1)*R.k+j-(R.enc a).length=i*R.k+j by rw[R.hk,sO];omega,this];simp
theorem tJ.RH(l:List α):∀u∈R.flat l,u.oneCell'=true:=by
 intro u Z;obtain⟨a,-,Z⟩:=List.mem_flatMap.1 Z;exact R.one a u Z
structure Qo(w:World)(A:Option Addr)(n:Nat)(l:List α):Prop where
 len:l.length=n
 rd:Rd w R.k A n (R.flat l)
structure dX(w:World)(base:Nat)(A:Option Addr)(n c:Nat)(l:List α):Prop where
 len:l.length=n
 row:w.ownsRow base R.T R.k (aG A n c) n (R.flat l)
variable{R}{w w':aK}{A:dK}{n c base:Nat}{l:List α}
theorem Qo.keep(h:Qo R w A n l)(Z:aP w w'):Qo R w' A n l:=⟨h.len,Rd.keep h.rd Z⟩
theorem Qo.dH{S:Nat→Prop}(h:Qo R w A n l)(Z:bQ S w w')(Y:∀i,In A i→¬S i):Qo R w' A n l:=⟨h.len,h.rd.dH Z (fun p X=>Y _ ⟨p,X,rfl⟩)⟩
theorem Qo.at_(h:Qo R w A n l)(hi:i<n):∃b o,A=some (aH b o)∧∀j v,(R.enc (l[i]'(by rw[h.len];exact hi)))[j]? =some v→aN w b (o+i*R.k+j) v:=by
 obtain⟨b,o,Y,X⟩:=h.rd.2 aj;refine⟨b,o,Y,fun j v Z=>?_⟩
 have W:j<R.k:=by
  have:=(lX.1 Z).1;rwa[R.hk]at this
 have:=X (i*R.k+j) v (by rw[tJ.flat_get R (by rw[h.len];exact hi) W];exact Z);rw[iO];exact this
theorem Qo.none(w:aK):Qo R w Option.none 0 []:=⟨rfl,Rd.nil⟩
theorem dX.ls(h:dX R w base A n c l):Qo R w A n l:=⟨h.len,Rd.ER h.row⟩
theorem dX.keep(h:dX R w base A n c l)(Z:aP w w'):dX R w' base A n c l:=⟨h.len,oH h.row Z⟩
theorem dX.alloc(h:dX R w base A n c l)(o:Obj):dX R (w.alloc o) base A n c l:=⟨h.len,h.row.alloc o⟩
theorem dX.drew(h:dX R w base A n c l):dX R w.drew base A n c l:=h.keep (aU _ _).drew
theorem dX.lower(h:dX R w base A n c l){b:Nat}(Z:b≤base):dX R w b A n c l:=⟨h.len,own_base h.row Z⟩
theorem dX.dH(h:dX R w base A n c l)(Y:bQ S w w')(X:∀i,In A i→¬S i):dX R w' base A n c l:=⟨h.len,mO h.row Y (fun i Z=>by
 rcases A with _|p
 ·simp[Value.ownBlock]at Z
 ·simp only[Value.ownBlock,fD]at Z
  exact X i ⟨p,rfl,Z⟩)⟩
theorem dX.nil(w:aK)(base:Nat):dX R w base Option.none 0 0 []:=⟨rfl,iM _ _ _ _⟩
theorem dX.dN(h:dX R w base A n c l)(hi:In A i):base≤i∧i<w:=by
 obtain⟨p,rfl,rfl⟩:=hi;exact h.row.lt p.block rfl
theorem info_parts'(R:tJ α):∃i,prog.info? R.T=some i∧i.zero=some R.z∧i.size=R.k∧i.bytes=R.bytes:=iq R.info
theorem acO{A:dK}{n c:Nat}(h:(Value.slice B n c).ownBlock=(Value.slice A m d).ownBlock∨(Value.slice B n c).ownBlock=some H):∀i,In B i→In A i∨H≤i:=by
 rintro i ⟨p,rfl,rfl⟩;rcases h with h|h
 ·rcases A with _|q
  ·simp[Value.ownBlock]at h
  ·simp only[Value.ownBlock,fD]at h
   exact .inl ⟨q,rfl,h.symm⟩
 ·simp only[Value.ownBlock,fD]at h
  exact .inr aj
theorem Zk{w w':aK}{A:dK}{n c:Nat}(h:w.grownBy w' (Value.slice A n c).ownBlock):bQ (In A) w w':=bQ.xB h fun i _ Z=>by
 rcases A with _|p
 ·simp[Value.ownBlock]at Z
 ·simp only[Value.ownBlock,fD]at Z
  exact⟨p,rfl,Z.symm⟩
theorem aaY{W:Array Oper}{w:aK}(R:tJ α)(P:o.guard=none)(s x:Operand)
  (J:o.op= .call {callee:=.builtin .append,args:=#[s,x],argTypes:=#[R.S,R.S]})
 {base n c:Nat} {A:dK} {l r:List α} (I:a.eval s=aG A n c) (Y:dX R w base A n c l)
  (hx:a.eval x=aG B m c') (L:Qo R w B m r) (H:(n+m)*R.bytes≤140737488355328) (K:base≤w) (D:n+m≤1000000000)
  (h:∀B X w',dX R w' base B (n+m) X (l++r)→Below base w w'→bQ (In A) w w'→(∀i,In B i→In A i∨w≤i)→wpList prog W Q rest (a.put o.dst (aG B (n+m) X)) w'):
  wpList prog W Q (o::rest) a w:=by
  obtain⟨G,F,O,N,M⟩:=info_parts' R;refine yL _ P s x _ J base R.T G _ R.k R.bytes R.und F O N M R.zs R.pos _ n _ I Y.row B m c' _ hx L.rd (R.RH r) (by unfold maxLen;omega) H K ?_;intro C X z V Z U;exact h _ _ _ ⟨by simp[Y.len,L.len],by rw[R.Qn];exact V⟩ ((aU base w).grown Z K (fun k E=>(Y.row.lt k E).1)) (Zk Z) (acO U)
theorem BA{Z:Array Oper}{w:aK}(R:tJ α)(Y:o.guard=none)(s x:Operand)
  (U:o.op= .call {callee:=.builtin .append,args:=#[s,x],argTypes:=#[R.S,R.S]})
 {base n c:Nat} {A:dK} {l:List α} {v:α} (P:a.eval s=aG A n c) (X:dX R w base A n c l)
  (hx:a.eval x=aG g 1 c') (O:w.heap[g]? =some (.cells (R.enc v).toArray R.T (0,0))) (N:(n+1)*R.bytes≤140737488355328) (M:base≤w) (W:n+1≤1000000000)
  (h:∀B cap w',dX R w' base B (n+1) cap (l++ [v])→Below base w w'→bQ (In A) w w'→(∀i,In B i→In A i∨w≤i)→wpList prog Z Q rest (a.put o.dst (aG B (n+1) cap)) w'):
  wpList prog Z Q (o::rest) a w:=by
  refine aaY R Y s x U P X hx (r:=[v]) ⟨rfl,⟨by rw[R.Nj,R.hk];omega,fun _=>⟨g,0,rfl,fun j u V=>?_⟩⟩⟩ N M W h;rw[R.Nj]at V;rw[dI,cell_of_row w g j _ _ (0,0) O];simpa using V
end
def Py:tJ (Nat × Nat) where
 S:=91
 T:=189
 k:=2
 bytes:=16
 z:=.agg #[aB 0,aB 0]
 enc:=fun x=>[aB x.1,aB x.2]
 und:=underlying91
 info:=aW
 zs:=rfl
 pos:=bn
 hk:=fun _=>rfl
 one:=fun a u Z=>by simp at Z;rcases Z with rfl|rfl<;>rfl
structure Sl where
 A:dK
 n:Nat
 c:Nat
def slR:tJ Sl where
 S:=303
 T:=34
 k:=1
 bytes:=24
 z:=bU
 enc:=fun x=>[aG x.A x.n x.c]
 und:=underlying303
 info:=aW
 zs:=rfl
 pos:=bn
 hk:=fun _=>rfl
 one:=fun a u Z=>by simp at Z;subst Z;rfl
end
section
variable{a:Act}{Q:Exit→Act→World→Prop}{mode:Int}{b l p:List Int}{rest:List Oper}{H H2 K N W W2 base c c2 d g i j k n qp x y:Nat}{S:Nat→Prop}{o:Oper}{A A2 B:Option Addr}{w w':World}
def kX(W x y n:Nat)(p b:aO):Int × Int:=ny n b (uQ W p x y n) (rC W p x y n) (yP W p x y) 4
def FW(W x y n:Nat)(p:aO)(mode:Int):aO:=vZ mode n (uQ W p x y n) (rC W p x y n) (yP W p x y)
def Df(W x y n K qp:Nat)(p b:aO):aO:=xY K qp b (FW W x y n p (kX W x y n p b).1)
theorem RI{n:Nat}{b t l:aO}{c:Int}(Z:n=4∨n=8)(Y:Bd 0 255 b)(ht:Bd 0 255 t)(X:Bd 0 255 l):∀m,(0≤(ny n b t l c m).1∧(ny n b t l c m).1≤m)∧-1≤(ny n b t l c m).2∧(ny n b t l c m).2≤16320
 |0=>by simp[ny]
 |m+1=>by
  have V:=RI (c:=c) Z Y ht X m;have U:=acL (n:=n*n) Y (Nh (c:=c) (mode:=m) Z ht X);have W:((n*n:Nat):Int)≤64:=by rcases Z with rfl|rfl<;>decide
  unfold ny;simp only;split
  ·simp only;omega
  ·omega
theorem Jb(Y:n=4∨n=8)(Z:Bd 0 255 p)(X:Bd 0 255 b):(0≤(kX W x y n p b).1∧(kX W x y n p b).1≤3)∧-1≤(kX W x y n p b).2∧(kX W x y n p b).2≤16320:=by
 have V:=RI (c:=yP W p x y) Y X (t:=uQ W p x y n) (l:=rC W p x y n) (lK fun _ _=>Ja Z _ _) (lK fun _ _=>Ja Z _ _) 3
 have U:(ny n b (uQ W p x y n) (rC W p x y n) (yP W p x y) 4).1≤3:=by
  unfold ny;simp only;split
  ·simp
  ·omega
 have T:=RI (c:=yP W p x y) Y X (t:=uQ W p x y n) (l:=rC W p x y n) (lK fun _ _=>Ja Z _ _) (lK fun _ _=>Ja Z _ _) 4;unfold kX;omega
theorem IX(Y:n=4∨n=8)(Z:Bd 0 255 p):Bd 0 255 (FW W x y n p mode):=Nh Y (lK fun _ _=>Ja Z _ _) (lK fun _ _=>Ja Z _ _)
theorem Zl(g:n=4∧K=4∨n=8∧K=6)(f:qp≤15)(hx:x+n≤W)(hy:y+n≤H)(G:Bd 0 255 b)(w:aK)(j:Fr w W H N A p)(v:Ls w B (2^K) b):
  Calls prog 287 #[uf W H A N c,aG B (2^K:Nat) d,x,y,n,qp] w
   fun e Z=>∃L l,e=bM (eP #[aB (kX W x y n p b).1,aB (kX W x y n p b).2,aG L (2^K:Nat) l])∧Own Z w L (2^K) l (Df W x y n K qp p b)∧aP w Z:=by
 have Y:n=4∨n=8:=aj
 have a:K=4∨K=6:=aj
 have R:2^K=n*n:=by rcases g with⟨rfl,rfl⟩|⟨rfl,rfl⟩<;>rfl
 have V:=aJ w (dA W H A N c);have O:=j.keep V;have H1:=ay (Ye (c:=c) (x:=x) (y:=y) Y hx hy _ O);have U:=O.bd
 have u:=ay (fun Z T t J I (s:Below (w.alloc (dA W H A N c)) (w.alloc (dA W H A N c)) Z) (r:Ls Z T n (uQ W p x y n)) (q:Ls Z J n (rC W p x y n))=>
  ajJ (c:=t) (d:=I) (e:=d) Z (acM Y U r q) (by rw[←R];exact(v.keep V).keep s) G)
 have hm:=Jb (W:=W) (x:=x) (y:=y) Y U G;have o:=ay (fun Z T t J I (r:Ls Z T n (uQ W p x y n)) (q:Ls Z J n (rC W p x y n))=>Vw (c:=t) (d:=I) hm.1 Z (acM Y U r q))
 have H4:=ay (fun Z P i (s:Below (w.alloc (dA W H A N c)) (w.alloc (dA W H A N c)) Z) (hP:Ls Z P (2^K) (FW W x y n p (kX W x y n p b).1))=>
  ad9 (c:=d) (d:=i) a f G (IX Y U) Z ((v.keep V).keep s) hP)
 unfold Df;change Hid (∀Z T t J I,_→_→Calls _ _ _ Z (aaK Z (n*n) (FW W x y n p (kX W x y n p b).1)))at o;change Hid (∀Z T t J I,_→_→_→Calls _ _ _ Z (Val Z (eP #[aB (kX W x y n p b).1,aB (kX W x y n p b).2,iI])))at u;rw[←R]at u o;generalize xY K qp b (FW W x y n p (kX W x y n p b).1)=E at*;generalize FW W x y n p (kX W x y n p b).1=F at*;generalize kX W x y n p b=st at*;generalize hQ:(2^K:Nat)=Q at*;change Hid _ at V;clear hQ j O v U G R;go_enter func287,ntmps287;go_wp2_with fail;refine H1.mono ?_;rintro e w1 ⟨T,t,D,dd,rfl,C,z,M⟩;go_wp2_with fail;refine(u _ _ _ _ _ M C z).aQ ?_;rintro w2 X;have C:=C.keep X;have z:=z.keep X;have X:=M.trans (X.mono M.size);go_wp2_with fail;refine(o _ _ _ _ _ C z).mono ?_;rintro e w3 ⟨P,i,rfl,oP,S⟩;have S:=X.trans (S.mono X.size);go_wp2_with fail;refine(H4 _ _ _ S oP.ls).mono ?_;rintro e w4 ⟨L,l,rfl,oL,m⟩;have k:=S.size;have h:w.heap.size+1≤w3.heap.size:=by simpa using k
 go_wp2;go_ret3;exact⟨_,_,rfl,oL.lower aj,V.trans ((S.mono bK).trans (m.mono aj))⟩
theorem Own.dH(h:Own w base A n c l)(Y:bQ S w w')(X:∀q,A=some q→¬S q.block):Own w' base A n c l:=
 ⟨h.len,mO h.row Y fun i Z=>by
   rcases A with _|q
   ·simp[Value.ownBlock]at Z
   ·simp only[Value.ownBlock,fD]at Z
    subst Z;exact X q rfl⟩
def bW(b:aO)(k:Nat):Nat→aO
 |0=>[]
 |i+1=>if i/32*2+i%8/4=k then bW b k i++ [b.getD i 0]else bW b k i
def Nk(k:Nat):Nat→Nat
 |0=>0
 |i+1=>if i/32*2+i%8/4=k then Nk k i+1 else Nk k i
theorem Nl(b:aO)(k:Nat):∀i,(bW b k i)=Nk k i
 |0=>rfl
 |i+1=>by
  have Z:=Nl b k i;unfold bW Nk;split
  ·simp[Z]
  ·exact Z
theorem KX(b:aO)(k:Nat)(Z:k<4):(bW b k 64).length=16:=by
 rw[Nl];have:∀k,k<4→Nk k 64=16:=bn
 exact this k Z
theorem Jc(b:aO)(k:Nat):∀i,(bW b k i)≤i
 |0=>bC _
 |i+1=>by
  have Z:=Jc b k i;unfold bW;split
  ·simp;exact Z
  ·omega
theorem Vz{b:aO}{u v:Int}(h:∀z∈b,u≤z∧z≤v)(Y:u≤0)(X:0≤v)(k:Nat):∀i,∀z∈bW b k i,u≤z∧z≤v
 |0=>by simp[bW]
 |i+1=>by
  have W:=Vz h Y X k i;unfold bW;split
  ·intro z V
   rcases rH.1 V with Z|Z
   ·exact W z Z
   ·simp at Z;subst Z;exact dO h Y X i
  ·exact W
theorem afh:(prog.info? 34).map (fun i=>(i.zero,i.size,i.bytes))=some (some (bU),1,24):=aW
theorem amG{W:Array Oper}(S:o.guard=none)(s x:Operand)(K:o.op= .makeSlice 303 s x)
  (J:a.eval s= aB 4) (hx:a.eval x= aB 4)
  (h:∀Y,bF Y w 34 #[bU,bU,bU,bU]→aP w Y→wpList prog W Q rest (a.put o.dst (aG w 4 4)) Y):
  wpList prog W Q (o::rest) a w:=by
 obtain⟨I,H,R,P,O⟩:=iq afh;refine uJ w S s x _ K w 34 I _ 1 underlying303 H R P .i64 .i64 _ _ 4 J hx rfl rfl (by rw[O];omega) (by unfold maxLen;omega) (bC _) fun Y T Z=>?_
 refine h Y ?_ ((aU _ _).grown Z (bC _) fun k G=>by cases G);rcases T.2 with⟨e,_⟩|⟨g,N,M,e,_,V,_,_,L,U⟩
 ·cases e
 ·obtain⟨rfl,rfl⟩:w=g∧4=N:=by injection e with X D F;injection X with X;injection X with X;exact⟨X,F⟩
  have E:M=#[bU,bU,bU,bU]:=by
   apply Array.ext';rw[wO jy]at U;rw[U];exact uG (Value.slice none 0 0) 4
  rw[E]at V;exact V
theorem acP(w:aK)(hB:Ls w B 64 b):
  Calls prog 309 #[aG B 64 d] w fun e w'=>∃g Q P O N I H G F,e=bM (eP #[aG (some (aH g 0)) 4 4,iI])∧w≤g∧aP w w'∧
   bF w' g 34 #[aG Q 16 I,aG P 16 H,aG O 16 G,aG N 16 F]∧Own w' w Q 16 I (bW b 0 64)∧Own w' w P 16 H (bW b 1 64)∧Own w' w O 16 G (bW b 2 64)∧Own w' w N 16 F (bW b 3 64):=by
 change Hid _ at hB;obtain⟨V,qe⟩:∃V:aK,V=w:=⟨_,rfl⟩;subst qe;go_enter func309,ntmps309;go_wp2_with(at_make;refine amG rfl _ _ rfl rfl rfl ?_;intro w2 qf qg)
 go_loopg [5,6,7,15] (64:Nat) (fun k v5 v6 v7 vi wr=>∃(i:Nat) (Q P O N:dK) (I H G F:Nat),i+k=64∧vi=i∧
  bF wr V 34 #[aG Q (bW b 0 i) I,aG P (bW b 1 i) H,aG O (bW b 2 i) G,aG N (bW b 3 i) F]∧
  Own wr (V.heap.size+1) Q (bW b 0 i) I (bW b 0 i)∧Own wr (V.heap.size+1) P (bW b 1 i) H (bW b 1 i)∧Own wr (V.heap.size+1) O (bW b 2 i) G (bW b 2 i)∧Own wr (V.heap.size+1) N (bW b 3 i) F (bW b 3 i)∧
  Apart Q P∧Apart Q O∧Apart Q N∧Apart P O∧Apart P N∧Apart O N∧aP V wr)
 case atStart=>exact⟨0,none,none,none,none,0,0,0,0,aj,rfl,qf,⟨rfl,iM _ _ _ _⟩,⟨rfl,iM _ _ _ _⟩,⟨rfl,iM _ _ _ _⟩,⟨rfl,iM _ _ _ _⟩,Apart.none _,Apart.none _,Apart.none _,Apart.none _,Apart.none _,Apart.none _,qg⟩
 case round=>
  obtain⟨i,Q,P,O,N,I,H,G,F,hi,rfl,Z,E,D,C,A,m,l,j,h,f,c,U⟩:=hrel
  by_cases qh:i<64
  ·obtain⟨b2,p2,rfl,k2⟩:=(hB.keep U).at_ qh
   have qj:=Z.lt;have l0:=Jc b 0 i;have l1:=Jc b 1 i;have l2:=Jc b 2 i;have l3:=Jc b 3 i;obtain⟨q0,q1,q2,q3⟩:=Z.s4;have qi:i/32*2+i%8/4=0∨i/32*2+i%8/4=1∨i/32*2+i%8/4=2∨i/32*2+i%8/4=3:=aj
   rcases qi with z|z|z|z
   ·obtain⟨y,x,u,t,HK⟩:=rG (show bW b 0 (i+1)=bW b 0 i++ [b.getD i 0] by rw[bW,aF z]) (show bW b 1 (i+1)=bW b 1 i by rw[bW,au aj]) (show bW b 2 (i+1)=bW b 2 i by rw[bW,au aj]) (show bW b 3 (i+1)=bW b 3 i by rw[bW,au aj]) z
    generalize b.getD i 0=v at*;go_wp2_with(at_builtin;refine ae3 rfl _ _ rfl rfl (E.alloc _) rfl (lV _ _) aj jy ?_;intro S R M L T Y;have X:bF M V 34 #[aG Q (bW b 0 i) I,aG P (bW b 1 i) H,aG O (bW b 2 i) G,aG N (bW b 3 i) F]:=(Z.alloc _).below T aj;have hz:aN M V 0 (aG Q (bW b 0 i) I):=(X.at rfl);have qa:=X.frozen 0);obtain⟨s,b1⟩:=Y _ _ _ _ _ (D.alloc _) m.symm;obtain⟨r,b2⟩:=Y _ _ _ _ _ (C.alloc _) l.symm;obtain⟨o,b3⟩:=Y _ _ _ _ _ (A.alloc _) j.symm;obtain⟨K,J,W⟩:=dB ((((U.alloc aj _).trans (T.mono aj)).setCell (p:=(aH V 0)) bK (aG S ((bW b 0 i).length+1) R))) (X.store 0 (aG S ((bW b 0 i).length+1) R)) ((bQ.refl (fun i=>i=V) M).setCell (p:=(aH V 0)) (fun _=>rfl) (aG S ((bW b 0 i).length+1) R));obtain⟨a,t1,t2,t3⟩:=jH (L.dH W.out (fun q Z=>by have:=(L.row.lt q.block (by subst Z;rfl)).1;omega)) (s.dH W.out (fun q Z=>by have:=(s.row.lt q.block (by subst Z;rfl)).1;omega)) (r.dH W.out (fun q Z=>by have:=(r.row.lt q.block (by subst Z;rfl)).1;omega)) (o.dH W.out (fun q Z=>by have:=(o.row.lt q.block (by subst Z;rfl)).1;omega));clear X Y T L Z E D C A U s r o;go_wp2;go_roundg(gk-1)
    case measure=>omega
    case rel=>
     refine⟨i+1,S,P,O,N,R,H,G,F,aj,fA,?_,by rw[y.out,mG];exact a.out,by rw[x.out];exact t1.out,by rw[u.out];exact t2.out,by rw[t.out];exact t3.out,b1.symm,b2.symm,b3.symm,h,f,c,K.out⟩;have hh:=J.out;rw[y.out,x.out,u.out,t.out,mG];exact hh
   ·obtain⟨x,y,u,t,HK⟩:=rG (show bW b 1 (i+1)=bW b 1 i++ [b.getD i 0] by rw[bW,aF z]) (show bW b 0 (i+1)=bW b 0 i by rw[bW,au aj]) (show bW b 2 (i+1)=bW b 2 i by rw[bW,au aj]) (show bW b 3 (i+1)=bW b 3 i by rw[bW,au aj]) z
    generalize b.getD i 0=v at*;go_wp2_with(at_builtin;refine ae3 rfl _ _ rfl rfl (D.alloc _) rfl (lV _ _) aj jy ?_;intro S R M L T Y;have X:bF M V 34 #[aG Q (bW b 0 i) I,aG P (bW b 1 i) H,aG O (bW b 2 i) G,aG N (bW b 3 i) F]:=(Z.alloc _).below T aj;have hz:aN M V 1 (aG P (bW b 1 i) H):=(X.at rfl);have qa:=X.frozen 1);obtain⟨n,b0⟩:=Y _ _ _ _ _ (E.alloc _) m;obtain⟨r,b2⟩:=Y _ _ _ _ _ (C.alloc _) h.symm;obtain⟨o,b3⟩:=Y _ _ _ _ _ (A.alloc _) f.symm;obtain⟨K,J,W⟩:=dB ((((U.alloc aj _).trans (T.mono aj)).setCell (p:=(aH V 1)) bK (aG S ((bW b 1 i).length+1) R))) (X.store 1 (aG S ((bW b 1 i).length+1) R)) ((bQ.refl (fun i=>i=V) M).setCell (p:=(aH V 1)) (fun _=>rfl) (aG S ((bW b 1 i).length+1) R));obtain⟨a,t0,t2,t3⟩:=jH (L.dH W.out (fun q Z=>by have:=(L.row.lt q.block (by subst Z;rfl)).1;omega)) (n.dH W.out (fun q Z=>by have:=(n.row.lt q.block (by subst Z;rfl)).1;omega)) (r.dH W.out (fun q Z=>by have:=(r.row.lt q.block (by subst Z;rfl)).1;omega)) (o.dH W.out (fun q Z=>by have:=(o.row.lt q.block (by subst Z;rfl)).1;omega));clear X Y T L Z E D C A U n r o;go_wp2;go_roundg(gk-1)
    case measure=>omega
    case rel=>
     refine⟨i+1,Q,S,O,N,I,R,G,F,aj,fA,?_,by rw[y.out];exact t0.out,by rw[x.out,mG];exact a.out,by rw[u.out];exact t2.out,by rw[t.out];exact t3.out,b0,l,j,b2.symm,b3.symm,c,K.out⟩;have hh:=J.out;rw[y.out,x.out,u.out,t.out,mG];exact hh
   ·obtain⟨u,y,x,t,HK⟩:=rG (show bW b 2 (i+1)=bW b 2 i++ [b.getD i 0] by rw[bW,aF z]) (show bW b 0 (i+1)=bW b 0 i by rw[bW,au aj]) (show bW b 1 (i+1)=bW b 1 i by rw[bW,au aj]) (show bW b 3 (i+1)=bW b 3 i by rw[bW,au aj]) z
    generalize b.getD i 0=v at*;go_wp2_with(at_builtin;refine ae3 rfl _ _ rfl rfl (C.alloc _) rfl (lV _ _) aj jy ?_;intro S R M L T Y;have X:bF M V 34 #[aG Q (bW b 0 i) I,aG P (bW b 1 i) H,aG O (bW b 2 i) G,aG N (bW b 3 i) F]:=(Z.alloc _).below T aj;have hz:aN M V 2 (aG O (bW b 2 i) G):=(X.at rfl);have qa:=X.frozen 2);obtain⟨n,b0⟩:=Y _ _ _ _ _ (E.alloc _) l;obtain⟨s,b1⟩:=Y _ _ _ _ _ (D.alloc _) h;obtain⟨o,b3⟩:=Y _ _ _ _ _ (A.alloc _) c.symm;obtain⟨K,J,W⟩:=dB ((((U.alloc aj _).trans (T.mono aj)).setCell (p:=(aH V 2)) bK (aG S ((bW b 2 i).length+1) R))) (X.store 2 (aG S ((bW b 2 i).length+1) R)) ((bQ.refl (fun i=>i=V) M).setCell (p:=(aH V 2)) (fun _=>rfl) (aG S ((bW b 2 i).length+1) R));obtain⟨a,t0,t1,t3⟩:=jH (L.dH W.out (fun q Z=>by have:=(L.row.lt q.block (by subst Z;rfl)).1;omega)) (n.dH W.out (fun q Z=>by have:=(n.row.lt q.block (by subst Z;rfl)).1;omega)) (s.dH W.out (fun q Z=>by have:=(s.row.lt q.block (by subst Z;rfl)).1;omega)) (o.dH W.out (fun q Z=>by have:=(o.row.lt q.block (by subst Z;rfl)).1;omega));clear X Y T L Z E D C A U n s o;go_wp2;go_roundg(gk-1)
    case measure=>omega
    case rel=>
     refine⟨i+1,Q,P,S,N,I,H,R,F,aj,fA,?_,by rw[y.out];exact t0.out,by rw[x.out];exact t1.out,by rw[u.out,mG];exact a.out,by rw[t.out];exact t3.out,m,b0,j,b1,f,b3.symm,K.out⟩;have hh:=J.out;rw[y.out,x.out,u.out,t.out,mG];exact hh
   ·obtain⟨t,y,x,u,HK⟩:=rG (show bW b 3 (i+1)=bW b 3 i++ [b.getD i 0] by rw[bW,aF z]) (show bW b 0 (i+1)=bW b 0 i by rw[bW,au aj]) (show bW b 1 (i+1)=bW b 1 i by rw[bW,au aj]) (show bW b 2 (i+1)=bW b 2 i by rw[bW,au aj]) z
    generalize b.getD i 0=v at*;go_wp2_with(at_builtin;refine ae3 rfl _ _ rfl rfl (A.alloc _) rfl (lV _ _) aj jy ?_;intro S R M L T Y;have X:bF M V 34 #[aG Q (bW b 0 i) I,aG P (bW b 1 i) H,aG O (bW b 2 i) G,aG N (bW b 3 i) F]:=(Z.alloc _).below T aj;have hz:aN M V 3 (aG N (bW b 3 i) F):=(X.at rfl);have qa:=X.frozen 3);obtain⟨n,b0⟩:=Y _ _ _ _ _ (E.alloc _) j;obtain⟨s,b1⟩:=Y _ _ _ _ _ (D.alloc _) f;obtain⟨r,b2⟩:=Y _ _ _ _ _ (C.alloc _) c;obtain⟨K,J,W⟩:=dB ((((U.alloc aj _).trans (T.mono aj)).setCell (p:=(aH V 3)) bK (aG S ((bW b 3 i).length+1) R))) (X.store 3 (aG S ((bW b 3 i).length+1) R)) ((bQ.refl (fun i=>i=V) M).setCell (p:=(aH V 3)) (fun _=>rfl) (aG S ((bW b 3 i).length+1) R));obtain⟨a,t0,t1,t2⟩:=jH (L.dH W.out (fun q Z=>by have:=(L.row.lt q.block (by subst Z;rfl)).1;omega)) (n.dH W.out (fun q Z=>by have:=(n.row.lt q.block (by subst Z;rfl)).1;omega)) (s.dH W.out (fun q Z=>by have:=(s.row.lt q.block (by subst Z;rfl)).1;omega)) (r.dH W.out (fun q Z=>by have:=(r.row.lt q.block (by subst Z;rfl)).1;omega));clear X Y T L Z E D C A U n s r;go_wp2;go_roundg(gk-1)
    case measure=>omega
    case rel=>
     refine⟨i+1,Q,P,O,S,I,H,G,R,aj,fA,?_,by rw[y.out];exact t0.out,by rw[x.out];exact t1.out,by rw[u.out];exact t2.out,by rw[t.out,mG];exact a.out,m,l,b0,h,b1,b2,K.out⟩;have hh:=J.out;rw[y.out,x.out,u.out,t.out,mG];exact hh
  ·obtain rfl:i=64:=aj
   have z0:=KX b 0 aj;have z1:=KX b 1 aj;have z2:=KX b 2 aj;have z3:=KX b 3 aj;rw[z0]at E;rw[z1]at D;rw[z2]at C;rw[z3]at A;rw[z0,z1,z2,z3]at Z;obtain⟨H0,H1,H2,H3⟩:=jH (E.lower (b:=V.heap.size) aj) (D.lower (b:=V.heap.size) aj) (C.lower (b:=V.heap.size) aj) (A.lower (b:=V.heap.size) aj);clear E D C A z0 z1 z2 z3;go_wp2;go_ret2;exact⟨_,_,_,_,_,_,_,_,_,rfl,bC _,U,Z,H0,H1,H2,H3⟩
def Ad(W x y qp:Nat)(ms:Nat→Int)(ls:Nat→aO)(p:aO):Nat→aO
 |0=>p
 |i+1=>AO W (x+i%2*4) (y+i/2*4) 4 4 qp (ms i) (ls i) (Ad W x y qp ms ls p i)
abbrev Og(ms:Nat→Int)(A:Nat→dK)(cc:Nat→Nat):Sq:={kind:=3,m0:=ms 0,m1:=ms 1,m2:=ms 2,m3:=ms 3,s0:=aG (A 0) 16 (cc 0),s1:=aG (A 1) 16 (cc 1),s2:=aG (A 2) 16 (cc 2),s3:=aG (A 3) 16 (cc 3)}
theorem amH(a b c d:cO)(w:aK):(Instr.index 365 (.agg #[a,b,c,d]) (aB 0)).run prog w= .ok a w:=aW
theorem amI(a b c d:cO)(w:aK):(Instr.index 365 (.agg #[a,b,c,d]) (aB 1)).run prog w= .ok b w:=aW
theorem amJ(a b c d:cO)(w:aK):(Instr.index 365 (.agg #[a,b,c,d]) (aB 2)).run prog w= .ok c w:=aW
theorem amK(a b c d:cO)(w:aK):(Instr.index 365 (.agg #[a,b,c,d]) (aB 3)).run prog w= .ok d w:=aW
theorem Ls.dH{w w':aK}{S:Nat→Prop}{A:dK}{n:Nat}{l:aO}(h:Ls w A n l)(Z:bQ S w w')(Y:∀q,A=some q→¬S q.block):Ls w' A n l:=⟨h.len,h.rd.dH Z Y⟩
theorem ahp{ms:Nat→Int}{ls:Nat→aO}{A:Nat→dK}{cc:Nat→Nat}(hq:qp≤15)(G:∀i,i<4→0≤ms i∧ms i≤3)(hx:x+8≤W)(hy:y+8≤H)
  (m:∀i,i<4→Bd (-16320) 16320 (ls i)) (w:aK) (L:Jr w base W H N g c p) (l:∀i,i<4→Ls w (A i) 16 (ls i)) (E:∀i,i<4→∀q,A i=some q→q.block≠g):
  Calls prog 274 #[uf W H g N c,uf W2 H2 A2 j c2,x,y,qp,(Og ms A cc).v] w
   fun e K=>e=bM (eP #[])∧Jr K base W H N g c (Ad W x y qp ms ls p 4)∧bQ (fun i=>i=g) w K:=by
 have J:=GZ w (dA W H g N c) (dA W2 H2 A2 j c2) (.cells (Og ms A cc).c 367);have hW:=L.wd.2;have hH:=L.ht.2;have hg:=L.lt;have HS:=ay (fun i (s:i<4)=>show Ad W x y qp ms ls p (i+1)=AO W (x+i%2*4) (y+i/2*4) 4 4 qp (ms i) (ls i) (Ad W x y qp ms ls p i)from rfl);obtain⟨r,V⟩:=kF (((w.alloc (dA W H g N c)).alloc (dA W2 H2 A2 j c2)).alloc (.cells (Og ms A cc).c 367));have F1:=ay (show bF r w 90 #[W,H,aG g N c] by rw[V];exact((bF.new w 90 #[W,H,aG g N c]).alloc (dA W2 H2 A2 j c2)).alloc (.cells (Og ms A cc).c 367))
 have F3:=ay (show bF r (w.heap.size+1+1) 367 (Og ms A cc).c by
  have F:=bF.new ((w.alloc (dA W H g N c)).alloc (dA W2 H2 A2 j c2)) 367 (Og ms A cc).c;simp only[World.size_alloc]at F;rw[V];exact F)
 have R:w≠g:=aj
 have Q:w.heap.size+1+1≠g:=aj
 rw[←V]at J;obtain⟨HL,n,HB⟩:=dB (fun i (s:i<4)=>(l i s).keep J) (L.keep J) (bQ.of_below (S:=fun i=>i=g) J);change Hid _ at m E G;clear L l J;go_enter func274,ntmps274;go_wp2
 go_loopg [12,13,18] (4:Nat) (fun k qe qf vi wr=>∃i:Nat,i+k=4∧vi=i∧Jr wr base W H N g c (Ad W x y qp ms ls p i)∧bQ (fun i=>i=g) r wr)
 case atStart=>exact⟨0,aj,rfl,by have h:=n.out;rw[V]at h;exact h,by rw[V];exact bQ.refl _ _⟩
 case round=>
  obtain⟨i,s,rfl,P,U⟩:=hrel
  by_cases T:i<4
  ·have qa:(i:Int)<4:=aj
   have u:=F1.dH U R;obtain⟨f,b,D⟩:=u.s3;have I:=F3.dH U Q;obtain⟨-,-,a,m1,m2,m3⟩:=I.s6;have hd:=(aU wr wr).drew;have C:=ay (HS i T);obtain⟨X,hX⟩:∃X,x+i%2*4=X:=⟨_,rfl⟩;obtain⟨Y,hY⟩:∃Y,y+i/2*4=Y:=⟨_,rfl⟩;rw[hX,hY]at C;have o:=ay (acN (d:=cc i) (x:=X) (y:=Y) (.inl ⟨rfl,rfl⟩) hq (G i T) aj aj (m i T) wr.drew (P.keep hd) (((HL i T).dH U (E i T)).keep hd));clear u I;have O:i=0∨i=1∨i=2∨i=3:=aj
   have qg:∀w,(Instr.index 365 (.agg #[aG (A 0) 16 (cc 0),aG (A 1) 16 (cc 1),aG (A 2) 16 (cc 2),aG (A 3) 16 (cc 3)]) i).run prog w= .ok (aG (A i) 16 (cc i)) w:=by
    rcases O with rfl|rfl|rfl|rfl
    ·exact amH _ _ _ _
    ·exact amI _ _ _ _
    ·exact amJ _ _ _ _
    ·exact amK _ _ _ _
   have B:aN wr (w.heap.size+1+1) (2+i) (aB (ms i)):=by
    rcases O with rfl|rfl|rfl|rfl
    ·exact a
    ·exact m1
    ·exact m2
    ·exact m3
   have eX:=ay (show IntKind.i64.wrap ((x:Int)+IntKind.i64.wrap (Int.tmod (i:Int) 2*4))=(X:Int) by
    rw[Int.tmod_eq_emod_of_nonneg aj,iE ((i:Int)%2*4) aj,iE _ aj];omega)
   have eY:=ay (show IntKind.i64.wrap ((y:Int)+IntKind.i64.wrap (IntKind.i64.wrap ((i:Int)/2)*4))=(Y:Int) by
    rw[iE ((i:Int)/2) aj,iE ((i:Int)/2*4) aj,iE _ aj];omega)
   have o:Hid (Calls prog 295 #[.agg #[W,H,aG g N c],X,Y,aB 4,(ms i),qp,aG (A i) 16 (cc i)] wr.drew
    fun e K=>e=bM (eP #[])∧Jr K base W H N g c (AO W X Y 4 4 qp (ms i) (ls i) (Ad W x y qp ms ls p i))∧bQ (fun i=>i=g) wr.drew K):=o
   have i0:(0:Int)≤(i:Int):=aj
   clear hX hY a m1 m2 m3 O;go_wp2
   go_region_held3(fun t=>(aN t w 0 (aB W)∧aN t w 1 (aB H)∧aN t w 2 (aG g N c))∧
     aN t (w.heap.size+1+1) (2+i) (aB (ms i)))
    (first
      |(exact⟨⟨f,b,D⟩,B⟩)
      |(exact⟨⟨bG (w:=wr.drew) f Z R,bG (w:=wr.drew) b Z R,bG (w:=wr.drew) D Z R⟩,bG (w:=wr.drew) B Z Q⟩)|fail)
    (first
      |(go_at_call 295;rw[eX.out,eY.out];refine o.aQ ?_;rintro w5 ⟨z,Z⟩)
      |fail)
   have M:=ay (U.drew.trans Z);change Hid _ at z;clear Z;go_wp2;go_roundg(gk-1)
   case measure=>omega
   case rel=>exact⟨i+1,aj,fA,by rw[C.out];exact z,M⟩
  ·obtain rfl:i=4:=aj
   have M:=ay (HB.trans U);change Hid _ at P;go_wp2;exact eU (by simp[results,results274,go_sem]) rfl ⟨rfl,P,M⟩
section
variable(W x y qp:Nat)(b p:aO)
def jY:Nat→aO × Int
 |0=>(p,24)
 |i+1=>(AO W (x+i%2*4) (y+i/2*4) 4 4 qp (kX W (x+i%2*4) (y+i/2*4) 4 (jY i).1 (bW b i 64)).1 (Df W (x+i%2*4) (y+i/2*4) 4 4 qp (jY i).1 (bW b i 64)) (jY i).1,
   (jY i).2+4*(kX W (x+i%2*4) (y+i/2*4) 4 (jY i).1 (bW b i 64)).2)
def mg(i:Nat):Int:=(kX W (x+i%2*4) (y+i/2*4) 4 (jY W x y qp b p i).1 (bW b i 64)).1
def J6(i:Nat):Int:=(kX W (x+i%2*4) (y+i/2*4) 4 (jY W x y qp b p i).1 (bW b i 64)).2
def xZ(i:Nat):aO:=Df W (x+i%2*4) (y+i/2*4) 4 4 qp (jY W x y qp b p i).1 (bW b i 64)
end
abbrev sqU(ms:Nat→Int)(V:Nat→cO)(i:Nat):Sq where
 kind:=3
 m0:=if 0<i then ms 0 else 0
 m1:=if 1<i then ms 1 else 0
 m2:=if 2<i then ms 2 else 0
 m3:=if 3<i then ms 3 else 0
 s0:=if 0<i then V 0 else bU
 s1:=if 1<i then V 1 else bU
 s2:=if 2<i then V 2 else bU
 s3:=if 3<i then V 3 else bU
theorem aaZ(ms:Nat→Int)(V:Nat→cO)(v:cO)(hi:i<4):((sqU ms V i).c.setIfInBounds (2+i) (ms i)).setIfInBounds (9+i) v=(sqU ms (fun j=>if j=i then v else V j) (i+1)).c:=by
 have Z:i=0∨i=1∨i=2∨i=3:=aj
 rcases Z with rfl|rfl|rfl|rfl<;>simp[Sq.c]
theorem alf(ms:Nat→Int)(V:Nat→cO)(hi:i<4):(sqU ms V i).c[2+i]? =some (aB 0):=by
 have Z:i=0∨i=1∨i=2∨i=3:=aj
 rcases Z with rfl|rfl|rfl|rfl<;>rfl
theorem alg(ms:Nat→Int)(V:Nat→cO)(hi:i<4):(sqU ms V i).c[9+i]? =some (bU):=by
 have Z:i=0∨i=1∨i=2∨i=3:=aj
 rcases Z with rfl|rfl|rfl|rfl<;>rfl
theorem Oh(h:Bd 0 255 b)(k i:Nat):Bd 0 255 (bW b k i):=Vz h aj aj k i
theorem J7{W x y qp:Nat}{b p:aO}(Z:Bd 0 255 p):∀i,Bd 0 255 (jY W x y qp b p i).1
 |0=>Z
 |i+1=>Fg (J7 Z i) RG _
theorem He{W x y qp:Nat}{b p:aO}(Z:Bd 0 255 p)(Y:Bd 0 255 b):∀i,i≤4→24-4*i≤(jY W x y qp b p i).2∧(jY W x y qp b p i).2≤24+65280*i
 |0,_=>by simp[jY]
 |i+1,X=>by
  have V:=He (W:=W) (x:=x) (y:=y) (qp:=qp) Z Y i aj;have h:=(Jb (W:=W) (x:=x+i%2*4) (y:=y+i/2*4) (n:=4) (.inl rfl) (J7 (W:=W) (x:=x) (y:=y) (qp:=qp) (b:=b) Z i) (Oh Y i 64)).2;unfold jY;simp only;omega
theorem aeb(P:qp≤15)(hx:x+8≤W)(hy:y+8≤H)(hb:Bd 0 255 b)(w:aK)(a:Fr w W H N A p)(hB:Ls w B 64 b):
  Calls prog 288 #[uf W H A N c,aG B 64 d,x,y,qp] w
   fun e u=>∃(S:Nat→dK) (cc:Nat→Nat),e=bM (eP #[(Og (mg W x y qp b p) S cc).v,aB (jY W x y qp b p 4).2])∧aP w u∧∀i,i<4→Own u w (S i) 16 (cc i) (xZ W x y qp b p i):=by
 have qK:=a.bd;have qo:aP w ((w.alloc (dA W H A N c)).alloc (.cells ({}:Sq).c 367)):=(aJ w _).trans ((aJ (w.alloc (dA W H A N c)) _).mono bK)
 have hN:0<N:=by
  rw[a.size];have:=a.wd.1;have:=a.ht.1;exact Nat.mul_pos aj aj
 have zl:=a.n1;obtain⟨HN,HW,HH,HM,F1,F2,HC,HQ⟩:=GI a.size a.wd a.ht a.may ((bF.new w 90 #[W,H,aG A N c]).alloc (.cells ({}:Sq).c 367)) (show bF ((w.alloc (dA W H A N c)).alloc (.cells ({}:Sq).c 367)) (w.heap.size+1) 367 ({}:Sq).c from bF.new1 w (dA W H A N c) 367 ({}:Sq).c) (RD (c:=c) hN aj _ (a.ls.keep qo)) (fun u (hw:aP w u)=>acP (d:=d) u (hB.keep hw));obtain⟨qL,r,qh⟩:=dB qo hb qK;have qM:((w.alloc (dA W H A N c)).alloc (.cells ({}:Sq).c 367)).heap.size=w+2:=bK
 go_enter func288,ntmps288;go_wp2_with fail;refine HC.mono ?_;rintro e w3 ⟨A3,c3,rfl,o3,o⟩;obtain⟨g,rfl,qN,zm,-,-⟩:=o3.form hN;rw[qM]at qN o3;have F3:=F1.keep o;have G3:=F2.keep o;have f2:=F3.frozen 2;have qO:=F3.c2;obtain⟨w4,qi⟩:∃w4:aK,w4=w3.setCell ⟨w,2,none⟩ (aG g N c3):=⟨_,rfl⟩;have F4:=F3.store 2 (aG g N c3);have Z:=(bQ.refl (fun i=>i=w) w3).setCell (p:=(aH w 2)) (fun _=>rfl) (aG g N c3);rw[←qi]at F4 Z;have qa:=eH (B:=w.heap.size) (qL.trans (o.mono aj)) Z (by have:=o.size;omega) (fun i hi=>aj);have o4:=o3.dH Z (fun q P=>by injection P with P;subst P;simp;omega);have G4:=G3.dH Z aj;have zn:g<w4:=by have:=Z.size;omega
 clear F3 G3 o o3 Z;have qP:=ay (HQ w4 qa);change Hid _ at qi;go_wp2_with fail;rw[←qi];refine qP.mono ?_;rintro e K ⟨g5,A0,A1,A2,A3,d0,d1,d2,d3,rfl,zo,D,C,q0,q1,q2,q3⟩;have F5:=F4.keep D;have G5:=G4.keep D;have o5:=o4.keep D;have f:=qa.trans (D.mono qa.size);have zq:=D.size;obtain⟨W6,m⟩:∃W6:aK,W6=K.alloc (.cells ({kind:=3}:Sq).c 367):=⟨_,rfl⟩;have S6:=bF.new K 367 ({kind:=3}:Sq).c;have O:=aJ K (.cells ({kind:=3}:Sq).c 367);rw[←m]at S6 O;change Hid _ at m;clear F4 G4 o4 qa;go_wp2
 have qq:∀i,i<4→∃Q dq,K.cell? (aH g5 i)=some (aG Q 16 dq)∧Own K w4 Q 16 dq (bW b i 64):=fun i hi=>by
  have qQ:i=0∨i=1∨i=2∨i=3:=aj
  rcases qQ with rfl|rfl|rfl|rfl
  ·exact⟨A0,d0,C.at rfl,q0⟩
  ·exact⟨A1,d1,C.at rfl,q1⟩
  ·exact⟨A2,d2,C.at rfl,q2⟩
  ·exact⟨A3,d3,C.at rfl,q3⟩
 have zf:=C.lt;obtain⟨qR,qS,qr⟩:=dB ((F5.keep O)) ((G5.keep O)) ((o5.keep O));have zr:=O.size;have zg:=S6.lt;have qj:=ay (f.trans (O.mono f.size));change Hid _ at qq S6 O;clear C q0 q1 q2 q3 F5 G5 o5 D f qO f2
 go_loopg [15,16,17,18,19,20,21,22,35] (4:Nat) (fun k qT zt zu zv zw zx zy zA vi wr=>∃(i:Nat) (V:Nat→cO),i+k=4∧vi=i∧qT= aB (jY W x y qp b p i).2∧
  Own wr (w.heap.size+2) g N c3 (jY W x y qp b p i).1∧bF wr K 367 (sqU (mg W x y qp b p) V i).c∧
  (∀j,j<i→∃S cc,V j=aG S 16 cc∧Own wr W6 S 16 cc (xZ W x y qp b p j))∧bQ (fun i=>i=g∨i=K) W6 wr)
 case atStart=>
  refine⟨0,fun _=>.nilFunc,aj,rfl,rfl,?_,?_,fun j hj=>aj,?_⟩
  ·have h:=qr.out;rw[m]at h;exact h
  ·have h:=S6.out;rw[m]at h;exact h
  ·rw[m];exact bQ.refl _ _
 case round=>
  obtain⟨i,V,hi,rfl,rfl,own,hS,hV,Z⟩:=hrel
  by_cases qe:i<4
  ·have zh:(i:Int)<4:=aj
   have hF:=qR.dH Z aj;obtain⟨c0,c1,qs⟩:=hF.s3;obtain⟨Q,dq,qU,qt⟩:=qq i qe;have qf:=(qt.keep O)
   have zB:wr.cell? (aH g5 i)=some (aG Q 16 dq):=by
    refine bG ?_ Z jy;exact aC qU O
   have hP:=J7 (W:=W) (x:=x) (y:=y) (qp:=qp) (b:=b) qh i;have ze:=He (W:=W) (x:=x) (y:=y) (qp:=qp) qh r i aj;have E:=He (W:=W) (x:=x) (y:=y) (qp:=qp) qh r (i+1) aj;have zC:=qr.len;have zi:=HW.2;have zj:=HH.2;have zD:=own.len;have qk:Jr wr (w.heap.size+2) W H N g c3 (jY W x y qp b p i).1:=⟨HW,HH,HN,UK HM aj hP,own⟩;have HS:=ay (show jY W x y qp b p (i+1)=(AO W (x+i%2*4) (y+i/2*4) 4 4 qp (mg W x y qp b p i) (xZ W x y qp b p i) (jY W x y qp b p i).1,(jY W x y qp b p i).2+4*J6 W x y qp b p i)from rfl);have qu:=Jb (W:=W) (x:=x+i%2*4) (y:=y+i/2*4) (n:=4) (.inl rfl) hP (Oh r i 64)
   have HE:Hid (Calls prog 287 #[uf W H g N c3,aG Q 16 dq,aB (x+i%2*4:Nat),aB (y+i/2*4:Nat),aB 4,qp] wr
    fun e u=>∃L l,e=bM (eP #[(mg W x y qp b p i),(J6 W x y qp b p i),aG L 16 l])∧Own u wr L 16 l (xZ W x y qp b p i)∧aP wr u):=
    Zl (d:=dq) (.inl ⟨rfl,rfl⟩) P aj aj (Oh r i 64) wr qk.fr (qf.dH Z (fun q P=>by have h1:=(qf.row.lt q.block (by subst P;rfl));have h2:=(qt.row.lt q.block (by subst P;rfl));omega)).ls
   change(0≤mg W x y qp b p i∧mg W x y qp b p i≤3)∧(-1≤J6 W x y qp b p i∧J6 W x y qp b p i≤16320)at qu;have qV:Bd (-16320) 16320 (xZ W x y qp b p i):=UJ (.inl rfl) (Oh r i 64) (IX (.inl rfl) hP);have qv:=fun v=>aaZ (mg W x y qp b p) V v qe
   have qD:=qk.may;change Hid _ at qv;obtain⟨X,hX⟩:∃X,x+i%2*4=X:=⟨_,rfl⟩;obtain⟨Y,hY⟩:∃Y,y+i/2*4=Y:=⟨_,rfl⟩;rw[hX,hY]at HE HS;obtain⟨eX,eY⟩:=aV (show(x:Int)+(i:Int)%2*4=(X:Int) by omega) (show(y:Int)+(i:Int)/2*4=(Y:Int) by omega);have i0:(0:Int)≤(i:Int):=aj
   have qw:X+4≤W∧Y+4≤H:=aj
   change Hid _ at hX hY;clear hP qk;generalize mg W x y qp b p i=M at*;generalize J6 W x y qp b p i=Sm at*;generalize hL:xZ W x y qp b p i=L at*;generalize jY W x y qp b p i=F at*;rw[HS]at E;simp only at E;change Hid _ at hL;go_wp2_with fail;rw[eX.out,eY.out];refine HE.mono ?_;rintro e w7 ⟨L7,l7,rfl,o7,J⟩;have zk:=J.size;have S7:=hS.keep J;have s7:w7.cell? (aH K (2+i))=some (aB 0):=by rw[S7.cell];exact alf _ _ qe
   have t7:=S7.frozen (2+i);have S8:=S7.store (2+i) M
   have s8:(w7.setCell ⟨K,2+i,none⟩ M).cell? (aH K (9+i))=some (bU):=by
    rw[S8.cell,Array.getElem?_setIfInBounds,au aj];exact alg _ _ qe
   have t8:=S8.frozen (9+i);have S9:=S8.store (9+i) (aG L7 16 l7);have R:=((bQ.refl (fun i=>i=K) w7).setCell (p:=(aH K (2+i))) (fun _=>rfl) M).setCell (p:=(aH K (9+i))) (fun _=>rfl) (aG L7 16 l7);obtain⟨qy,qz⟩:=aV S9 R
   have ql:∀q,L7=some q→q.block≠K∧q.block≠g:=fun q P=>by
    have h1:=(o7.row.lt q.block (by subst P;rfl)).1;have h2:=Z.size;omega
   obtain⟨qm,qA,qB⟩:=dB (o7.dH R (fun q P=>(ql q P).1)) (((own.keep J).dH R (fun q P=>by injection P with P;subst P;simp;omega))) ((Z.trans (bQ.of_below J)).trans (R.mono fun _ _ h=>.inr h));have d0:=bG (aC c0 J) R jy;have d1:=bG (aC c1 J) R jy;have d2:=bG (aC qs J) R jy;clear S7 S8 S9 R own;go_wp2_with fail;obtain⟨W9,z⟩:∃W9:aK,W9=(w7.setCell ⟨K,2+i,none⟩ M).setCell ⟨K,9+i,none⟩ (aG L7 16 l7):=⟨_,rfl⟩;rw[←z]at qy qz qm qA qB ⊢;clear z d0 d1 d2 s7 t7 s8 t8 c0 c1 qs
   have HT:Calls prog 295 #[uf W H g N c3,X,Y,aB 4,M,qp,aG L7 16 l7] W9
    fun e u=>e=bM (eP #[])∧Jr u (w.heap.size+2) W H N g c3 (AO W X Y 4 4 qp M L F.1)∧bQ (fun i=>i=g) W9 u:=
    acN (d:=l7) (.inl ⟨rfl,rfl⟩) P qu.1 qw.1 qw.2 qV W9 ⟨HW,HH,HN,qD,qA⟩ qm.ls
   refine HT.aQ ?_;rintro zE ⟨qg,I⟩;obtain⟨qE,qF,qG,qH,qI⟩:=rG qg.own (qy.dH I aj) (qm.dH I (fun q P=>(ql q P).2)) (qB.trans (I.mono fun _ _ h=>.inl h)) (((bQ.of_below (S:=fun i=>i=g∨i=K) J).trans (qz.mono fun _ _ h=>.inr h)).trans (I.mono fun _ _ h=>.inl h));have qJ:=Z.size;change Hid _ at Z;clear qg I HT ql;go_wp2_with fail;go_roundg(gk-1)
   case measure=>omega
   case rel=>
    refine⟨i+1,fun j=>if j=i then aG L7 16 l7 else V j,aj,fA,?_,by rw[HS];exact qE,by rw[←qv];exact qF,?_,qH⟩
    ·rw[HS]
    ·intro j hj
     by_cases qC:j=i
     ·subst qC
      exact⟨L7,l7,bK,by rw[hL];exact qG.lower qJ⟩
     ·obtain⟨S,cc,h1,h2⟩:=hV j aj
      refine⟨S,cc,by simp[qC,h1],h2.dH qI fun q P=>?_⟩;have:=(h2.row.lt q.block (by subst P;rfl)).1;omega
  ·obtain rfl:i=4:=aj
   have hA:∃(t:Nat→dK) (s:Nat→Nat),∀j,j<4→V j=aG (t j) 16 (s j)∧Own wr W6 (t j) 16 (s j) (xZ W x y qp b p j):=by
    obtain⟨S0,k0,e0,o0⟩:=hV 0 aj;obtain⟨S1,k1,e1,o1⟩:=hV 1 aj;obtain⟨S2,k2,e2,o2⟩:=hV 2 aj;obtain⟨S3,k3,e3,o3⟩:=hV 3 aj;refine⟨fun j=>if j=0 then S0 else if j=1 then S1 else if j=2 then S2 else S3,fun j=>if j=0 then k0 else if j=1 then k1 else if j=2 then k2 else k3,fun j hj=>?_⟩;have qW:j=0∨j=1∨j=2∨j=3:=aj
    rcases qW with rfl|rfl|rfl|rfl
    ·exact⟨e0,o0⟩
    ·exact⟨e1,o1⟩
    ·exact⟨e2,o2⟩
    ·exact⟨e3,o3⟩
   obtain⟨t,s,G⟩:=hA
   have T:bF wr K 367 (Og (mg W x y qp b p) t s).c:=by
    have e:(sqU (mg W x y qp b p) V 4).c=(Og (mg W x y qp b p) t s).c:=by
     simp[Sq.c,(G 0 aj).1,(G 1 aj).1,(G 2 aj).1,(G 3 aj).1]
    rw[←e];exact hS
   have hG:=qS.dH Z aj;obtain⟨e0,e1,e2,e3,e4,e5,e6,e7,e8,e9,zF,zG,zH⟩:=T.s13;obtain⟨W9,z⟩:∃W9:aK,W9=wr.setRow (w.heap.size+1) (Og (mg W x y qp b p) t s).c:=⟨_,rfl⟩;have U:=hG.row (Og (mg W x y qp b p) t s).c;have R:bQ (fun i=>i=w+1) wr (wr.setRow (w.heap.size+1) (Og (mg W x y qp b p) t s).c):=Ai _ _ _;rw[←z]at U R;obtain⟨qX,qY⟩:=aV (fun j (hj:j<4)=>((G j hj).2.dH R (fun q P=>by have h1:=((G j hj).2.row.lt q.block (by rw[P];rfl)).1;omega)).lower (b:=w.heap.size) aj) (eH (eH qj Z (by have:=qj.size;omega) (fun i hi=>aj)) R (by have:=Z.size;have:=qj.size;omega) (fun i hi=>aj));obtain⟨x0,x1,x2,x3,x4,x5,x6,x7,x8,x9,qZ,za,zb⟩:=U.s13;change Hid _ at hG z;clear hS T G R U hV own Z;have zc:(Og (mg W x y qp b p) t s).c.all (·.oneCell')=true:=Sq.cells_one ⟨rfl,rfl,rfl,rfl,rfl⟩;go_wp2_with(refine wpList_store_rowTo rfl 367 (.tmp 10) (.tmp 80) rfl ?h1 ?h2 ?h3 ?h4 ?h5 ?h6 ?h7 ?h8 ?h9 ?h10 ?h11 ?h12;(case h1=>rfl);(case h2=>exact(w.heap.size+1));(case h3=>exact(Og (mg W x y qp b p) t s).c);(case h4=>rfl);(case h5=>rfl);(case h6=>exact 367);(case h7=>exact({}:Sq).c);(case h8=>exact hG);(case h9=>rfl);(case h10=>rfl);(case h11=>exact zc);rw[←z]);exact aT (by simp[results,results288,go_sem,x0,x1,x2,x3,x4,x5,x6,x7,x8,x9,qZ,za,zb]) rfl ⟨t,s,rfl,qY.out,qX.out⟩
abbrev cdV(g:Nat):cO:=.iface 360 (BG g)
theorem afj(a:Addr)(w:aK):(Go.method 575 360 (aY (some a)) "Bit").run prog w= .ok (376,aY (some a)) w:=aW
theorem aa0(a:Addr)(w:aK):(Go.method 575 360 (aY (some a)) "Flat").run prog w= .ok (378,aY (some a)) w:=aW
def jZ(ctx:Nat→Nat)(j:Nat):List iH:=(List.range j).map fun i=>.c (ctx i) true
theorem AU(ctx:Nat→Nat)(j:Nat):jZ ctx (j+1)=jZ ctx j++ [.c (ctx j) true]:=by simp[jZ,jk]
theorem BN{ctx:Nat→Nat}(h:∀i,i<n→ctx i<64)(j:Nat)(Y:j≤n):dM (jZ ctx j):=dM.map fun i Z k b e=>by
 rw[yH]at Z;injection e with X
 have:=h i aj;omega
theorem AV(ctx:Nat→Nat)(j:Nat):fE (jZ ctx j)≤2*j:=by
 have h:=CY (l:=List.range j) (g:=fun i=>iH.c (ctx i) true) (k:=2) fun i _=>by simp[nI]
 rw[jG]at h;unfold jZ;omega
theorem Hg{ctx:Nat→Nat}{most:Nat}(h:j<most):l9 ctx j most=jZ ctx j++ [.c (ctx j) false]:=by unfold l9;rw[aF h];rfl
theorem Hl(ctx:Nat→Nat)(n:Nat):l9 ctx n n=jZ ctx n:=by unfold l9;rw[au aj,gI];rfl
section
variable{base g ge c:Nat}{A:dK}{m:jD}
theorem VF{v a b:Int}(h:a≤v∧v≤b)(w:aK):Calls prog 312 #[v,a,b] w fun e Z=>e=bM v∧w=Z:=by
 have Y:max v a=v:=aj
 have X:min v b=v:=aj
 go_enter func312,ntmps312;go_wp2;go_ret;exact sD
theorem ajN(B:k≤3)(N:m.ok)(z:m.e.out.length≤800000)(w:aK)(H:base≤w)(h:EO w base g ge A c m):
  Calls prog 291 #[cdV g,k] w fun e V=>e=bM k∧jE w base g ge A (dU m (Ey k)) V:=by
 have K:=ay (fun V=>VF (v:=(k:Int)) (a:=0) (b:=3) aj V);change Hid _ at h N;have y:=afj (aH g 0);go_enter func291,ntmps291;go_wp2_with fail;refine(K _).aQ ?_;rintro V rfl;go_wp2
 go_loopg [5] (3:Nat) (fun n J wr=>∃j:Nat,j+n=3∧j≤k∧J=j∧jE w base g ge A (dU m ([]++jZ (fun i=>i) j)) wr)
 case atStart=>exact⟨0,aj,aj,rfl,jE.refl h⟩
 case round=>
  obtain⟨j,u,G,rfl,Q⟩:=hrel;have F:=Q.size;have Y:=dM.app dM.nil (BN (fun i t=>(aj:i<64)) j aj);have X:=lI N Y;have O:=AV (fun i=>i) j;have R:=fU [] (jZ (fun i=>i) j);have E:=(show fE []=0 from rfl)
  by_cases I:j<3
  ·have D:(j:Int)<3:=aj
   obtain⟨s,r,U,T,S⟩:=Q
   by_cases C:j<k
   ·have L:(j:Int)<(k:Nat):=aj
    have P:=ay (rW (b:=true) (x:=(fun i=>i) j) (by have:=(aj:j<64);omega) X.1 aj wr aj U);change Hid _ at T S;clear U Y X;go_wp2_with fail;refine P.aQ ?_;rintro M Z;have W:=ay (jE.step T S Z);clear Z;go_wp2;go_roundg(gk-1)
    case measure=>omega
    case rel=>exact⟨j+1,aj,aj,fA,by rw[AU,←wQ,fM,ku];exact W⟩
   ·obtain rfl:j=k:=aj
    have P:=ay (rW (b:=false) (x:=(fun i=>i) j) (by have:=(aj:j<64);omega) X.1 aj wr aj U);change Hid _ at T S;clear U Y X;go_wp2_with fail;refine P.aQ ?_;rintro M Z;have W:=ay (jE.step T S Z);clear Z;have W:Hid (jE w base g ge A (dU m ([]++l9 (fun i=>i) j 3)) M):=ay (by rw[Hg I,←wQ,fM,ku];exact W);go_wp2_with fail;go_ret;exact⟨by first|rfl|(rw[show(k:Int)=3 by omega];rfl),W⟩
  ·obtain rfl:j=3:=aj
   have W:Hid (jE w base g ge A (dU m ([]++l9 (fun i=>i) k 3)) wr):=ay (by rw[(aj:k=3),Hl];exact Q);go_wp2_with fail;go_ret;exact⟨by first|rfl|(rw[show(k:Int)=3 by omega];rfl),W⟩
theorem aec(H:k≤3)(P:m.ok)(G:m.e.out.length≤800000)(w:aK)(K:base≤w)(h:EO w base g ge A c m):
  Calls prog 313 #[cdV g,k] w fun e U=>e=bM k∧jE w base g ge A (dU m (Bh k)) U:=by
 obtain⟨O,N,M⟩:=dB (fun U=>VF (v:=(k:Int)) (a:=0) (b:=3) aj U) (fun b=>rW (b:=b) (x:=3) aj P aj w K h) (fun b R Q T (F:w.heap.size≤T.heap.size) x (I:x<64) (X:EO T base g ge R Q (ug m (.c 3 b)))=>rW (b:=decide (k%2=1)) (x:=x) I (sU (s:=.c 3 b) P (fun n b e=>by injection e;omega)).1 (by have:=(sU (s:=.c 3 b) P (fun n b e=>by injection e;omega)).2;simp only[nI]at this;omega) T aj X);have E:=afj (aH g 0);clear h P;have J:k=0∨k=1∨k=2∨k=3:=aj
 rcases J with rfl|rfl|rfl|rfl
 ·go_enter func313,ntmps313
  go_wp2_with fail;refine(O _).aQ ?_;rintro U rfl;go_wp2_with fail;refine(N _).aQ ?_;rintro T ⟨R,Q,X,Z,W⟩;have Y:=Z.size;change Hid _ at X Z W;go_wp2_with fail;refine(M _ _ _ _ Y 4 aj X).aQ ?_;rintro L V;have S:=ay (jE.step Z W V);clear V;go_wp2;go_ret;exact⟨rfl,S⟩
 ·go_enter func313,ntmps313
  go_wp2_with fail;refine(O _).aQ ?_;rintro U rfl;go_wp2_with fail;refine(N _).aQ ?_;rintro T ⟨R,Q,X,Z,W⟩;have Y:=Z.size;change Hid _ at X Z W;go_wp2_with fail;refine(M _ _ _ _ Y 4 aj X).aQ ?_;rintro L V;have S:=ay (jE.step Z W V);clear V;go_wp2_with fail;go_ret;exact⟨rfl,S⟩
 ·go_enter func313,ntmps313
  go_wp2_with fail;refine(O _).aQ ?_;rintro U rfl;go_wp2_with fail;refine(N _).aQ ?_;rintro T ⟨R,Q,X,Z,W⟩;have Y:=Z.size;change Hid _ at X Z W;go_wp2_with fail;refine(M _ _ _ _ Y 5 aj X).aQ ?_;rintro L V;have S:=ay (jE.step Z W V);clear V;go_wp2_with fail;go_ret;exact⟨rfl,S⟩
 ·go_enter func313,ntmps313
  go_wp2_with fail;refine(O _).aQ ?_;rintro U rfl;go_wp2_with fail;refine(N _).aQ ?_;rintro T ⟨R,Q,X,Z,W⟩;have Y:=Z.size;change Hid _ at X Z W;go_wp2_with fail;refine(M _ _ _ _ Y 5 aj X).aQ ?_;rintro L V;have S:=ay (jE.step Z W V);clear V;go_wp2_with fail;go_ret;exact⟨rfl,S⟩
end
theorem ahq{x:Int}(h0:0≤x)(h1:x≤9223372036854775807):bits .and .i64 x 1=x%2:=by
 obtain⟨n,rfl⟩:=D6 h0;have Z:n<2^64:=aj
 have e:(BitVec.ofInt 64 (n:Int)&&& BitVec.ofInt 64 1).toNat=n%2:=by
  rw[BitVec.toNat_and];simp[kT Z,Nat.and_one_is_mod]
 show IntKind.i64.wrap (((BitVec.ofInt 64 (n:Int)&&& BitVec.ofInt 64 1).toNat:Nat):Int)=_;rw[e,iE _ aj];omega
theorem amL(a:Addr)(w:aK):(Go.nilAhead 575 360 (aY (some a)) "Flat").run prog w= .ok (some false) w:=aW
theorem amM(a:Addr)(w:aK):(Go.nilAhead 575 360 (aY (some a)) "Bit").run prog w= .ok (some false) w:=aW
def DW(j:Nat):List iH:=(List.range j).map fun _=>.f true
theorem Zn(j:Nat):DW (j+1)=DW j++ [.f true]:=by simp[DW,jk]
theorem Nq(j:Nat):dM (DW j):=dM.map fun i _ n b e=>by cases e
theorem Zo(j:Nat):fE (DW j)≤j:=by
 have h:=CY (l:=List.range j) (g:=fun _=>iH.f true) (k:=1) fun i _=>by simp[nI]
 rw[jG]at h;unfold DW;omega
def Bz(u z j:Nat):List iH:=(List.range j).map fun i=>.f (decide (u/2^(z-1-i)%2=1))
theorem Qu(u z j:Nat):Bz u z (j+1)=Bz u z j++ [.f (decide (u/2^(z-1-j)%2=1))]:=by simp[Bz,jk]
theorem TI(u z j:Nat):dM (Bz u z j):=dM.map fun i _ n b e=>by cases e
theorem Qv(u z j:Nat):fE (Bz u z j)≤j:=by
 have h:=CY (l:=List.range j) (g:=fun i=>iH.f (decide (u/2^(z-1-i)%2=1))) (k:=1) fun i _=>by simp[nI]
 rw[jG]at h;unfold Bz;omega
theorem XB(u:Nat):BK u=DW (yx u)++(if yx u<13 then [.f false]else [])++Bz u (yx u) (yx u):=rfl
theorem aa1{u:Nat}(h:0<u):2^yx u≤u∧u<2^(yx u+1):=⟨Nat.log2_self_le aj,Nat.lt_log2_self⟩
theorem afk(h:j≤13):2^j≤8192∧1≤2^j:=by
 have:=oW (aj:0<2) h;exact⟨this,Nat.one_le_two_pow⟩
section
variable{base g ge c:Nat}{A:dK}{m:jD}
theorem aa2{u:Nat}(hu:1≤u∧u<16384)(d:m.ok)(hl:m.e.out.length≤800000)(w:aK)(qg:base≤w)(h:EO w base g ge A c m):
  Calls prog 339 #[cdV g,u] w fun e w'=>e=bM u∧jE w base g ge A (dU m (BK u)) w':=by
 have H:=ay h;have hz:=Vr hu.2;have hp:=aa1 (u:=u) aj;have hG:=ay (XB u);generalize yx u=z at*;change Hid _ at d;clear h;have mF:=aa0 (aH g 0);have nF:=amL (aH g 0);go_enter func339,ntmps339;go_wp2_with fail
 go_loopg [5] (13:Nat) (fun n o wr=>∃j:Nat,j+n=13∧j≤z∧o=j∧jE w base g ge A (dU m (DW j)) wr)
 case atStart=>exact⟨0,aj,aj,rfl,jE.refl H⟩
 case round=>
  obtain⟨j,hj,qh,rfl,M⟩:=hrel;have k:=M.size;have U:=lI d (Nq j);have R:=Zo j
  by_cases h3:j<13
  ·have qi:(j:Int)<13:=aj
   obtain⟨P,c1,C,a,h4⟩:=M;have qa:=afk (j:=j+1) aj
   have e1:IntKind.i64.wrap (2*2^j)=((2^(j+1):Nat):Int):=by
    rw[show(2:Int)*2^j=((2^(j+1):Nat):Int) by rw[tV];push_cast;omega];exact iE _ aj
   by_cases qe:j<z
   ·have E:2^(j+1)≤2^z:=oW aj qe
    have S:Hid (decide ((2:Int)^(j+1)≤(u:Int))=true):=ay (by
     rw[decide_eq_true_iff];have:(((2^(j+1):Nat):Int))≤(u:Int):=aj
     push_cast at this
     exact this)
    have L:=ay (EC (b:=true) U.1 aj wr.drew (by simpa using(by omega:base≤wr)) (C.keep (aU _ _).drew));change Hid _ at a h4;clear C U;go_wp2_with fail
    go_region_held3(fun _=>True) (trivial) ((go_at_call 378;rw[S.out];refine L.aQ ?_;rintro p Y))
    have G:=ay (jE.step a h4 (jE.step (A1:=P) (bQ.of_below (aU wr wr).drew) (fun _ h=>.inl h) Y));clear Y;go_wp2_with fail;go_roundg(gk-1)
    case measure=>omega
    case rel=>exact⟨j+1,aj,aj,fA,by rw[Zn,fM,ku];exact G⟩
   ·obtain rfl:j=z:=aj
    have S:Hid (decide ((2:Int)^(j+1)≤(u:Int))=false):=ay (by
     rw[decide_eq_false_iff_not];have:¬(((2^(j+1):Nat):Int))≤(u:Int):=aj
     push_cast at this
     exact this)
    have L:=ay (EC (b:=false) U.1 aj wr.drew (by simpa using(by omega:base≤wr)) (C.keep (aU _ _).drew))
    have x:Hid ((1:Int)=((u/2^(j-0):Nat):Int)):=ay (by
     have:u/2^(j-0)=1:=by
      rw[Nat.sub_zero];refine Nat.div_eq_of_lt_le aj ?_;have:=hp.2;rw[tV]at this;omega
     omega)
    obtain⟨Q,T⟩:∃Q,Q=DW j++ [iH.f false]:=⟨_,rfl⟩;have v:Hid (DW j++(if j<13 then [iH.f false]else [])=Q):=ay (by rw[aF h3,T]);have t:Hid (dM Q):=ay (by rw[T];exact(Nq j).app (dM.f1 _));have s:Hid (fE Q≤14):=ay (by rw[T,fU];have:fE [iH.f false]=1:=rfl;omega);change Hid _ at a h4;clear C U;go_wp2_with fail
    go_region_held3(fun _=>True) (trivial) ((go_at_call 378;rw[S.out];refine L.aQ ?_;rintro p Y))
    have J:Hid (jE w base g ge A (dU m Q) p):=ay (by rw[T,fM,ku];exact jE.step a h4 (jE.step (A1:=P) (bQ.of_below (aU wr wr).drew) (fun _ h=>.inl h) Y));clear Y T hp R e1 qa;go_wp2_with fail
    go_loopg [6,7] j (fun n v6 o wr=>∃i:Nat,i+n=j∧v6= aB (u/2^(j-i):Nat)∧o= aB ((n:Int)-1)∧jE w base g ge A (dU m (Q++Bz u j i)) wr)
    case atStart=>exact⟨0,aj,by rw[x],rfl,by simpa[Bz]using J.out⟩
    case round=>
     obtain⟨i,hi,rfl,rfl,M⟩:=hrel;have k:=M.size;have U:=lI d (dM.app t (TI u j i));have R:=Qv u j i;have D:=fU Q (Bz u j i);have qf:=s.out
     by_cases C:1≤gk
     ·obtain⟨Z,rfl⟩:∃Z,gk=Z+1:=⟨gk-1,aj⟩
      have em:((Z+1:Nat):Int)-1=(Z:Int):=aj
      rw[em];obtain⟨P,c1,l,B,y⟩:=M;have ez:j-i=Z+1:=aj
      have I:j-(i+1)=Z:=aj
      have r:j-1-i=Z:=aj
      have O:u/2^Z=2*(u/2^(Z+1))+u/2^Z%2:=by
       rw[tV,←Nat.div_div_eq_div_mul];omega
      have E:u/2^Z≤u:=Nat.div_le_self _ _;have W:(u:Int)/2^Z=((u/2^Z:Nat):Int):=by push_cast;rfl
      have X:=Qu u j i;rw[r]at X;obtain⟨q,K⟩:∃q,u/2^Z=q:=⟨_,rfl⟩;obtain⟨F,N⟩:∃F,u/2^(Z+1)=F:=⟨_,rfl⟩;rw[K,N]at O;rw[K]at X E W
      have V:Hid ((bits .and .i64 ((u:Int)/2^Z) 1==1)=decide (q%2=1)):=ay (by
       rw[W,ahq aj aj]
       by_cases S:q%2=1
       ·rw[su S];simp;omega
       ·rw[vH S];simp;omega)
      rw[ez,N];have L:=ay (EC (b:=decide (q%2=1)) U.1 aj wr.drew (by simpa using(by omega:base≤wr)) (l.keep (aU _ _).drew));change Hid _ at B y X K;clear l U W N
      by_cases S:q%2=1
      ·rw[su S]at L V X
       have e6:(F:Int)*2+1=(q:Int):=aj
       clear O S;go_wp2_with fail
       go_region_held3(fun _=>True) (trivial) ((go_at_call 378;rw[V.out];refine L.aQ ?_;rintro p Y))
       have G:=ay (jE.step B y (jE.step (A1:=P) (bQ.of_below (aU wr wr).drew) (fun _ h=>.inl h) Y));clear Y;go_wp2_with fail;go_roundg Z
       case measure=>omega
       case rel=>exact⟨i+1,aj,by rw[I,K],fA,by rw[X,←wQ,fM,ku];exact G⟩
      ·rw[vH S]at L V X
       have e6:(F:Int)*2=(q:Int):=aj
       clear O S;go_wp2_with fail
       go_region_held3(fun _=>True) (trivial) ((go_at_call 378;rw[V.out];refine L.aQ ?_;rintro p Y))
       have G:=ay (jE.step B y (jE.step (A1:=P) (bQ.of_below (aU wr wr).drew) (fun _ h=>.inl h) Y));clear Y;go_wp2_with fail;go_roundg Z
       case measure=>omega
       case rel=>exact⟨i+1,aj,by rw[I,K],fA,by rw[X,←wQ,fM,ku];exact G⟩
     ·obtain rfl:gk=0:=aj
      obtain rfl:i=j:=aj
      have eu:u/2^(i-i)=u:=by rw[tX,Nat.pow_zero,Nat.div_one]
      rw[eu];change Hid _ at M;go_wp2_with fail;go_ret;exact⟨rfl,by rw[hG.out,v];exact M⟩
  ·obtain rfl:j=13:=aj
   obtain rfl:z=13:=aj
   have x:Hid ((1:Int)=((u/2^(13-0):Nat):Int)):=ay aj;obtain⟨Q,T⟩:∃Q,Q=DW 13:=⟨_,rfl⟩;have v:Hid (DW 13++(if 13<13 then [iH.f false]else [])=Q):=ay (by rw[au aj,gI,T]);have t:Hid (dM Q):=ay (by rw[T];exact Nq 13);have s:Hid (fE Q≤14):=ay (by rw[T];omega);have J:Hid (jE w base g ge A (dU m Q) wr):=ay (by rw[T];exact M);clear M T R U;go_wp2_with fail
   go_quiet(fail)
   have J:=ay (J.then_ fun P c1 C=>jE.of_below C (jM (aU _ _) nq));go_wp2_with fail
   go_loopg [6,7] (13:Nat) (fun n v6 o wr=>∃i:Nat,i+n=13∧v6= aB (u/2^(13-i):Nat)∧o= aB ((n:Int)-1)∧jE w base g ge A (dU m (Q++Bz u 13 i)) wr)
   case atStart=>exact⟨0,aj,by rw[x],rfl,by simpa[Bz]using J.out⟩
   case round=>
    obtain⟨i,hi,rfl,rfl,M⟩:=hrel;have k:=M.size;have U:=lI d (dM.app t (TI u 13 i));have R:=Qv u 13 i;have D:=fU Q (Bz u 13 i);have qf:=s.out
    by_cases C:1≤gk
    ·obtain⟨Z,rfl⟩:∃Z,gk=Z+1:=⟨gk-1,aj⟩
     have em:((Z+1:Nat):Int)-1=(Z:Int):=aj
     rw[em];obtain⟨P,c1,l,B,y⟩:=M;have ez:13-i=Z+1:=aj
     have I:13-(i+1)=Z:=aj
     have r:13-1-i=Z:=aj
     have O:u/2^Z=2*(u/2^(Z+1))+u/2^Z%2:=by
      rw[tV,←Nat.div_div_eq_div_mul];omega
     have E:u/2^Z≤u:=Nat.div_le_self _ _;have W:(u:Int)/2^Z=((u/2^Z:Nat):Int):=by push_cast;rfl
     have X:=Qu u 13 i;rw[r]at X;obtain⟨q,K⟩:∃q,u/2^Z=q:=⟨_,rfl⟩;obtain⟨F,N⟩:∃F,u/2^(Z+1)=F:=⟨_,rfl⟩;rw[K,N]at O;rw[K]at X E W
     have V:Hid ((bits .and .i64 ((u:Int)/2^Z) 1==1)=decide (q%2=1)):=ay (by
      rw[W,ahq aj aj]
      by_cases S:q%2=1
      ·rw[su S];simp;omega
      ·rw[vH S];simp;omega)
     rw[ez,N];have L:=ay (EC (b:=decide (q%2=1)) U.1 aj wr.drew (by simpa using(by omega:base≤wr)) (l.keep (aU _ _).drew));change Hid _ at B y X K;clear l U W N
     by_cases S:q%2=1
     ·rw[su S]at L V X
      have e6:(F:Int)*2+1=(q:Int):=aj
      clear O S;go_wp2_with fail
      go_region_held3(fun _=>True) (trivial) ((go_at_call 378;rw[V.out];refine L.aQ ?_;rintro p Y))
      have G:=ay (jE.step B y (jE.step (A1:=P) (bQ.of_below (aU wr wr).drew) (fun _ h=>.inl h) Y));clear Y;go_wp2_with fail;go_roundg Z
      case measure=>omega
      case rel=>exact⟨i+1,aj,by rw[I,K],fA,by rw[X,←wQ,fM,ku];exact G⟩
     ·rw[vH S]at L V X
      have e6:(F:Int)*2=(q:Int):=aj
      clear O S;go_wp2_with fail
      go_region_held3(fun _=>True) (trivial) ((go_at_call 378;rw[V.out];refine L.aQ ?_;rintro p Y))
      have G:=ay (jE.step B y (jE.step (A1:=P) (bQ.of_below (aU wr wr).drew) (fun _ h=>.inl h) Y));clear Y;go_wp2_with fail;go_roundg Z
      case measure=>omega
      case rel=>exact⟨i+1,aj,by rw[I,K],fA,by rw[X,←wQ,fM,ku];exact G⟩
    ·obtain rfl:gk=0:=aj
     obtain rfl:i=13:=aj
     have eu:u/2^(13-13)=u:=by rw[tX,Nat.pow_zero,Nat.div_one]
     rw[eu];change Hid _ at M;go_wp2_with fail;go_ret;exact⟨rfl,by rw[hG.out,v];exact M⟩
end
end
end Go.Proofs.YtiaeohgghaaciaaGreatDoor
