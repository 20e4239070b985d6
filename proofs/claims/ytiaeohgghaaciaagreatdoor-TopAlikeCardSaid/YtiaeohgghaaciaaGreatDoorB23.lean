import Derived.Test.YtiaeohgghaaciaaGreatDoorB22
namespace Go.Proofs.YtiaeohgghaaciaaGreatDoor
open Go Go.Maps Go.RowKit Go.Extern.Stop Go.Stop Go.Extern Go.Proofs.Tryz
set_option linter.all false
set_option maxRecDepth 100000
set_option maxHeartbeats 4000000
variable{err:Int}{b l src:List Int}{W base c ch i j k m n:Nat}{S:Nat→Prop}{A B:Option Addr}{v:Value}{u w w' w1:World}
section
variable{w:aK}{K:Cn}{M:xW}{SD:Nat→Prop}{X:bI}{d:aI}{f:bZ}{oP:Option fG}{jg mb i tb N tn:Nat}{th:Bool}{td:aO}{t:aX}
theorem xG.below{v:aK}{S:vO}{e:Ending}(Z:aP w u)(h:xG u K M jg mb SD oP f i t S e v):xG w K M jg mb SD oP f i t S e v:=⟨h.1,kD.step rfl rfl rfl (bQ.of_below Z) (fun _ h=>.inl h) h.2⟩
theorem xG.kept{v:aK}{r:aI × bT × Int}{e:Ending}(Z:Js K M oP X d f i tb N t)(Y:aP w u)(h:xK u K M jg mb SD f oP r e v):xG w K M jg mb SD oP f i t ⟨r.1,r.2.1,f.made,t.data,r.2.2⟩ e v:=by
 have W:f.tasks.set i {t with data:=t.data}=f.tasks:=abT Z.hi Z.ht;obtain⟨V,U⟩:=kD.am5 h;refine⟨V,?_⟩;rw[W];exact kD.step rfl rfl rfl (bQ.of_below Y) (fun _ h=>.inl h) U
theorem rec_eq(ht:f.tasks.getD i aX.zero=t):al0 X.chunks (f.tasks.getD i aX.zero)=X.xR t:=by rw[ht];rfl
theorem aiM(Y:Js K M oP X d f i tb N ⟨th,tn,0,td⟩)(T:f.made.length≤900000)(R:tn=X.chunks→∀k,k<X.chunks→d.CX (iR k)=0∧(d.file (iR k)).data=X.pk k)(h:uw w K M jg mb SD d f oP):Calls prog 46 #[aY M.fg,aY (some (aH tb (i*4)))] w (xG w K M jg mb SD oP f i ⟨th,tn,0,td⟩ (eG X d f ⟨th,tn,0,td⟩)):=by
 obtain⟨F,E,D,C,B⟩:=h.Dt Y;obtain⟨P,O,L⟩:=dB (yU Y.ch Y.hn Y.SH h) (fun W (V:aP w W)=>(h.keep V).base.yG) (fun W (V:aP w W)=>((h.keep V).Dt Y).2.2.1)
 have J:Hid (∀W,aP w W→Calls prog 75 #[aY M.fg,aY (some (aH tb (i*4)))] W (xG W K M jg mb SD oP f i ⟨th,tn,0,td⟩ (eG X d f ⟨th,tn,0,td⟩))):=ay (fun W V=>by
  by_cases e:tn=X.chunks
  ·have I:=R e
   subst e;exact aiK Y I (h.keep V)
  ·have A:tn≤X.chunks:=Y.hn
   exact aiL Y aj T (h.keep V))
 generalize eG X d f ⟨th,tn,0,td⟩=S at*;generalize H:bP (Rn X.chunks tn)=z at*;generalize G:bP (Ro X.chunks tn)=By at*;go_enter func46,ntmps46;go_wp2_with(first|(go_at_call 74;refine P.aQ ?_;rintro U Z;have y:=O U Z;have x:=L U Z)|(go_at_call 75;refine(J U Z).mono ?_;rintro e v Q;obtain⟨rfl,-⟩:=id Q)|fail);go_ret;exact xG.below Z Q
theorem aiN(Z:Js K M oP X d f i tb N ⟨th,tn,6,td⟩)(E:gq X (X.xR ⟨th,tn,6,td⟩))(h:uw w K M jg mb SD d f oP):Calls prog 46 #[aY M.fg,aY (some (aH tb (i*4)))] w (xG w K M jg mb SD oP f i ⟨th,tn,6,td⟩ (eG X d f ⟨th,tn,6,td⟩)):=by
 obtain⟨u,g,c,s,r⟩:=h.Dt Z;obtain⟨q,Q,p⟩:=dB (yU Z.ch Z.hn Z.SH h) (fun W (T:aP w W)=>(h.keep T).base.yG) (fun W (T:aP w W)=>((h.keep T).Dt Z).2.2.1);have D:=E.may Z.of.ok;have C:=FT D;have A:=ay (fun W (T:aP w W)=>YL Z.ch Z.hi Z.hA (by rw[Z.ht];exact Z.Zv) (by rw[Z.ht];have:=Z.le;omega) (h.keep T));rw[rec_eq Z.ht]at A;have O:=ay (fun W=>V5 C W);have n:=wW (X.xR ⟨th,tn,6,td⟩);have J:=kN (X.xR ⟨th,tn,6,td⟩);have S:=ay (fun W B b (m:aP w W) (o:OwnB W w B (bH (X.xR ⟨th,tn,6,td⟩)) b (bH (X.xR ⟨th,tn,6,td⟩)))=>LW (x:=0) aj Z.lt Z.fit aj o.cap W (h.keep m).base.disk o.lb (fun i l e=>by have:=(o.e.dN l).1;have:=h.base.disk.lt e;omega));rw[nm0]at S;unfold eG;generalize X.xR ⟨th,tn,6,td⟩=R at*;generalize bH R=L at*;generalize I:bP (Rn X.chunks tn)=a at*;generalize H:bP (Ro X.chunks tn)=By at*;change Hid _ at h Z;clear u s r I H E D C n J;go_enter func46,ntmps46;go_wp2_with(first|(go_at_call 74;refine q.aQ ?_;rintro P V;have z:=Q P V;have r2:=p P V)|(go_at_call 82;refine(A P V).aQ ?_;rintro y G;have Y:=V.trans (G.mono V.size);have z:=Q y Y)|(go_at_call 81;refine(O y).mono ?_;rintro e v ⟨B4,b4,rfl,k,F⟩;have U:=Y.trans (F.mono Y.size);have z:=Q v U)|(go_at_call 77;refine(S v _ _ U (k.lower Y.size)).aQ ?_;rintro w5 j)|fail);go_ret;exact xG.disk h Z U j
theorem aiO(Z:Js K M oP X d f i tb N ⟨th,tn,7,td⟩)(H:gq X (X.xR ⟨th,tn,7,td⟩))(h:uw w K M jg mb SD d f oP):Calls prog 46 #[aY M.fg,aY (some (aH tb (i*4)))] w (xG w K M jg mb SD oP f i ⟨th,tn,7,td⟩ (eG X d f ⟨th,tn,7,td⟩)):=by
 obtain⟨y,x,v,u,s⟩:=h.Dt Z;obtain⟨G,P,F,E⟩:=jH (yU Z.ch Z.hn Z.SH h) (fun V (U:aP w V)=>(h.keep U).base.yG) (fun V (U:aP w V)=>((h.keep U).Dt Z).2.2.1) Z;have O:=H.may Z.of.ok;have D:=FT O;have L:=ay (fun V (U:aP w V)=>YL Z.ch Z.hi Z.hA (by rw[Z.ht];exact Z.Zv) (by rw[Z.ht];have:=Z.le;omega) (h.keep U));rw[rec_eq Z.ht]at L;have C:=ay (fun V (U:aP w V)=>aeA D O Z.lt V (h.keep U));unfold eG;generalize X.xR ⟨th,tn,7,td⟩=R at*;generalize lZ d f.job R=S at*;generalize A:bP (Rn X.chunks tn)=r at*;generalize z:bP (Ro X.chunks tn)=By at*;go_enter func46,ntmps46;go_wp2_with(first|(go_at_call 74;refine G.aQ ?_;rintro T Y;have B:=P T Y;have q:=F T Y)|(go_at_call 82;refine(L T Y).aQ ?_;rintro J Q;have W:=Y.trans (Q.mono Y.size);have B:=P J W)|(go_at_call 83;refine(C J W).mono ?_;rintro e p I;obtain⟨rfl,-⟩:=id I)|fail);go_ret;exact xG.kept E W I
theorem step_ok(Z:Js K M oP X d f i tb N t)(V:Eo X d f t)(U:f.made.length≤900000)(h:uw w K M jg mb SD d f oP):Calls prog 46 #[aY M.fg,aY (some (aH tb (i*4)))] w (xG w K M jg mb SD oP f i t (eG X d f t)):=by
 obtain⟨th,tn,S,td⟩:=t;have T:=V.step;have Y:=V.xR;have W:=V.rd;dsimp only at T Y W
 match S,T,Y,W with
 |0,_,_,W=>exact aiM Z U (W rfl) h
 |1,_,_,_=>exact aiF Z h
 |2,_,_,_=>exact aiJ Z h
 |3,_,_,_=>exact aiG Z h
 |4,_,_,_=>exact aiH Z h
 |5,_,_,_=>exact aiI Z h
 |6,_,Y,_=>exact aiN Z (Y aj) h
 |7,_,Y,_=>exact aiO Z (Y aj) h
end
def aao(w:aK)(Z i:Nat)(a:Ap):aK:=(((w.setCell ⟨Z,i*4,none⟩ (.bool a.h)).setCell ⟨Z,i*4+1,none⟩ (aB a.n)).setCell ⟨Z,i*4+2,none⟩ (aB a.s)).setCell ⟨Z,i*4+3,none⟩ (aG a.A a.l a.c)
theorem set_set{α:Type}(l:List α)(i:Nat)(a b:α):(l.set i a).set i b=l.set i b:=List.set_set ..
theorem SK{ms:List Ap}(hi:i<ms)(a:Ap):(ms.set i a).getD i yT=a:=by rw[xA,aF ⟨rfl,hi⟩]
section
variable{w w':aK}{K:Cn}{M:xW}{SD:Nat→Prop}{d:aI}{f:bZ}{oP:Option fG}{jg mb i tb n c:Nat}{ms:List Ap}{a:Ap}{t:aX}
theorem akL(V:dX XW w 0 tb n c ms)(hi:i<ms)(a:Ap):dX XW (aao w tb i a) 0 tb n c (ms.set i a):=by
 generalize U:ms.getD i yT=m;have Z:∀b,i<(ms.set i b):=fun b=>by rw[pG];exact hi
 have T:=KD (a:={m with h:=a.h}) (v:=.bool a.h) V hi 0 aj (by rw[U];rfl);have Y:=KD (a:={m with h:=a.h,n:=a.n}) (v:=aB a.n) T (Z _) 1 aj (by rw[SK hi];rfl);rw[set_set]at Y;have X:=KD (a:={m with h:=a.h,n:=a.n,s:=a.s}) (v:=aB a.s) Y (Z _) 2 aj (by rw[SK hi];rfl);rw[set_set]at X;have W:=KD (a:=a) (v:=aG a.A a.l a.c) X (Z _) 3 aj (by rw[SK hi];rfl);rw[set_set]at W;exact W
theorem WS(S:Nat→Prop)(w:aK)(h:S tb)(i:Nat)(a:Ap):bQ S w (aao w tb i a):=
 ((((bQ.refl S w).setCell (fun _=>h) _).setCell (fun _=>h) _).setCell (fun _=>h) _).setCell (fun _=>h) _
theorem uw.four(h:uw w K M jg mb SD d f oP)(Z:M.A=tb)(hi:i<f.tasks)(W:a.h=t.has)(V:a.n=t.n)(U:a.s=t.step)(hd:OwnB w 0 a.A a.l a.c t.data)(T:∀k,In a.A k→¬SD k):
  uw (aao w tb i a) K {M with ms:=M.ms.set i a} jg mb SD d {f with tasks:=f.tasks.set i t} oP:=by
 have Q:M.ms.length=f.tasks:=h.base.tasks.len;have Y:=h.base.tasks;rw[Z]at Y;have X:=WS (In M.A) w (by rw[Z];exact⟨_,rfl,rfl⟩) i a;exact h.task hi (by rw[Z];exact akL Y aj a) X ⟨W,V,U,hd.dH X (fun k S R=>D5 hd.e h.base.tasks bn k S R)⟩ T
theorem kD.four(h:uw w K M jg mb SD d f oP)(Z:M.A=tb)(hi:i<f.tasks)(Y:a.h=t.has)(X:a.n=t.n)(W:a.s=t.step)(hd:OwnB w 0 a.A a.l a.c t.data)(V:∀k,In a.A k→¬SD k)(U:∀k,In a.A k→Ox M SD jg mb k):
  kD w K M jg mb SD oP d {f with tasks:=f.tasks.set i t} (aao w tb i a):=
 ⟨_,SD,h.four Z hi Y X W hd V,rfl,rfl,rfl,WS _ w (.inr (.inr (.inr (.inr (.inl (by rw[Z];exact⟨_,rfl,rfl⟩)))))) i a,fun k T=>.inl (T.ms.elim id (U k))⟩
theorem kD.fresh{b:Bool}(h:uw w K M jg mb SD d f oP)(Z:M.A=tb)(hi:i<f.tasks):kD w K M jg mb SD oP d {f with tasks:=f.tasks.set i ⟨b,k,0,[]⟩} (aao w tb i ⟨b,k,0,none,0,0⟩):=
 kD.four h Z hi rfl rfl rfl (dX.nil _ _).ownB (fun _ e=>by obtain⟨_,e,-⟩:=e;cases e) (fun _ e=>by obtain⟨_,e,-⟩:=e;cases e)
theorem kD.inc(h:uw w K M jg mb SD d f oP)(Y:M.A=tb)(hi:i<f.tasks)(ht:f.tasks.getD i aX.zero=t):kD w K M jg mb SD oP d {f with tasks:=f.tasks.set i {t with step:=t.step+1}} (w.setCell ⟨tb,i*4+2,none⟩ (aB ((t.step+1:Nat):Int))):=by
 have S:M.ms.length=f.tasks:=h.base.tasks.len;have Z:=h.base.tk i hi;rw[ht]at Z;have X:=h.base.tasks;rw[Y]at X;have V:=KD (a:={M.ms.getD i yT with s:=t.step+1}) (v:=aB ((t.step+1:Nat):Int)) X aj 2 aj rfl;have W:=(bQ.refl (In M.A) w).setCell (p:=(aH tb (i*4+2))) (fun _=>by rw[Y];exact⟨_,rfl,rfl⟩) (aB ((t.step+1:Nat):Int));refine⟨_,SD,h.task (m:={M.ms.getD i yT with s:=t.step+1}) hi (by rw[Y];exact V) W ⟨Z.h,Z.n,rfl,Z.d.dH W (fun k U T=>D5 Z.d.e h.base.tasks bn k U T)⟩ (fun k e=>h.base.sT i hi k e),rfl,rfl,rfl,(bQ.refl _ w).setCell (p:=(aH tb (i*4+2))) (fun _=>.inr (.inr (.inr (.inr (.inl (by rw[Y];exact⟨_,rfl,rfl⟩)))))) _,fun k Z=>.inl (Z.ms.elim id fun e=>?_)⟩;exact .inr (.inr (.inr (.inr (.inr (.inr (.inr ⟨i,e⟩))))))
theorem kD.down(h:uw w K M jg mb SD d f oP)(b:Bool):kD w K M jg mb SD oP d {f with down:=b} (w.setCell ⟨M.fg,17,none⟩ (.bool b)):=
 ⟨M,SD,h.down' b,rfl,rfl,rfl,(bQ.refl _ w).setCell (fun _=>Ox.fg) _,fun _ Z=>.inl Z⟩
theorem kD.trans{X W:aI}{V U:bZ}(h1:kD w K M jg mb SD oP X V w1)(h:∀Y Z,uw w1 K Y jg mb Z X V oP→Y.fg=M.fg→Y.dg=M.dg→Y.A=M.A→kD w1 K Y jg mb Z oP W U u):kD w K M jg mb SD oP W U u:=by
 obtain⟨Y,Z,Q,T,S,R,P,O⟩:=h1;exact kD.step T S R P O (h Y Z Q T S R)
end
section
variable{w:aK}{K:Cn}{M:xW}{SD:Nat→Prop}{X:bI}{d:aI}{f:bZ}{oP:Option fG}{jg mb i tb N tn ts:Nat}{th:Bool}{td:aO}{t:aX}
theorem uw.fz4{Y:aI}(h:uw w K M jg mb SD d f oP)(Z:Js K M oP X Y f i tb N t):w.frozen? (aH tb (i*4))=false∧w.frozen? (aH tb (i*4+1))=false∧w.frozen? (aH tb (i*4+2))=false∧w.frozen? (aH tb (i*4+3))=false:=
 ⟨h.Oy Z _,h.Oy Z _,h.Oy Z _,h.Oy Z _⟩
def KE(w:aK)(K:Cn)(M:xW)(jg mb:Nat)(SD:Nat→Prop)(oP:Option fG)(f:bZ)(i:Nat)(r:aI × Bool × Int)(e:Ending)(w':aK):Prop:=
 e=bM (eV r.2.2)∧kD w K M jg mb SD oP r.1 {f with tasks:=if r.2.1 then f.tasks.set i aX.zero else f.tasks} w'
theorem KE.zero{r:Int}{d':aI}(Z:kD w K M jg mb SD oP d' f u)(Y:M.A=tb)(hi:i<f.tasks):KE w K M jg mb SD oP f i (d',true,r) (bM (eV r)) (aao u tb i yT):=
 ⟨rfl,Z.trans fun _ _ k _ _ W=>kD.fresh k (W.trans Y) hi⟩
theorem aiP(h0:ts=0)(Z:Js K M oP X d f i tb N ⟨th,tn,ts,td⟩)(h:uw w K M jg mb SD d f oP):Calls prog 48 #[aY M.fg,aY (some (aH tb (i*4))),eV err] w (KE w K M jg mb SD oP f i (nZ X d ⟨th,tn,ts,td⟩ err)):=by
 obtain⟨G,F,E,D,C⟩:=h.Dt Z;dsimp only at F E;obtain⟨T,S,L,J⟩:=Z.temp;dsimp only at T S L J;have I:=ay (yU (n:=tn) Z.ch Z.hn Z.SH h);rw[T,S]at I;obtain⟨B,A,z⟩:=dB (fun V (U:aP w V)=>(h.keep U).base.yG) (fun V (U:aP w V)=>(h.keep U).Dt Z) (fun V (U:aP w V)=>(h.keep U).fz4 Z);have Q:nZ X d ⟨th,tn,ts,td⟩ err=(d,true,err):=au (by dsimp only;omega);rw[Q];subst h0;generalize P:bP (X.temp tn)=y at*;generalize O:bP (X.name tn)=By at*;generalize X.temp tn=x at*;obtain⟨H,W⟩:∃H,H=eV err:=⟨_,rfl⟩;rw[←W];change Hid _ at h Z W;clear T S L J G D C P O;go_enter func48,ntmps48;go_wp2_with(go_at_call 74;refine I.aQ ?_;rintro R Y;have v:=B R Y;obtain⟨u,s,r,q,-⟩:=A R Y;obtain⟨p,o,m,l⟩:=z R Y);go_ret;rw[W];exact KE.zero (kD.keep h Y) Z.hA Z.hi
theorem aiQ(y:5≤ts)(Z:Js K M oP X d f i tb N ⟨th,tn,ts,td⟩)(h:uw w K M jg mb SD d f oP):Calls prog 48 #[aY M.fg,aY (some (aH tb (i*4))),eV err] w (KE w K M jg mb SD oP f i (nZ X d ⟨th,tn,ts,td⟩ err)):=by
 obtain⟨G,F,E,D,C⟩:=h.Dt Z;dsimp only at F E;obtain⟨T,S,L,J⟩:=Z.temp;dsimp only at T S L J;have I:=ay (yU (n:=tn) Z.ch Z.hn Z.SH h);rw[T,S]at I;obtain⟨B,A,z⟩:=dB (fun V (U:aP w V)=>(h.keep U).base.yG) (fun V (U:aP w V)=>(h.keep U).Dt Z) (fun V (U:aP w V)=>(h.keep U).fz4 Z);have Q:nZ X d ⟨th,tn,ts,td⟩ err=(d,true,err):=au (by dsimp only;omega);rw[Q];generalize P:bP (X.temp tn)=v at*;generalize O:bP (X.name tn)=By at*;generalize X.temp tn=x at*;obtain⟨H,W⟩:∃H,H=eV err:=⟨_,rfl⟩;rw[←W];change Hid _ at h Z W;clear T S L J G D C P O;go_enter func48,ntmps48;go_wp2_with(go_at_call 74;refine I.aQ ?_;rintro R Y;have u:=B R Y;obtain⟨s,r,q,p,-⟩:=A R Y;obtain⟨o,m,l,k⟩:=z R Y);go_ret;rw[W];exact KE.zero (kD.keep h Y) Z.hA Z.hi
theorem aiR(h1:1≤ts)(h4:ts≤4)(hx:(d.names (X.temp tn)).isSome=false)(W:Js K M oP X d f i tb N ⟨th,tn,ts,td⟩)(h:uw w K M jg mb SD d f oP):Calls prog 48 #[aY M.fg,aY (some (aH tb (i*4))),eV err] w (KE w K M jg mb SD oP f i (nZ X d ⟨th,tn,ts,td⟩ err)):=by
 obtain⟨u,s,r,q,p⟩:=h.Dt W;dsimp only at s r;obtain⟨Q,P,O,D⟩:=W.temp;dsimp only at Q P O D;have C:=ay (yU (n:=tn) W.ch W.hn W.SH h);rw[Q,P]at C;obtain⟨B,z,y,o,J⟩:=rG (fun V (U:aP w V)=>(h.keep U).base.yG) (fun V (U:aP w V)=>(h.keep U).Dt W) (fun V (U:aP w V)=>(h.keep U).fz4 W) (fun V (U:aP w V)=>Jm W.lt V (h.keep U).base.disk) (fun V S A n c l (m:NmR V S d A n c l)=>Hq m O);have I:nZ X d ⟨th,tn,ts,td⟩ err=(d,true,err):=au (by dsimp only;rw[hx];simp);rw[I];have k:=ay hx;generalize H:bP (X.temp tn)=Bx at*;generalize G:bP (X.name tn)=By at*;generalize X.temp tn=x at*;obtain⟨v,T⟩:∃v,v=eV err:=⟨_,rfl⟩;rw[←T];change Hid _ at h W T;clear Q P O D u q p H G;go_enter func48,ntmps48;go_wp2_with(first|(go_at_call 74;refine C.aQ ?_;rintro R Y;have j:=B R Y;obtain⟨g,b,a,r3,-⟩:=z R Y;obtain⟨z0,z1,z2,z3⟩:=y R Y)|(go_at_call 56;refine(o R Y).mono ?_;rintro e L ⟨LA,Ln,Lc,Ll,rfl,F,E⟩;have Z:=Y.trans (E.mono Y.size);obtain⟨g,b,a,r3,-⟩:=z L Z;obtain⟨z0,z1,z2,z3⟩:=y L Z;have j:=B L Z)|(go_at_call 86;refine(J _ _ _ _ _ _ F).aQ ?_;rintro w4 rfl;rw[k])|fail);go_ret;rw[T];exact KE.zero (kD.keep h Z) W.hA W.hi
theorem aiS(h1:1≤ts)(h4:ts≤4)(hx:(d.names (X.temp tn)).isSome=true)(C:(d.remove (X.temp tn)).2=0)(Y:Js K M oP X d f i tb N ⟨th,tn,ts,td⟩)(h:uw w K M jg mb SD d f oP):Calls prog 48 #[aY M.fg,aY (some (aH tb (i*4))),eV err] w (KE w K M jg mb SD oP f i (nZ X d ⟨th,tn,ts,td⟩ err)):=by
 obtain⟨t0,t1,t2,t3,hk⟩:=h.Dt Y;dsimp only at t1 t2;obtain⟨O,L,R,B⟩:=Y.temp;dsimp only at O L R B;have z:=ay (yU (n:=tn) Y.ch Y.hn Y.SH h);rw[O,L]at z;obtain⟨y,v,u,HL,J,I,s⟩:=U2 (fun W (U:aP w W)=>(h.keep U).base.yG) (fun W (U:aP w W)=>(h.keep U).Dt Y) (fun W (U:aP w W)=>(h.keep U).fz4 Y) (fun W (U:aP w W)=>Jm Y.lt W (h.keep U).base.disk) (fun W (U:aP w W)=>PY R (dD Y.fit.steps (dD Y.hN aj)) W (h.keep U).base.disk) (fun W S A n c l (hl:NmR W S d A n c l)=>Hq hl R) h
 have H:nZ X d ⟨th,tn,ts,td⟩ err=((d.remove (X.temp tn)).1,true,err):=by
  unfold nZ;dsimp only;rw[aF ⟨h1,h4,hx⟩,au (by rw[C];simp)]
 rw[H];obtain⟨HX,HR⟩:=aV hx C;generalize G:bP (X.temp tn)=Bx at*;generalize F:bP (X.name tn)=By at*;generalize X.temp tn=x at*;obtain⟨r,T⟩:∃r,r=eV err:=⟨_,rfl⟩;rw[←T];change Hid _ at Y T;clear h O L R B t0 t3 hk G F;go_enter func48,ntmps48;go_wp2_with(first|(go_at_call 74;refine z.aQ ?_;rintro Q V;have d0:=y Q V;obtain⟨q,p,o,m,-⟩:=v Q V;obtain⟨k,j,g,b⟩:=u Q V)|(go_at_call 56;refine(HL Q V).mono ?_;rintro e P ⟨LA,Ln,Lc,Ll,rfl,E,D⟩;have Z:=V.trans (D.mono V.size);obtain⟨q,p,o,m,-⟩:=v P Z;obtain⟨k,j,g,b⟩:=u P Z;have d0:=y P Z)|(go_at_call 86;refine(I _ _ _ _ _ _ E).aQ ?_;rintro w4 rfl;rw[HX])|(go_at_call 87;refine(J P Z).aQ ?_;rintro w5 a;rw[HR,show eV 0=Value.nilIface from rfl];obtain⟨qa,h5,qe⟩:=(s.keep Z).Dk a;obtain⟨q,p,o,m,-⟩:=h5.Dt Y;obtain⟨k,j,g,b⟩:=h5.fz4 Y)|fail);go_ret;rw[T];exact KE.zero (kD.step rfl rfl rfl (bQ.of_below Z) (fun _ h=>.inl h) (kD.Dk (s.keep Z) a)) Y.hA Y.hi
theorem aiT(h1:1≤ts)(u:ts≤4)(hx:(d.names (X.temp tn)).isSome=true)(G:¬(d.remove (X.temp tn)).2=0)(V:Js K M oP X d f i tb N ⟨th,tn,ts,td⟩)(h:uw w K M jg mb SD d f oP):Calls prog 48 #[aY M.fg,aY (some (aH tb (i*4))),eV err] w (KE w K M jg mb SD oP f i (nZ X d ⟨th,tn,ts,td⟩ err)):=by
 obtain⟨t0,s,r,t3,hk⟩:=h.Dt V;dsimp only at s r;obtain⟨F,E,Q,q⟩:=V.temp;dsimp only at F E Q q;have D:=ay (yU (n:=tn) V.ch V.hn V.SH h);rw[F,E]at D;obtain⟨C,B,z,p,P,O,m⟩:=U2 (fun Y (U:aP w Y)=>(h.keep U).base.yG) (fun Y (U:aP w Y)=>(h.keep U).Dt V) (fun Y (U:aP w Y)=>(h.keep U).fz4 V) (fun Y (U:aP w Y)=>Jm V.lt Y (h.keep U).base.disk) (fun Y (U:aP w Y)=>PY Q (dD V.fit.steps (dD V.hN aj)) Y (h.keep U).base.disk) (fun Y T A n c l (o:NmR Y T d A n c l)=>Hq o Q) h
 have L:nZ X d ⟨th,tn,ts,td⟩ err=((d.remove (X.temp tn)).1,false,(d.remove (X.temp tn)).2):=by
  unfold nZ;dsimp only;rw[aF ⟨h1,u,hx⟩,aF G]
 rw[L];obtain⟨k,y⟩:=aV hx G;generalize qa:bP (X.temp tn)=Bx at*;generalize qe:bP (X.name tn)=By at*;generalize X.temp tn=x at*;obtain⟨v,J⟩:∃v,v=eV err:=⟨_,rfl⟩;rw[←J];go_enter func48,ntmps48;go_wp2_with(first|(go_at_call 74;refine D.aQ ?_;rintro S W;have j:=C S W;obtain⟨g,b,a,r3,-⟩:=B S W;obtain⟨z0,z1,z2,z3⟩:=z S W)|(go_at_call 56;refine(p S W).mono ?_;rintro e R ⟨LA,Ln,Lc,Ll,rfl,I,H⟩;have Z:=W.trans (H.mono W.size);obtain⟨g,b,a,r3,-⟩:=B R Z;obtain⟨z0,z1,z2,z3⟩:=z R Z;have j:=C R Z)|(go_at_call 86;refine(O _ _ _ _ _ _ I).aQ ?_;rintro w4 rfl;rw[k])|(go_at_call 87;refine(P R Z).aQ ?_;rintro w5 ho;rw[pz y])|fail);go_ret;exact⟨by rw[pz y];rfl,kD.step rfl rfl rfl (bQ.of_below Z) (fun _ h=>.inl h) (kD.Dk (m.keep Z) ho)⟩
theorem akM(Z:Js K M oP X d f i tb N t)(h:uw w K M jg mb SD d f oP):Calls prog 48 #[aY M.fg,aY (some (aH tb (i*4))),eV err] w (KE w K M jg mb SD oP f i (nZ X d t err)):=by
 obtain⟨th,tn,ts,td⟩:=t
 by_cases Y:1≤ts
 ·by_cases W:ts≤4
  ·cases V:(d.names (X.temp tn)).isSome with
   |false=>exact aiR Y W V Z h
   |true=>
    by_cases U:(d.remove (X.temp tn)).2=0
    ·exact aiS Y W V U Z h
    ·exact aiT Y W V U Z h
  ·exact aiQ aj Z h
 ·exact aiP aj Z h
end
def ErV(w:aK)(p:List (ByteArray × Int))(k:Int)(v:cO):Prop:=(k=0→v=iI)∧(k≠0→ErrAt w p (.iface 48 (aB k)) v)
theorem ErV.eV(w:aK)(k:Int):ErV w [] k (eV k):=⟨fun h=>by rw[h];rfl,fun h=>pz h⟩
def DN(w:aK)(K:Cn)(M:xW)(Z mb:Nat)(Y:Nat→Prop)(oP:Option fG)(r:aI × bZ × Int)(e:Ending)(w':aK):Prop:=
 (∃p v,e=bM v∧ErV w' p r.2.2 v)∧kD w K M Z mb Y oP r.1 r.2.1 w'
section
variable{w:aK}{K:Cn}{M:xW}{SD:Nat→Prop}{X:bI}{d:aI}{f:bZ}{oP:Option fG}{jg mb i tb N tn ts:Nat}{th:Bool}{td:aO}{t:aX}
theorem uw.GH(h:uw w K M jg mb SD d f oP)(U:M.A=tb)(hi:i<f.tasks)(ht:f.tasks.getD i aX.zero=t):aN w tb (i*4) (.bool t.has)∧aN w tb (i*4+1) (aB t.n)∧aN w tb (i*4+2) (aB t.step)∧
  aN w tb (i*4+3) (.slice (M.ms.getD i yT).A (M.ms.getD i yT).l (M.ms.getD i yT).c)∧∀j,w.frozen? (aH tb j)=false:=by
 obtain⟨P,O,Z,Y,W,V,T⟩:=h.base.aeC hi;rw[U]at Z;injection Z with Z
 injection Z with S R
 subst S R;simp only[dI]at Y W V T;rw[ht]at Y W V;refine⟨Y,W,V,T,?_⟩;obtain⟨g,e,-,-,Q⟩:=h.base.tasks.form aj;rw[U]at e;injection e with e
 injection e with e
 subst e;exact Q
theorem uw.d17(h:uw w K M jg mb SD d f oP):aN w M.fg 17 (.bool f.down)∧w.frozen? (aH M.fg 17)=false:=⟨h.base.box.at rfl,h.base.box.frozen 17⟩
theorem DN.plain{r:Int}{d':aI}{Z:bZ}(h:kD w K M jg mb SD oP d' Z w'):DN w K M jg mb SD oP (d',Z,r) (bM (eV r)) w':=⟨⟨_,_,rfl,ErV.eV _ _⟩,h⟩
theorem ErV.in_{w:aK}{s:ByteArray}{p:Int}{b:Nat}{k:Int}(Z:k≠0)(X:bF w b 169 #[.string s,p,.iface 48 k]):ErV w [(s,p)] k (.iface 167 (aY b)):=⟨fun h=>absurd h Z,fun _=>⟨b,_,rfl,X,rfl⟩⟩
theorem Js.YM(W:Of K oP X)(Z:Eo X d f t)(hi:i<f.tasks)(V:f.tasks.length≤64)(U:M.A=tb)(ht:f.tasks.getD i aX.zero=t)(Y:aZ d N)(T:N≤900000):Js K M oP X d f i tb N t:=
 ⟨W,Z.bad,Z.ch,hi,V,U,ht,Z.n,Z.Zv,Z.le,Z.lt,Y,T⟩
theorem Js.refused(Z:Js K M oP X d f i tb N t){V:xW}(U:V.A=M.A){S:vO}(T:S.job=f.job)(hd:S.data=t.data)(Y:fZ S.d)(W:aZ S.d (N+1))(R:N+1≤900000):Js K V oP X S.d {f with job:=S.job,made:=S.made,tasks:=f.tasks.set i {t with data:=S.data}} i tb (N+1) {t with data:=S.data}:=
 ⟨Z.of,Z.bad,by dsimp only;rw[T];exact Z.ch,by dsimp only;rw[pG];exact Z.hi,by dsimp only;rw[pG];exact Z.len,U.trans Z.hA,by dsimp only;rw[xA,aF ⟨rfl,Z.hi⟩],Z.hn,by dsimp only;rw[hd];exact Z.Zv,by dsimp only;rw[hd];exact Z.le,Y,W,R⟩
theorem al6{wi:Int}(Y:wi<0)(h:uw w K M jg mb SD d f oP):Calls prog 21 #[aY M.fg,wi] w (DN w K M jg mb SD oP (d,f,3)):=by
 have Z:=ay h;go_enter func21,ntmps21;go_wp2;go_ret;exact DN.plain (kD.keep Z (aU _ _))
theorem al7{wi:Int}(W:¬wi<0)(V:(f.tasks.length:Int)≤wi)(h:uw w K M jg mb SD d f oP):Calls prog 21 #[aY M.fg,wi] w (DN w K M jg mb SD oP (d,f,3)):=by
 have Z:=ay h;have Y:=h.base.N7;go_enter func21,ntmps21;go_wp2;go_ret;exact DN.plain (kD.keep Z (aU _ _))
theorem al8(hi:i<f.tasks)(Z:f.down=true)(h:uw w K M jg mb SD d f oP):Calls prog 21 #[aY M.fg,i] w (DN w K M jg mb SD oP (d,f,10)):=by
 have W:=ay h;have V:=h.base.N7;obtain⟨Y,U⟩:=h.d17;rw[Z]at Y;go_enter func21,ntmps21;go_wp2;go_ret;exact DN.plain (kD.keep W (aU _ _))
theorem al9(hi:i<f.tasks)(Z:f.down=false)(Y:f.job.state≠1)(h:uw w K M jg mb SD d f oP):Calls prog 21 #[aY M.fg,i] w (DN w K M jg mb SD oP (d,f,0)):=by
 have U:=h.base.N7;obtain⟨W,T⟩:=h.d17;have S:=h.xM;have V:=ay (yh h.job);rw[Z]at W;have R:((f.job.state:Int)==1)=false:=by rw[oO];omega
 have Q:¬(f.job.state:Int)=1:=aj
 generalize f.job.state=P at*;change Hid _ at h;clear Z Y;go_enter func21,ntmps21;go_wp2_with(go_at_call 44;refine V.aQ ?_;rintro O rfl);go_ret;exact DN.plain (kD.keep h (aU _ _))
theorem ag9(L:f.job.chunks=ch)(W:ch≤16)(F:f.tasks.length≤64)(O:M.A=tb)(hi:i<f.tasks)(V:f.down=false)(U:f.job.state=1)(T:(f.tasks.getD i aX.zero).has=false)(S:f.take=none)(h:uw w K M jg mb SD d f oP):Calls prog 21 #[aY M.fg,i] w (DN w K M jg mb SD oP (d,f,0)):=by
 have J:=ay h;have R:=h.base.N7;obtain⟨Q,H⟩:=h.d17;have G:=h.xM;have Z:=ay (yh h.job);rw[V]at Q;rw[U]at Z;rw[O]at R;obtain⟨I,-,-,-,-⟩:=h.GH O hi rfl;rw[T]at I;have Y:=ay (aeE L W aj h);rw[S,show adF none= -1 from rfl]at Y;go_enter func21,ntmps21;go_wp2_with(first|(go_at_call 44;refine Z.aQ ?_;rintro E rfl)|(go_at_call 45;refine Y.aQ ?_;rintro D P)|fail);go_ret;exact DN.plain (kD.keep J P)
theorem ane(Y:Js K M oP X d f i tb N ⟨true,tn,ts,td⟩)(T:f.down=false)(R:f.job.state=1){S:vO}(Q:Hid (Calls prog 46 #[aY M.fg,aY (some (aH tb (i*4)))] w (xG w K M jg mb SD oP f i ⟨true,tn,ts,td⟩ S)))(I:S.err=0)(x:ts≤6)(hi:i<f.tasks)(h:uw w K M jg mb SD d f oP):
  Calls prog 21 #[aY M.fg,i] w (DN w K M jg mb SD oP (S.d,{f with job:=S.job,made:=S.made,tasks:=f.tasks.set i ⟨true,tn,ts+1,S.data⟩},0)):=by
 have P:=h.base.N7;obtain⟨O,A⟩:=h.d17;have z:=h.xM;have W:=ay (yh h.job);rw[T]at O;rw[R]at W;rw[Y.hA]at P;obtain⟨H,-,-,-,-⟩:=h.GH Y.hA Y.hi Y.ht;have Z:=ay Y;have G:Hid (eV S.err=iI):=ay (by rw[I];rfl);go_enter func21,ntmps21;go_wp2_with(first|(go_at_call 44;refine W.aQ ?_;rintro v rfl)|(go_at_call 46;refine Q.aQ ?_;rintro u F;rw[G];obtain⟨s,y,J,E,D,U,C,B⟩:=F;have L:=ay J;obtain⟨H,r,q,p,V⟩:=J.GH (t:=⟨true,tn,ts,S.data⟩) (U.trans Z.hA) (by dsimp only;rw[pG];exact Z.hi) (by dsimp only;rw[xA,aF ⟨rfl,Z.hi⟩]);have o:=V (i*4);have n:=V (i*4+1);have m:=V (i*4+2);have l:=V (i*4+3))|fail);go_ret;have k:=kD.step E D U C B (kD.inc (t:=⟨true,tn,ts,S.data⟩) L (U.trans Z.hA) (by dsimp only;rw[pG];exact Z.hi) (by dsimp only;rw[xA,aF ⟨rfl,Z.hi⟩]));dsimp only at k;rw[set_set]at k;exact DN.plain k
theorem anf(Y:Js K M oP X d f i tb N ⟨true,tn,ts,td⟩)(T:f.down=false)(R:f.job.state=1){S:vO}(Q:Hid (Calls prog 46 #[aY M.fg,aY (some (aH tb (i*4)))] w (xG w K M jg mb SD oP f i ⟨true,tn,ts,td⟩ S)))(I:S.err=0)(H:ts=7)(hi:i<f.tasks)(h:uw w K M jg mb SD d f oP):
  Calls prog 21 #[aY M.fg,i] w (DN w K M jg mb SD oP (S.d,{f with job:=S.job,made:=S.made,tasks:=f.tasks.set i aX.zero},0)):=by
 have P:=h.base.N7;obtain⟨O,x⟩:=h.d17;have v:=h.xM;have W:=ay (yh h.job);rw[T]at O;rw[R]at W;rw[Y.hA]at P;obtain⟨G,-,-,-,-⟩:=h.GH Y.hA Y.hi Y.ht;have Z:=ay Y;have F:Hid (eV S.err=iI):=ay (by rw[I];rfl);subst H;go_enter func21,ntmps21;go_wp2_with(first|(go_at_call 44;refine W.aQ ?_;rintro r rfl)|(go_at_call 46;refine Q.aQ ?_;rintro q E;rw[F];obtain⟨p,u,J,D,C,V,B,A⟩:=E;have L:=ay J;obtain⟨G,o,n,m,U⟩:=J.GH (t:=⟨true,tn,7,S.data⟩) (V.trans Z.hA) (by dsimp only;rw[pG];exact Z.hi) (by dsimp only;rw[xA,aF ⟨rfl,Z.hi⟩]);have l:=U (i*4);have j:=U (i*4+1);have g:=U (i*4+2);have e:=U (i*4+3))|fail);go_ret;have k:=kD.step D C V B A ((kD.inc (t:=⟨true,tn,7,S.data⟩) L (V.trans Z.hA) (by dsimp only;rw[pG];exact Z.hi) (by dsimp only;rw[xA,aF ⟨rfl,Z.hi⟩])).trans fun c s z a k2 y=>kD.fresh (b:=false) (k:=0) z (y.trans (V.trans Z.hA)) (i:=i) (by dsimp only;rw[pG,pG];exact Z.hi));dsimp only at k;rw[set_set,set_set]at k;exact DN.plain k
theorem ang(Y:Js K M oP X d f i tb N ⟨true,tn,ts,td⟩)(V:f.down=false)(U:f.job.state=1){S:vO}(T:Hid (Calls prog 46 #[aY M.fg,aY (some (aH tb (i*4)))] w (xG w K M jg mb SD oP f i ⟨true,tn,ts,td⟩ S)))(H:S.err=10)(hi:i<f.tasks)(h:uw w K M jg mb SD d f oP):
  Calls prog 21 #[aY M.fg,i] w (DN w K M jg mb SD oP (S.d,{f with job:=S.job,made:=S.made,tasks:=f.tasks.set i ⟨true,tn,ts,S.data⟩,down:=true},10)):=by
 have R:=h.base.N7;obtain⟨Q,z⟩:=h.d17;have y:=h.xM;have Z:=ay (yh h.job);rw[V]at Q;rw[U]at Z;rw[Y.hA]at R;obtain⟨u,-,-,-,-⟩:=h.GH Y.hA Y.hi Y.ht;have G:Hid (eV S.err= .iface 48 (aB 10)):=ay (by rw[H];rfl);go_enter func21,ntmps21;go_wp2_with(first|(go_at_call 44;refine Z.aQ ?_;rintro s rfl)|(go_at_call 46;refine T.aQ ?_;rintro r F;rw[G];obtain⟨q,x,I,W,E,D,C,B⟩:=F;have P:=ay I;obtain⟨O,u17⟩:=I.d17;rw[W]at O u17)|(go_at_call 47;refine(Rt (path:=[]) (c:=10) (d:=10) _ rfl).aQ ?_;rintro p rfl)|(go_at_call 49;refine(xI _ _ _ _ _).aQ ?_;rintro o ⟨L,J⟩)|fail);go_ret;have k:=kD.step W E D C B (kD.down P true);rw[W]at k;exact⟨⟨_,_,rfl,ErV.in_ (k:=10) bn (by simpa using L)⟩,k.trans fun n v A _ _ _=>kD.keep A J⟩
theorem anh(W:Js K M oP X d f i tb N ⟨true,tn,ts,td⟩)(U:f.down=false)(T:f.job.state=1){S:vO}(I:Hid (Calls prog 46 #[aY M.fg,aY (some (aH tb (i*4)))] w (xG w K M jg mb SD oP f i ⟨true,tn,ts,td⟩ S))){r:aI × Bool × Int}(R:Hid (∀Y Z V,uw V K Y jg mb Z S.d {f with job:=S.job,made:=S.made,tasks:=f.tasks.set i ⟨true,tn,ts,S.data⟩} oP→Y.fg=M.fg→Y.A=M.A→Calls prog 48 #[aY M.fg,aY (some (aH tb (i*4))),eV S.err] V (KE V K Y jg mb Z oP {f with job:=S.job,made:=S.made,tasks:=f.tasks.set i ⟨true,tn,ts,S.data⟩} i r)))(o:S.err≠0)(H:S.err≠10)(x:r.2.2≠0){L:List aX}(v:L=if r.2.1 then f.tasks.set i aX.zero else f.tasks.set i ⟨true,tn,ts,S.data⟩)(hi:i<f.tasks)(h:uw w K M jg mb SD d f oP):
  Calls prog 21 #[aY M.fg,i] w (DN w K M jg mb SD oP (r.1,{f with job:=S.job,made:=S.made,tasks:=L,down:=decide (r.2.2=10)},r.2.2)):=by
 change Hid _ at v;have G:=h.base.N7;obtain⟨F,qa⟩:=h.d17;have qe:=h.xM;have Q:=ay (yh h.job);rw[U]at F;rw[T]at Q;rw[W.hA]at G;obtain⟨r0,-,-,-,-⟩:=h.GH W.hA W.hi W.ht;obtain⟨u,E,n⟩:=dB (pz o) (pz x) x;rw[u]at R;have x2:(S.err==10)=false:=by rw[oO];exact H
 change Hid _ at W;clear h U T;go_enter func21,ntmps21;go_wp2_with(first|(go_at_call 44;refine Q.aQ ?_;rintro w1 rfl)|(go_at_call 46;refine I.aQ ?_;rintro V m;rw[u];obtain⟨Y,Z,s,P,l,q,j,g⟩:=m;have qf:=ay s;have D:=ay (R Y Z V s P q))|(go_at_call 47;refine(Rt (path:=[]) (c:=r.2.2) (d:=10) e rfl).aQ ?_;rintro w6 rfl)|(go_at_call 47;refine(Rt (path:=[]) (c:=S.err) (d:=10) _ rfl).aQ ?_;rintro w3 rfl)|(go_at_call 48;refine D.aQ ?_;rintro e b;rw[E];obtain⟨M3,qg,p,J,a,f3,c3,s3⟩:=b;have C:=ay p;obtain⟨B,u17⟩:=p.d17;rw[J.trans P]at B u17)|(go_at_call 49;refine(xI _ _ _ _ _).aQ ?_;rintro w7 ⟨z,y⟩)|fail);go_ret;have k:=kD.step P l q j g (kD.step J a f3 c3 s3 (kD.down C (r.2.2==10)));rw[J.trans P]at k;refine⟨⟨_,_,rfl,ErV.in_ n (by simpa using z)⟩,?_⟩;have O:=k.trans fun M4 qh h4 _ _ _=>kD.keep h4 y
 dsimp only at O;rw[set_set,show(r.2.2==10)=decide (r.2.2=10)from rfl]at O;rw[←v]at O;exact O
theorem ani(y:Of K oP X)(B:Eo X d f ⟨true,n,0,[]⟩)(P:aZ d N)(b:N≤900000)(hl:f.tasks.length≤64)(r:f.made.length≤900000)(V:M.A=tb)(hi:i<f.tasks)(O:f.down=false)(L:f.job.state=1)(J:(f.tasks.getD i aX.zero).has=false)(I:f.take=some n){S:vO}(x:S=eG X d f ⟨true,n,0,[]⟩)(h:uw w K M jg mb SD d f oP):
  Calls prog 21 #[aY M.fg,i] w (DN w K M jg mb SD oP (S.d,{f with job:=S.job,made:=S.made,tasks:=f.tasks.set i ⟨true,n,1,S.data⟩},0)):=by
 have H:=h.base.N7;obtain⟨G,q⟩:=h.d17;have p:=h.xM;have F:=ay (yh h.job);have g1:(i:Int)<(f.tasks.length:Int):=aj
 have g2:¬(i:Int)<0:=aj
 rw[O]at G;rw[L]at F;rw[V]at H;obtain⟨v,r1,r2,r3,-⟩:=h.GH V hi rfl;rw[J]at v;have E:=ay (aeE B.ch y.ok.ch aj h);rw[I,show adF (some n)=(n:Int)from rfl]at E;obtain⟨o,m⟩:=aV (fun Z (R:aP w Z)=>(h.keep R).GH V hi rfl) (fun Z (R:aP w Z)=>(h.keep R).four (a:=⟨true,n,0,none,0,0⟩) (t:=⟨true,n,0,[]⟩) V hi rfl rfl rfl (dX.nil _ _).ownB (fun _ e=>by obtain⟨_,e,-⟩:=e;cases e));have l:Hid (∀Z,aP w Z→bQ (Ox M SD jg mb) w (aao Z tb i ⟨true,n,0,none,0,0⟩)):=ay (fun Z R=>(bQ.of_below R).trans (WS _ Z (.inr (.inr (.inr (.inr (.inl (by rw[V];exact⟨_,rfl,rfl⟩)))))) i _));have j:Hid (∀k,Ox {M with ms:=M.ms.set i ⟨true,n,0,none,0,0⟩} SD jg mb k→Ox M SD jg mb k∨w≤k):=ay (fun k hk=>.inl (hk.ms.elim id (fun e=>by obtain⟨_,e,-⟩:=e;cases e)));have g:Hid (Js K {M with ms:=M.ms.set i ⟨true,n,0,none,0,0⟩} oP X d {f with tasks:=f.tasks.set i ⟨true,n,0,[]⟩} i tb N ⟨true,n,0,[]⟩):=ay (Js.YM y (B.tasks _) (by dsimp only;rw[pG];exact hi) (by dsimp only;rw[pG];exact hl) V (by dsimp only;rw[xA,aF ⟨rfl,hi⟩]) P b);have D:=ay (fun Z (k:uw Z K {M with ms:=M.ms.set i ⟨true,n,0,none,0,0⟩} jg mb SD d {f with tasks:=f.tasks.set i ⟨true,n,0,[]⟩} oP)=>Go.Proofs.YtiaeohgghaaciaaGreatDoor.step_ok g (B.tasks _) r k);rw[show eG X d {f with tasks:=f.tasks.set i ⟨true,n,0,[]⟩} ⟨true,n,0,[]⟩=S by rw[x];rfl]at D;have HE:Hid (eV S.err=iI):=ay (by rw[x,NM d f rfl];rfl);obtain⟨z,HA⟩:=aV hi V;change Hid _ at h;clear O L J I B P b x y;go_enter func21,ntmps21;go_upto_region 13 with(first|(go_at_call 44;refine F.aQ ?_;rintro w1 rfl)|(go_at_call 45;refine E.aQ ?_;rintro Q T;obtain⟨q0,q1,q2,q3,U⟩:=o Q T;have z0:=U (i*4);have z1:=U (i*4+1);have z2:=U (i*4+2);have z3:=U (i*4+3))|fail)
 have C:=D _ (m Q T);have W:=ay C;obtain⟨W1,Y⟩:∃W1,W1=aao Q tb i ⟨true,n,0,none,0,0⟩:=⟨_,rfl⟩;rw[←Y]at W;change Code.wp _ _ _ _ (aao Q tb i ⟨true,n,0,none,0,0⟩);rw[←Y];change Hid _ at Y;clear C q0 q1 q2 q3 v r1 r2 r3 z0 z1 z2 z3 U H p G q;go_wp2_with(go_at_call 46;refine W.aQ ?_;rintro w5 ho;rw[HE];obtain⟨M2,qa,h2,e1,e2,u,c2,s2⟩:=ho;have c:=ay h2;obtain⟨v,r1,r2,r3,U⟩:=h2.GH (i:=i) (t:=⟨true,n,0,S.data⟩) (u.trans HA) (by dsimp only;rw[pG,pG];exact z) (by dsimp only;rw[xA,aF ⟨rfl,by rw[pG];exact z⟩]);have z2:=U (i*4+2));go_ret;have k:=kD.inc (t:=⟨true,n,0,S.data⟩) c (u.trans HA) (i:=i) (by dsimp only;rw[pG,pG];exact z) (by dsimp only;rw[xA,aF ⟨rfl,by rw[pG];exact z⟩]);have s:=kD.step (M:=M) (w:=w) (M1:={M with ms:=M.ms.set i ⟨true,n,0,none,0,0⟩}) rfl rfl rfl (by have:=l Q T;rw[←Y]at this;exact this) j (kD.step (M:={M with ms:=M.ms.set i ⟨true,n,0,none,0,0⟩}) e1 e2 u c2 s2 k);dsimp only at s;rw[set_set,set_set]at s;exact DN.plain s
theorem aiV(Q:Of K oP X)(P:kH X d f W N)(m:W≤64)(b:N≤800000)(F:M.A=tb){wi:Int}(h:uw w K M jg mb SD d f oP):Calls prog 21 #[aY M.fg,wi] w (DN w K M jg mb SD oP (eF X d f wi)):=by
 unfold eF
 by_cases E:wi<0
 ·rw[aF (.inl E)];exact al6 E h
 by_cases p:(f.tasks.length:Int)≤wi
 ·rw[aF (.inr p)];exact al7 E p h
 rw[au aj];obtain⟨i,rfl⟩:∃i:Nat,wi=i:=⟨wi.toNat,aj⟩;have T:i<f.tasks:=aj
 rw[show((i:Int)).toNat=i by omega]
 by_cases Z:f.down=true
 ·rw[aF Z];exact al8 T Z h
 ·rw[au Z]
  replace Z:f.down=false:=by simpa using Z
  by_cases Y:f.job.state=1
  ·rw[au (by simp[Y])]
   obtain⟨ρ,G⟩:=P.ok.d
   replace G:bY X ρ d:=G
   have D:=P.ok.f f rfl;have C:f.tasks.length≤64:=by rw[P.tasks];exact m
   have H:f.made.length≤900000:=by have:=P.made;omega
   have l:=(D.job.of aj).2;cases V:f.has i with
   |none=>
    dsimp only
    have o:(f.tasks.getD i aX.zero).has=false∧f.take=none:=by
     unfold bZ.has at V;dsimp only at V;split at V
     ·cases V
     ·rename_i k
      exact⟨by simpa using k,by simpa using V⟩
    exact ag9 l Q.ok.ch C F T Z Y o.1 o.2 h
   |some t=>
    dsimp only;have I:=adJ Q.ok Q.Si G D Z Y V;cases L:(f.tasks.getD i aX.zero).has with
    |false=>
     obtain⟨n,j,rfl⟩:∃n,f.take=some n∧t=⟨true,n,0,[]⟩:=by
      unfold bZ.has at V;dsimp only at V;rw[L,au bK]at V;obtain⟨n,B,z⟩:=nU.1 V;exact⟨n,B,z.symm⟩
     rw[aF (NM d f rfl),au (show¬(0:Nat)=7 by decide)];exact ani Q I P.fit aj C H F T Z Y L j rfl h
    |true=>
     have x:f.tasks.getD i aX.zero=t:=by
      unfold bZ.has at V;dsimp only at V;rw[L,aF rfl]at V;injection V
     have J:=Js.YM (N:=N) Q I T C F x P.fit aj;obtain⟨v,u⟩:=abZ Q.ok Q.Si G P.fit D Z Y V;obtain⟨th,tn,ts,td⟩:=t;have U:=I.has;dsimp only at U;subst U;have S:=ay (Go.Proofs.YtiaeohgghaaciaaGreatDoor.step_ok J I H h);have g:=I.step;dsimp only at g
     by_cases O:(eG X d f ⟨true,tn,ts,td⟩).err=0
     ·rw[aF O]
      by_cases y:ts=7
      ·rw[aF y];exact anf J Z Y S O y T h
      ·rw[au y];exact ane J Z Y S O aj T h
     ·rw[au O]
      by_cases R:(eG X d f ⟨true,tn,ts,td⟩).err=10
      ·rw[aF R];exact ang J Z Y S R T h
      ·rw[au R]
       obtain⟨e,s⟩:=aaq O
       exact anh (r:=nZ X (eG X d f ⟨true,tn,ts,td⟩).d ⟨true,tn,ts,td⟩ (eG X d f ⟨true,tn,ts,td⟩).err) J Z Y S (ay (fun a c w2 k B z=>by
        have q:=J.refused z e s v u aj;have:=akM (err:=(eG X d f ⟨true,tn,ts,td⟩).err) q k;rw[B]at this;exact this)) O R (abY O) (by split<;>rfl) T h
  ·rw[aF Y];exact al9 T Z Y h
end
def DF(w:aK)(Z Y:Nat)(X:Nat→Prop)(d:aI):Prop:=Dw w Y X d∧aN w Z 0 (BG Y)∧¬X Z
section
variable{w w':aK}{fg dg N:Nat}{SD:Nat→Prop}{X:bI}{ρ:Nat→Nat}{d d':aI}
theorem DF.keep(h:DF w fg dg SD d)(Z:aP w w'):DF w' fg dg SD d:=⟨h.1.keep (bQ.of_below (S:=fun _=>False) Z) (fun _ _ h=>h),aC h.2.1 Z,h.2.2⟩
theorem DF.next(h:DF w fg dg SD d)(V:jh w dg SD d' w'):∃Z,DF w' fg dg Z d'∧(∀i,Z i→SD i∨w≤i)∧bQ SD w w':=by
 obtain⟨Y,Z,U,W⟩:=V;have T:=lt_of_cell h.2.1;exact⟨Z,⟨U,bG h.2.1 Y h.2.2,fun e=>(W _ e).elim h.2.2 (fun k=>by dsimp only at T;omega)⟩,W,Y⟩
theorem MN.df{K:Cn}{M:xW}{Y:List aX}{Z:Bool}{oP:Option fG}(h:MN w K M SD d Y l Z oP):DF w M.fg M.dg SD d:=⟨h.disk,h.yG,h.sf⟩
theorem jh.same(h:Dw w dg SD d)(Z:aP w w'):jh w dg SD d w':=⟨bQ.of_below Z,SD,h.keep (bQ.of_below (S:=fun _=>False) Z) (fun _ _ h=>h),fun _ h=>.inl h⟩
theorem nm1:bP 1=⟨#[106,111,98,46,116,109,112]⟩:=rfl
def DkE(w:aK)(dg:Nat)(SD:Nat→Prop)(r:aI × Int)(e:Ending)(w':aK):Prop:=e=bM (eV r.2)∧jh w dg SD r.1 w'
theorem agx(t:X.ok)(hd:bY X ρ d)(T:aZ d N)(k:N≤800000)(h:DF w fg dg SD d):Calls prog 133 #[aY fg] w (DkE w dg SD (pY d)):=by
 have I:=hd.lt t;obtain⟨M,W⟩:=aV (Jm I w h.1) (fun w' S A n c l (s:NmR w' S d A n c l)=>Hq (x:=0) s aj);rw[nm0]at W;have R:=ay h;have j:=h.2.1;have U:=ay (fun w' (L:Dw w' dg SD d)=>PX (x:=0) aj (dD T.all aj) (dD T.steps aj) w' L);rw[nm0]at U;have H:=ay (fun w' G (L:Dw w' dg G (d.create 0).1)=>JC w' L);unfold pY;cases E:(d.names 0).isSome with
 |true=>
  have Q:=ay E;rw[aF rfl];go_enter func133,ntmps133;go_wp2_with(first|(go_at_call 56;refine M.mono ?_;rintro e D ⟨C,B,z,y,rfl,Y,Z⟩;have V:=R.keep Z;have K:=V.2.1)|(go_at_call 86;refine(W _ _ _ _ _ _ Y).aQ ?_;rintro v rfl;rw[Q])|fail);go_ret;exact⟨rfl,jh.same R.1 Z⟩
 |false=>
  have Q:=ay E;rw[au bK];generalize d.create 0=r at*
  by_cases P:r.2=0
  ·rw[au (by rw[P];simp)]
   have O:Hid (eV r.2=iI):=ay (by rw[P];rfl);go_enter func133,ntmps133;go_wp2_with(first|(go_at_call 56;refine M.mono ?_;rintro e D ⟨C,B,z,y,rfl,Y,Z⟩;have V:=R.keep Z;have K:=V.2.1)|(go_at_call 86;refine(W _ _ _ _ _ _ Y).aQ ?_;rintro v rfl;rw[Q])|(go_at_call 76;refine(U _ V.1).aQ ?_;rintro q J;rw[O];obtain⟨m,u,p,o⟩:=DF.next V J;have K:=u.2.1)|(go_at_call 80;refine(H _ _ u.1).aQ ?_;rintro i F)|fail);go_ret;exact⟨rfl,jh.trans (bQ.of_below Z) (fun _ h=>.inl h) (jh.trans o p F)⟩
  ·rw[aF P]
   have O:=ay (pz P);go_enter func133,ntmps133;go_wp2_with(first|(go_at_call 56;refine M.mono ?_;rintro e D ⟨C,B,z,y,rfl,Y,Z⟩;have V:=R.keep Z;have K:=V.2.1)|(go_at_call 86;refine(W _ _ _ _ _ _ Y).aQ ?_;rintro v rfl;rw[Q])|(go_at_call 76;refine(U _ V.1).aQ ?_;rintro q J;rw[O])|fail);go_ret;exact⟨by rw[O];rfl,jh.trans (bQ.of_below Z) (fun _ h=>.inl h) J⟩
theorem akO(hX:X.ok)(hd:bY X ρ d)(v:aZ d N)(hN:N≤800000)(hb:dV b)(hm:m≤100000000)(qh:m≤c)(hB:Lb w B m b)(l:∀i,In B i→¬SD i)(qa:∀i,In B i→i<w)(h:DF w fg dg SD d):Calls prog 187 #[aY fg,aG B m c] w (DkE w dg SD (xX d b)):=by
 have K:=hd.create (x:=1) aj (.inl rfl);obtain⟨ρ1,K⟩:=K;have qe:=K.append (x:=1) (b:=b) (.inl rfl);have f1:=v.create (x:=1) aj;have f2:=f1.append (x:=1) (b:=b) aj hb;have f3:=f2.sync 1;obtain⟨M,J,u,t,qi⟩:=rG (PX (x:=1) aj (dD v.all aj) (dD v.steps aj) w h.1) (fun w' Y (n:Dw w' dg Y (d.create 1).1) (hl:Lb w' B m b) (hq:∀i,In B i→¬Y i)=>LW (x:=1) aj (K.lt hX) f1 hm qh w' n hl hq) (fun w' Y (n:Dw w' dg Y ((d.create 1).1.append 1 b).1)=>WI (x:=1) aj (qe.lt hX) w' n) (fun w' Y (n:Dw w' dg Y (((d.create 1).1.append 1 b).1.sync 1).1)=>WG (x:=1) (y:=0) aj aj (dD f3.steps aj) w' n) (fun w' Y (n:Dw w' dg Y ((((d.create 1).1.append 1 b).1.sync 1).1.rename 1 0).1)=>JC w' n);rw[nm1]at M J u t;rw[nm0]at t;obtain⟨I,H⟩:=aV (fun w' (hc:bQ SD w w')=>show Lb w' B m b from⟨hB.len,hB.rd.dH hc (fun p hp e=>l _ ⟨p,hp,rfl⟩ e)⟩) (fun(Y:Nat→Prop) (hn:∀i,Y i→SD i∨w≤i) i (hi:In B i) (e:Y i)=>show False from(hn i e).elim (l i hi) (fun k=>by have:=qa i hi;omega));have a0:=h.2.1;unfold xX;dsimp only;generalize d.create 1=x1 at*;generalize x1.1.append 1 b=x2 at*;generalize x2.1.sync 1=x3 at*;generalize x3.1.rename 1 0=x4 at*;change Hid _ at h;clear hd K qe f1 f2 f3 v hB l qa hb
 by_cases f:x1.2=0
 case neg=>
  rw[aF f];have Q:=ay (pz f);clear f;go_enter func187,ntmps187;go_wp2_with(go_at_call 76;refine(M).aQ ?_;rintro D Z;rw[Q];obtain⟨T,S,V,U⟩:=DF.next h Z;have P:=S.2.1;have q:=I D U;have o:=H T V;have G:=Z);go_ret;exact⟨by rw[Q];rfl,G⟩
 rw[au (by rw[f];simp)];have Q:Hid (eV x1.2=iI):=ay (by rw[f];rfl);clear f
 by_cases a:x2.2=0
 case neg=>
  rw[aF a];have L:=ay (pz a);clear a;go_enter func187,ntmps187;go_wp2_with(first|(go_at_call 76;refine(M).aQ ?_;rintro D Z;rw[Q];obtain⟨T,S,V,U⟩:=DF.next h Z;have P:=S.2.1;have q:=I D U;have o:=H T V;have G:=Z)|(go_at_call 77;refine(J _ _ S.1 q o).aQ ?_;rintro w2 W;rw[L];obtain⟨j,O,C,A⟩:=DF.next S W;have P:=O.2.1;have s:=jh.trans U V W)|fail);go_ret;exact⟨by rw[L];rfl,s⟩
 rw[au (by rw[a];simp)];have L:Hid (eV x2.2=iI):=ay (by rw[a];rfl);clear a
 by_cases h3:x3.2=0
 case neg=>
  rw[aF h3];have F:=ay (pz h3);clear h3;go_enter func187,ntmps187;go_wp2_with(first|(go_at_call 76;refine(M).aQ ?_;rintro D Z;rw[Q];obtain⟨T,S,V,U⟩:=DF.next h Z;have P:=S.2.1;have q:=I D U;have o:=H T V;have G:=Z)|(go_at_call 77;refine(J _ _ S.1 q o).aQ ?_;rintro w2 W;rw[L];obtain⟨j,O,C,A⟩:=DF.next S W;have P:=O.2.1;have s:=jh.trans U V W)|(go_at_call 78;refine(u _ _ O.1).aQ ?_;rintro w3 R;rw[F];obtain⟨qf,z,n3,c3⟩:=DF.next O R;have P:=z.2.1;have g:=jh.trans U V (jh.trans A C R))|fail);go_ret;exact⟨by rw[F];rfl,g⟩
 rw[au (by rw[h3];simp)];have F:Hid (eV x3.2=iI):=ay (by rw[h3];rfl);clear h3
 by_cases h4:x4.2=0
 case neg=>
  rw[aF h4];have r:=ay (pz h4);clear h4;go_enter func187,ntmps187;go_wp2_with(first|(go_at_call 76;refine(M).aQ ?_;rintro D Z;rw[Q];obtain⟨T,S,V,U⟩:=DF.next h Z;have P:=S.2.1;have q:=I D U;have o:=H T V;have G:=Z)|(go_at_call 77;refine(J _ _ S.1 q o).aQ ?_;rintro w2 W;rw[L];obtain⟨j,O,C,A⟩:=DF.next S W;have P:=O.2.1;have s:=jh.trans U V W)|(go_at_call 78;refine(u _ _ O.1).aQ ?_;rintro w3 R;rw[F];obtain⟨qf,z,n3,c3⟩:=DF.next O R;have P:=z.2.1;have g:=jh.trans U V (jh.trans A C R))|(go_at_call 79;refine(t _ _ z.1).aQ ?_;rintro w4 E;rw[r];obtain⟨qj,k4,n4,c4⟩:=DF.next z E;have P:=k4.2.1;have qg:=jh.trans U V (jh.trans A C (jh.trans c3 n3 E)))|fail);go_ret;exact⟨by rw[r];rfl,qg⟩
 rw[au (by rw[h4];simp)];have r:Hid (eV x4.2=iI):=ay (by rw[h4];rfl);clear h4;go_enter func187,ntmps187;go_wp2_with(first|(go_at_call 76;refine(M).aQ ?_;rintro D Z;rw[Q];obtain⟨T,S,V,U⟩:=DF.next h Z;have P:=S.2.1;have q:=I D U;have o:=H T V;have G:=Z)|(go_at_call 77;refine(J _ _ S.1 q o).aQ ?_;rintro w2 W;rw[L];obtain⟨j,O,C,A⟩:=DF.next S W;have P:=O.2.1;have s:=jh.trans U V W)|(go_at_call 78;refine(u _ _ O.1).aQ ?_;rintro w3 R;rw[F];obtain⟨qf,z,n3,c3⟩:=DF.next O R;have P:=z.2.1;have g:=jh.trans U V (jh.trans A C R))|(go_at_call 79;refine(t _ _ z.1).aQ ?_;rintro w4 E;rw[r];obtain⟨qj,k4,n4,c4⟩:=DF.next z E;have P:=k4.2.1;have qg:=jh.trans U V (jh.trans A C (jh.trans c3 n3 E)))|(go_at_call 80;refine(qi _ _ k4.1).aQ ?_;rintro w5 qk)|fail);go_ret;exact⟨rfl,jh.trans U V (jh.trans A C (jh.trans c3 n3 (jh.trans c4 n4 qk)))⟩
end
theorem SL(d:aI)(Z:Bool)(x:Nat)(l:List Nat):pR d Z (x::l)=if x%2=1 then(if(d.remove x).2≠0 then((d.remove x).1,Z,(d.remove x).2)else pR (d.remove x).1 true l)else pR d Z l:=rfl
theorem ama{d:aI}{l:List Nat}(h:NmR w base d A n c l)(Z:bQ S w w')(W:∀i,base≤i→i<w→¬S i)(V:j<n):∃b o,A=some ⟨b,o,none⟩∧w'.cell? ⟨b,o+j,none⟩=some (.string (bP (l.getD j 0))):=by
 have Y:=h.row.dH Z (fun i X=>W i (h.row.dN X).1 (h.row.dN X).2);have U:=Y.len;obtain⟨b,o,e,Z⟩:=Y.ls.at_ V;have:=Z 0 _ rfl;refine⟨b,o,e,?_⟩;rw[show o+j*aaf.k+0=o+j by show o+j*1+0=_;omega]at this;rw[this,dG,fP aj];rfl
section
variable{w w':World}{fg dg N:Nat}{SD:Nat→Prop}{X:bI}{ρ:Nat→Nat}{d d':aI}
theorem aiW(hX:X.ok)(hd:bY X ρ d)(B:aZ d N)(hN:N≤800000)(h:DF w fg dg SD d):Calls prog 132 #[.pointer fg] w fun e w'=>∃l,Es d l∧(∀x∈l,x<36)∧l.length≤36∧DkE w dg SD (lu d l) e w':=by
 obtain⟨HL,p,HD⟩:=dB (Jm (hd.lt hX) w h.1) (fun i (e:SD i)=>h.1.lt e) (fun w' (hb:Below w w w')=>h.keep hb);have a0:=h.2.1;change Hid _ at B;clear h hd;go_enter func132,ntmps132;go_wp2_with(go_at_call 56;refine HL.mono ?_;rintro e t ⟨A,n,c,l,rfl,Y,z⟩);have U:=Y.row.len;have qa:=Y.len;have P:=ay z;change Hid _ at Y U;clear a0
 go_loopg [3,5,6,13] n (fun k v3 v5 v6 o wr=>∃(j:Nat) (Q:aI) (K:Bool) (I:Nat→Prop),j+k=n∧o=j∧v3= .bool K∧DF wr fg dg I Q∧(∀i,I i→SD i∨t≤i)∧bQ SD t wr∧aZ Q (N+j)∧Hid (pR d false l=pR Q K (l.drop j)))
 case atStart=>exact⟨0,d,false,SD,aj,rfl,rfl,HD t z,fun _ h=>.inl h,bQ.refl _ _,B,ay rfl⟩
 case round=>
  obtain⟨j,Q,K,I,hj,rfl,rfl,W,O,S,V,Z⟩:=hrel;have d0:=W.2.1;obtain⟨D,M,L,qf⟩:=jH W O S V
  by_cases m:j<n
  ·have qe:(j:Int)<(n:Int):=aj
   obtain⟨nb,no,hA,q0⟩:=ama Y S (fun i h1 h2 e=>by have:=p i e;omega) m
   have H:l.drop j=l.getD j 0::l.drop (j+1):=by
    rw[lY (by have:=U.out;omega),dG,fP (by have:=U.out;omega)];rfl
   rw[H,SL]at Z
   have s:l.getD j 0<36:=by
    rw[dG,fP (by have:=U.out;omega)];exact Y.lt _ (lS _)
   generalize l.getD j 0=x at*;subst hA;obtain⟨C,y⟩:=aV (aaj s wr) (PY s (dD V.steps aj) wr W.1);have G:=V.remove s
   by_cases F:x%2=1
   ·rw[aF F]at Z
    rw[su F]at C
    by_cases E:(Q.remove x).2=0
    ·rw[au (by rw[E];simp)]at Z
     have u:Hid (eV (Q.remove x).2= .nilIface):=ay (by rw[E];rfl);generalize Q.remove x=r at*;generalize bP x=a at*;change Hid _ at G;clear W O S V H F E;go_wp2_with(first|(go_at_call 185;refine C.aQ ?_;rintro w2 rfl)|(go_at_call 87;refine y.aQ ?_;rintro w3 J;rw[u])|fail);obtain⟨g,k3,n3,c3⟩:=DF.next D J;have hz:=L.size;have v:=P.size;go_roundg(gk-1)
     case measure=>omega
     case rel=>exact⟨j+1,r.1,true,g,aj,fA,rfl,k3,fun i q=>(n3 i q).elim (M i) (fun k=>.inr (dD hz k)),L.step c3 (fun i q e=>(M i e).elim id (fun k=>absurd q aj)),by have:=G.out;rw[show N+(j+1)=N+j+1 by omega];exact this,Z⟩
    ·rw[aF E]at Z
     have u:=ay (pz E)
     have T:lu d l=((Q.remove x).1,(Q.remove x).2):=by
      unfold lu;dsimp only;rw[Z.out];exact aF E
     generalize Q.remove x=r at*;generalize bP x=a at*;change Hid _ at T;clear W O S V H F E G Z;go_wp2_with(first|(go_at_call 185;refine C.aQ ?_;rintro w2 rfl)|(go_at_call 87;refine y.aQ ?_;rintro w3 J;rw[u])|fail);go_ret;refine⟨l,Y.names,Y.lt,by have:=U.out;omega,?_⟩;rw[T];have v:=P.size;exact⟨by rw[u];rfl,jh.trans (bQ.of_below P) (fun _ h=>.inl h) (jh.trans L M J)⟩
   ·rw[au F]at Z
    rw[vH F]at C;have f:=ay (V.mono (show N+j≤N+(j+1) by omega));generalize bP x=a at*;clear W O S V H F G;go_wp2_with(go_at_call 185;refine C.aQ ?_;rintro w2 rfl);go_roundg(gk-1)
    case measure=>omega
    case rel=>exact⟨j+1,Q,K,I,aj,fA,rfl,D,M,L,f,Z⟩
  ·obtain rfl:j=n:=aj
   rw[iU (by rw[U];omega)]at Z;have R:=Z.out;have b:=ay (JC wr W.1);have v:=P.size;cases K with
   |true=>
    have T:lu d l=Q.ji:=by unfold lu;dsimp only;rw[R];rfl
    change Hid _ at T;clear W O S V Z R;go_wp2_with(go_at_call 80;refine b.aQ ?_;rintro w3 J);go_ret;refine⟨l,Y.names,Y.lt,by have:=U.out;omega,?_⟩;rw[T];exact⟨rfl,jh.trans (bQ.of_below P) (fun _ h=>.inl h) (jh.trans L M J)⟩
   |false=>
    have T:lu d l=(Q,0):=by unfold lu;dsimp only;rw[R];rfl
    change Hid _ at T;clear W O S V Z R;go_wp2;go_ret;refine⟨l,Y.names,Y.lt,by have:=U.out;omega,?_⟩;rw[T];exact⟨rfl,jh.trans (bQ.of_below P) (fun _ h=>.inl h) (jh.trans L M (jh.same D.1 (aU _ _)))⟩
end
theorem WU:∀(l:List bV) (j:bT),(j.run l).2≤l.length
 | [],_=>bC _
 |r::l,j=>by
  have:=WU l (j.apply r).1;unfold bT.run;split
  ·simp
  ·simp only[xQ];omega
theorem WV{l:List bV}(h:i<l):ru (l.take (i+1))=ru (l.take i)+(bH (l.getD i lq)):=by
 rw[BH h,dG,fP h];unfold ru;rw[gG,vJ];rfl
theorem ab2(W:n≤c)(V:j≤n)(Z:aK):(Instr.slice 64 (aG B n c) none (some (aB (j:Int))) none).run prog Z= .ok (aG B j c) Z:=by
 rw[run_slice_h (P:=prog) (w:=Z) (t:=64) (a:=B) (len:=n) (cap:=c) (ht:=aW) (kh:=.i64) (h:=j) (h0:=aj) (h2:=aj)];have X:(sizeOf (prog.elem 64)).run prog Z= .ok 5 Z:=aW
 rw[X];show Result.ok (sliced _ _ _ _ _) _=_;unfold sliced
 by_cases Y:c=0
 ·subst Y
  simp
 ·rw[au aj]
  cases B<;>simp[Addr.add]
theorem aeH{l:List bV}(h:dX Wh w base A n c l)(Y:aP w w')(X:j<n):∃b o,A=some (aH b o)∧∀k u,(Ej (l.getD j lq))[k]? =some u→aN w' b (o+j*5+k) u:=by
 have V:=h.len;obtain⟨b,o,e,W⟩:=(h.keep Y).ls.at_ X;refine⟨b,o,e,fun k u Z=>W k u ?_⟩;rw[dG,fP aj]at Z;rw[←Z];simp[Wh]
section
variable{w w':aK}{K:Cn}{M:xW}{SD:Nat→Prop}{X:bI}{ρ:Nat→Nat}{d d':aI}{ts:List aX}{made:aO}{down:Bool}{oP:Option fG}{N:Nat}
def anj(w:aK)(K:Cn)(M:xW)(SD:Nat→Prop)(ts:List aX)(made:aO)(down:Bool)(oP:Option fG)(r:aI × bT × Int)(e:Ending)(w':aK):Prop:=
 ∃Y W Z,e=bM (eV r.2.2)∧uw w' K {M with jv:=BG Y} Y W Z r.1 ⟨r.2.1,ts,made,down⟩ oP∧w.heap.size≤Y∧w.heap.size≤W∧(∀i,Z i→SD i∨w.heap.size≤i)∧bQ (fun i=>SD i∨i=M.fg) w w'
theorem agy(hX:X.ok)(hd:bY X ρ d)(hu:d.down=false)(h0:(d.see 0).isSome=true)(G:aZ d N)(hN:N≤800000)(h:MN w K M SD d ts made down oP):
  Calls prog 134 #[aY M.fg] w (anj w K M SD ts made down oP (lF d)):=by
 obtain⟨v,hv⟩:=Hu.1 h0;obtain⟨n0,o,n⟩:=uo hv;obtain⟨l,c,m,hl,hc,hm,t⟩:=show xU X v.data by rw[←n];exact hd.cur.job n0 o
 have O:∀r∈l,jQ r=true:=fun r hr=>(hl r hr).may hX
 have L:=(G.DZ n0).2;rw[n]at L;have U:=WL (x:=0) aj (hd.lt hX) G w h.disk;have qk:d.CX 0=0:=by unfold aI.CX;rw[hu,au bK,Dj o]
 have g:(d.file 0).data=v.data:=by rw[Aw hv]
 rw[qk,g,nm0]at U;have f:=OI O (hc.may hX) hm;rw[←t]at f
 have ql:lF d=if ru (l.take (bT.new.run l).2)=v.data then(d,(bT.new.run l).1,0)else((xX d (v.data.take (ru (l.take (bT.new.run l).2)))).1,(bT.new.run l).1,(xX d (v.data.take (ru (l.take (bT.new.run l).2)))).2):=by
  unfold lF;rw[g];dsimp only;rw[f]
 rw[ql];have a:Hid ((bD l).length≤v.data.length):=ay (by rw[t,mG];omega);have qC:=dD (Ik l) a
 have qm:=ay (fun w' A s (hA:Lb w' A v.data v.data) (qD:v.data.length≤s)=>show Calls prog 28 #[aG A v.data s] w' fun e w'=>∃B b,e=bM (eP #[aG B l b,aB (bD l)])∧dX Wh w' _ B l b l∧aP _ w' from
  aeo O (hc.may hX) hm aj (by rw[←t];exact L.2) w' (by rw[←t];exact hA) qD)
 obtain⟨qo,qA⟩:=aV (fun w' A s (hA:Qo Wh w' A l l)=>af6 (c:=s) O aj w' hA) (fun i (P:i<l.length)=>FT (O (l.getD i lq) (by rw[dG,fP P];exact lS _)));have qq:=WU l bT.new
 have F:Hid (∀j,ru (l.take j)≤v.data.length):=ay (fun j=>by
  have e:(bD (l.take j)).length+(bD (l.drop j)).length=(bD l).length:=by rw[←mG,←Au,kP]
  rw[MX];have:=a.out;omega)
 obtain⟨qE,HH⟩:=aV (fun w' qa j b s B (hw:DF w' M.fg M.dg qa d) (hB:Lb w' B b (v.data.take j)) (t:b≤100000000) (hc:b≤s) h1 h2=>akO (c:=s) hX hd G hN (fun x hx=>L.2 x (D7 hx)) t hc hB h1 h2 hw) h;have a0:=h.yG;have HK:=ay (fun w' (hw:aP w w')=>h.keep hw);obtain⟨q,hq⟩:=kF ((bT.new.run l).2);have qF:=ay (show(bT.new.run l)=((bT.new.run l).1,q) by rw[hq]);rw[←hq]at qq;rw[show(bT.new.run l).2=q from hq.symm]at qo ⊢;generalize(bT.new.run l).1=jb at*;generalize(bD l).length=fl at*;obtain⟨LN,qr⟩:=kF (v.data.length);have qG:=L.1;unfold WJ at U;rw[←qr]at U qm F qC qG ⊢;have U:=ay U;obtain⟨RR,W⟩:=kF (if ru (l.take q)=LN then(d,jb,(0:Int))else((xX d (v.data.take (ru (l.take q)))).1,jb,(xX d (v.data.take (ru (l.take q)))).2));rw[←W];change Hid _ at qr W;clear hv o n hl hc hm t O L qk g f ql h hd G h0 hu hq qF a;go_enter func134,ntmps134;go_upto_region 2 with(go_at_call 169;refine U.mono ?_;rintro e w1 ⟨E,qs,-⟩;obtain⟨A1,c1,rfl,o1⟩:=qs rfl)
 have qt:=qm w1 A1 c1 o1.lb o1.cap;clear qs a0;go_upto_region 5 with(go_at_call 28;refine qt.mono ?_;rintro e w2 ⟨B2,b2,rfl,o2,qe⟩)
 have qu:=qo w2 B2 b2 o2.ls;clear qt;have Y:=E.trans (qe.mono E.size);go_upto_region 6 with(first|(go_at_call 186;refine qu.mono ?_;rintro e w3 ⟨jg,mb,rfl,qv,qf,qg,D⟩)|fail)
 have V:=Y.trans (D.mono Y.size);have h3:=HK w3 V;have qH:=h3.box.c14;have qI:=h3.box.frozen 14;clear qu;go_upto_region 7 with(fail)
 obtain⟨W4,I⟩:=kF (w3.setCell ⟨M.fg,14,none⟩ (aY jg));change Code.wp _ _ _ _ (w3.setCell ⟨M.fg,14,none⟩ (aY jg));rw[←I];have h4:=h3.akm (w1:=w) qv (dD Y.size qf) (dD Y.size qg) (fun i e=>HH.disk.lt e) HH.hiw HH.box.lt;rw[←I]at h4;have qw:W4.heap.size=w3.heap.size:=by rw[I];simp
 have C:bQ (fun i=>i=M.fg) w3 W4:=by rw[I];exact(bQ.refl (fun i=>i=M.fg) w3).setCell (p:=(aH M.fg 14)) (fun _=>rfl) _
 have qJ:=HH.box.lt;have o3:=(o2.keep D).dH C (fun i P e=>by have:=(o2.dN P).1;have:=E.size;omega);have oA:=((o1.keep qe).keep D).dH C (fun i P e=>by have:=(o1.e.dN P).1;omega);have qK:=ay ((bQ.of_below (S:=fun i=>SD i∨i=M.fg) V).trans (C.mono (fun i _ e=>.inr e)));have qL:Hid (w.heap.size≤W4.heap.size∧w.heap.size≤jg∧w.heap.size≤mb):=ay ⟨by rw[qw];exact V.size,dD Y.size qf,dD Y.size qg⟩;have qB:=o2.cap;have qM:=fun wx=>ab2 (B:=B2) qB qq wx
 change Hid _ at h4 o1 o3 oA;clear I h3 qv qf qg D qe E Y V qw C o2 qH qI qJ;go_wp2_with fail
 go_loopg [9,11,12,13,43] q (fun k v9 qX qY qZ qN wr=>∃i:Nat,i+k=q∧qN= aB i∧v9= aB (ru (l.take i):Nat)∧aP W4 wr)
 case atStart=>exact⟨0,aj,rfl,rfl,aU _ _⟩
 case round=>
  obtain⟨i,P,rfl,rfl,Z⟩:=hrel;have y:=ay Z
  by_cases za:i<q
  ·have qU:(i:Int)<(q:Int):=aj
   obtain⟨rb,ro,hA,T⟩:=aeH o3 Z (aj:i<l.length);have qy:=qA i aj;have qh:=WV (aj:i<l.length);have qO:=F (i+1);have qP:=F i;generalize l.getD i lq=R at*;have qQ:=ay (fun w'=>V5 qy w');subst hA;generalize bH R=PR at*;generalize ru (l.take i)=p at*;have zb:(p:Int)+(PR.length:Int)≤16777216:=by have:=qh;omega
   have qR:Hid (((ru (l.take (i+1)):Nat):Int)=(p:Int)+(PR.length:Int)):=ay (by have:=qh;omega);obtain⟨rk,rs,rn,rl,rc⟩:=R;have q0:aN wr rb (ro+i*5) (aB rk):=T 0 _ rfl;have q1:aN wr rb (ro+i*5+1) (aB rs):=T 1 _ rfl;have q2:aN wr rb (ro+i*5+2) (aB rn):=T 2 _ rfl;have q3:aN wr rb (ro+i*5+3) (aB rl):=T 3 _ rfl;have q4:aN wr rb (ro+i*5+4) (aB rc):=T 4 _ rfl;change Hid _ at qh;clear T qy Z qO qP;go_wp2_with(first|(go_at_call 81;refine(qQ _).mono ?_;rintro e w5 ⟨B5,b5,rfl,o5,qz⟩)|fail);have qi:=aJ wr (aS #[rk,rs,rn,rl,rc] 68);have qS:=ay (y.trans ((qi.trans (qz.mono qi.size)).mono y.size));clear o5 qz qi;go_roundg(gk-1)
   case measure=>omega
   case rel=>exact⟨i+1,aj,fA,by rw[qR],qS⟩
  ·obtain rfl:i=q:=aj
   have z:=F i;obtain⟨qj,H⟩:=aV (h4.keep Z) (oA.keep Z);have hz:=qL.out;have hC:=ay (qK.trans (bQ.of_below (S:=fun i=>SD i∨i=M.fg) Z));have Q:=W.out;clear W;generalize ru (l.take i)=p at*
   by_cases he:p=LN
   ·subst he
    rw[aF rfl]at Q;have W:=ay Q;clear Z z Q;go_wp2_with fail;go_ret;rw[W];exact⟨jg,mb,SD,rfl,qj.out,hz.2.1,hz.2.2,fun _ h=>.inl h,hC.out⟩
   ·rw[au he]at Q
    have zc:((p:Int)==(LN:Int))=false:=by rw[oO];omega
    have ze:¬(p:Int)=(LN:Int):=aj
    obtain⟨u,qV,qW⟩:=LV (J:=(p:Int)) H.lb H.cap z rfl;have qT:=ay (qE wr SD p p c1 A1 qj.out.base.df u aj (dD z H.cap) (fun i P e=>by have:=(H.e.dN P).1;have:=HH.disk.lt e;omega) (fun i P=>(H.e.dN P).2));generalize xX d (v.data.take p)=r at*;have W:=ay Q;clear Z z u qM Q;go_wp2_with(first|(go_at_call 187;refine qT.out.aQ ?_;rintro w5 ho)|fail);go_ret;obtain⟨qa,k1,k2⟩:=qj.out.Dk ho;rw[W];exact⟨jg,mb,qa,rfl,k1,hz.2.1,hz.2.2,fun i P=>(k2 i P).imp id (fun k=>by have:=hC.out.size;omega),hC.out.trans (ho.1.mono (fun i _ e=>.inl e))⟩
end
theorem fZ.of{d e:aI}(h:fZ d)(h1:e.all.length=d.all)(h2:e.names=d.names)(X:e.safe=d.safe)(W:e.steps=d.steps):fZ e:=
 ⟨fun x n Z=>by rw[h1];rw[h2]at Z;exact h.names x n Z,fun x n Z=>by rw[h1];rw[X]at Z;exact h.safe x n Z,fun s Y V=>by rw[h1];rw[W]at Y;exact h.steps s Y V⟩
theorem fZ.append{d:aI}(h:fZ d)(x:Nat)(b:List Int):fZ (d.append x b).1:=by
 obtain⟨Z,Y,X,W,-⟩:=wX d;unfold aI.append;split
 ·exact h
 ·split
  ·exact h
  ·split
   ·exact h
   ·split
    ·exact h.of (by unfold aI.yO;dsimp only;rw[sS,Z]) Y X W
    ·exact h.of (by unfold aI.yO;dsimp only;rw[sS,Z]) Y X W
section
variable{w w':World}{K:Cn}{M:xW}{SD:Nat→Prop}{X:bI}{d d':aI}{f:bZ}{oP:Option fG}{jg mb N:Nat}
theorem xK.same{k:Int}(h:uw w K M jg mb SD d f oP)(Z:Below w w w'):xK w K M jg mb SD f oP (d,f.job,k) (.returned (eV k)) w':=⟨rfl,⟨SD,h.keep Z,fun _ h=>.inl h⟩,bQ.of_below Z⟩
theorem xK.below{r:aI × bT × Int}{e:Ending}(Y:Below w w w1)(h:xK w1 K M jg mb SD f oP r e w'):xK w K M jg mb SD f oP r e w':=by
 obtain⟨W,⟨Z,V,U⟩,T⟩:=h;exact⟨W,⟨Z,V,fun i S=>(U i S).imp id (fun k=>dD Y.size k)⟩,(bQ.of_below Y).trans T⟩
theorem WX{r:bV}(Y:gq X r)(W:X.ok)(V:fZ d)(Z:aZ d N)(w':World)(h:uw w' K M jg mb SD d f oP):Calls prog 189 #[.pointer M.fg,F7 r] w' (xK w' K M jg mb SD f oP (pX d f.job r)):=
 akl (FT (Y.may W)) (Y.may W) V (V.append 0 _) Z w' h
theorem agz{G:Option Addr}{gd:Nat}(x:Of K oP X)(I:X.key=jf (uV K.C src))(H:dV src)(p:n≤100000000)(s:M.p3= .slice G X.chunks gd)(v:fZ d)(T:aZ d N)(h:uw w K M jg mb SD d f oP)(u:Lb w A n src):
  Calls prog 135 #[.pointer M.fg,.slice A n c] w (xK w K M jg mb SD f oP (oJ X d f.job)):=by
 have W:=ay (amb (c:=c) x.may p H w u);rw[show jf (uV ⟨K.qn,K.qx,K.re,K.cu,K.go,K.ra,K.ro,K.fi⟩ src)=X.key from I.symm]at W;obtain⟨a1,a2,a3,a4,a5,a6,a7,a8,a9,i,g,b,a⟩:=h.base.cfg;have r:=ay (fun w' (U:Below w w w')=>WX (gq.start) x.ok v T w' (h.keep U))
 have O:=ay (fun w' (U:Below w w w')=>show w'.cell? ⟨M.fg,12,none⟩=some (.slice G X.chunks gd) by
  have:=(h.keep U).base.cfg.2.2.2.2.2.2.2.2.2.2.2.1;rw[this,s])
 obtain⟨q,S,Q,D⟩:=jH (fun w' (U:Below w w w')=>(h.keep U).xM) (fun w' (U:Below w w w')=>yh (h.keep U).job) (fun w' (U:Below w w w')=>akc (h.keep U).job) (fun w' (U:Below w w w')=>En (h.keep U).job);clear I s H p;unfold oJ;generalize X.key=V at*;generalize X.chunks=t at*
 by_cases F:f.job.state=0
 ·rw[aF F]
  rw[F]at S;generalize pX d f.job ⟨48,V,t,0,0⟩=R at*;clear h x v T F u;go_enter func135,ntmps135;go_wp2_with(first|(go_at_call 188;refine W.aQ ?_;rintro Y Z;have B:=q Y Z;have z:=O Y Z)|(go_at_call 44;refine(S Y Z).aQ ?_;rintro J rfl)|(go_at_call 189;refine(r Y Z).mono ?_;rintro e w4 o;obtain⟨rfl,-⟩:=id o)|fail);go_ret;exact xK.below Z o
 ·rw[au F]
  have g2:¬(f.job.state:Int)=0:=aj
  have y:=ay h;have L:Hid ((if f.job.sum≠V∨f.job.chunks≠t then(d,f.job,(14:Int))else(d,f.job,0))=(d,f.job,if f.job.sum≠V∨f.job.chunks≠t then 14 else 0)):=ay (by split<;>rfl);rw[L]
  by_cases P:f.job.sum=V
  ·by_cases E:f.job.chunks=t
   ·rw[au (by rintro(k|k);exact k P;exact k E)]
    rw[P]at Q;rw[E]at D;generalize f.job.state=m at*;clear h x v T F u r P E L;go_enter func135,ntmps135;go_wp2_with(first|(go_at_call 188;refine W.aQ ?_;rintro Y Z;have B:=q Y Z;have z:=O Y Z)|(go_at_call 44;refine(S Y Z).aQ ?_;rintro J rfl)|(go_at_call 190;refine(Q Y Z).aQ ?_;rintro J rfl)|(go_at_call 72;refine(D Y Z).aQ ?_;rintro J rfl)|fail);go_ret;exact xK.same y Z
   ·rw[aF (.inr E)]
    rw[P]at Q;have l:=E;have j:(f.job.chunks==(t:Int))=false:=by rw[oO];exact E
    generalize f.job.state=m at*;generalize f.job.chunks=jc at*;clear h x v T F u r P E L;go_enter func135,ntmps135;go_wp2_with(first|(go_at_call 188;refine W.aQ ?_;rintro Y Z;have B:=q Y Z;have z:=O Y Z)|(go_at_call 44;refine(S Y Z).aQ ?_;rintro J rfl)|(go_at_call 190;refine(Q Y Z).aQ ?_;rintro J rfl)|(go_at_call 72;refine(D Y Z).aQ ?_;rintro J rfl)|fail);go_ret;exact xK.same y Z
  ·rw[aF (.inl P)]
   have l:¬f.job.sum=V:=P;have j:(f.job.sum==V)=false:=by rw[oO];exact P
   generalize f.job.state=m at*;generalize f.job.sum=js at*;clear h x v T F u r P L;go_enter func135,ntmps135;go_wp2_with(first|(go_at_call 188;refine W.aQ ?_;rintro Y Z;have B:=q Y Z;have z:=O Y Z)|(go_at_call 44;refine(S Y Z).aQ ?_;rintro J rfl)|(go_at_call 190;refine(Q Y Z).aQ ?_;rintro J rfl)|fail);go_ret;exact xK.same y Z
theorem aiX{p:List (ByteArray × Int)}(H:X.ok)(G:fZ d)(P:aZ d N)(F:Gl w)(L:ErV w p X.bad v)(h:uw w K M jg mb SD d f oP):
  Calls prog 136 #[.pointer M.fg,v] w (xK w K M jg mb SD f oP (vX X d f.job)):=by
 have z:=h.xM;obtain⟨Z,Y⟩:=aV (yh h.job) h;unfold vX
 by_cases W:X.bad=0
 ·rw[aF W]
  obtain rfl:=L.1 W
  by_cases U:f.job.state=2
  ·rw[aF U]
   rw[U]at Z;go_enter func136,ntmps136;go_wp2_with(go_at_call 44;refine Z.aQ ?_;rintro S rfl);go_ret;exact xK.same Y (aU _ _)
  ·rw[au U]
   have y:((f.job.state:Int)==2)=false:=by rw[oO];omega
   have E:¬(f.job.state:Int)=2:=aj
   generalize f.job.state=D at*;go_enter func136,ntmps136;go_wp2_with(go_at_call 44;refine Z.aQ ?_;rintro S rfl);go_ret;exact xK.same Y (aU _ _)
 ·rw[au W]
  have J:=L.2 W;obtain⟨T,x,rfl⟩:=J.iface
  by_cases Q:f.job.state=1
  ·rw[aF Q]
   rw[Q]at Z;obtain⟨O,C⟩:=aV (YS w F J) (fun w' (B:Below w w w')=>WX (gq.fail W) H G P w' (h.keep B));generalize pX d f.job ⟨50,0,0,0,X.bad⟩=R at*;go_enter func136,ntmps136;go_wp2_with(first|(go_at_call 44;refine Z.aQ ?_;rintro S rfl)|(go_at_call 62;refine O.aQ ?_;rintro A V)|(go_at_call 189;refine(C A V).mono ?_;rintro e u I;obtain⟨rfl,-⟩:=id I)|fail);go_ret;exact xK.below V I
  ·rw[au Q]
   have E:¬(f.job.state:Int)=1:=aj
   generalize f.job.state=D at*;go_enter func136,ntmps136;go_wp2_with(go_at_call 44;refine Z.aQ ?_;rintro S rfl);go_ret;exact xK.same Y (aU _ _)
end
section
variable{w w':aK}{K:Cn}{M:xW}{SD:Nat→Prop}{X:bI}{d d':aI}{f:bZ}{oP:Option fG}{jg mb N:Nat}
theorem adK(m:Of K oP X)(hb:X.bad=0)(qa:0≤f.job.chunks∧f.job.chunks≤16)(hF:fZ d)(o:aZ d N)(h:uw w K M jg mb SD d f oP):
  Calls prog 138 #[aY M.fg] w (xK w K M jg mb SD f oP (mV X d f.job)):=by
 have Q:=ay (yh h.job);have J:=h.xM;have q:=h.base.yG;obtain⟨F,p,P⟩:=dB (fun w' (S:aP w w')=>h.keep S) (Jm hF w h.base.disk) (fun w' qg A n c l (hl:NmR w' qg d A n c l)=>Hq (x:=2) hl aj);rw[nm2]at P;obtain⟨v,u,y⟩:=dB (fun w' (S:aP w w')=>Uh qa w' (h.keep S).job) (fun w' (S:aP w w')=>ags m hb (h.keep S).base) (fun w' A n c (S:aP w w') (hA:Lb w' A n X.out)=>abV (x:=2) (c:=c) aj hF o m.Si.out (h.keep S).base hA);rw[nm2]at y;obtain⟨t,qh⟩:=aV (fun w' A n c (hA:Lb w' A n X.out)=>Z8 (k:=51) (n:=0) (c:=c) (by have:=m.ok.out;have:=hA.len;omega) m.Si.out w' hA) (fun w' (S:aP w w')=>WX (N:=N) (gq.fin (X:=X) hb) m.ok hF o w' (h.keep S));unfold mV;generalize iJ 51 0 X.out=RS at*;generalize d.same 2 X.out=sm at*;generalize qi:X.out=LO at*;generalize(d.names 2).isSome=is at*;generalize qe:f.job.missing.length=ml at*;obtain⟨st,qf⟩:=kF (f.job.state);rw[←qf]at Q ⊢;have E:ml=0↔f.job.missing=[]:=by rw[←qe];exact rZ
 change Hid _ at h;clear qf qe qi m hb hF o qa
 by_cases h3:st=3
 ·subst h3
  rw[au aj];cases sm with
  |false=>
   rw[aF ⟨rfl,rfl⟩];go_enter func138,ntmps138;go_wp2_with(first|(go_at_call 44;refine Q.aQ ?_;rintro j rfl)|(go_at_call 56;refine p.mono ?_;rintro e U ⟨i,g,b,a,rfl,V,Z⟩;have J:=(F U Z).xM;have q:=(F U Z).base.yG)|(go_at_call 86;refine(P _ _ _ _ _ _ V).aQ ?_;rintro w3 rfl)|(go_at_call 194;refine(u U Z).mono ?_;rintro e L ⟨C,B,rfl,z,I⟩;have Y:=Z.trans (I.mono Z.size);have H:=ay (y L C _ B Y z.lb);have s:=ay (fun w' (S:aP L w')=>t w' C _ B (z.lb.keep S)))|(go_at_call 192;refine H.aQ ?_;rintro w6 O;have T:=Y.trans (O.mono Y.size))|fail);go_ret;exact xK.same h T
  |true=>
   rw[au bK,au bK];go_enter func138,ntmps138;go_wp2_with(first|(go_at_call 44;refine Q.aQ ?_;rintro j rfl)|(go_at_call 56;refine p.mono ?_;rintro e U ⟨i,g,b,a,rfl,V,Z⟩;have J:=(F U Z).xM;have q:=(F U Z).base.yG)|(go_at_call 86;refine(P _ _ _ _ _ _ V).aQ ?_;rintro w3 rfl)|(go_at_call 194;refine(u U Z).mono ?_;rintro e L ⟨C,B,rfl,z,I⟩;have Y:=Z.trans (I.mono Z.size);have H:=ay (y L C _ B Y z.lb);have s:=ay (fun w' (S:aP L w')=>t w' C _ B (z.lb.keep S)))|(go_at_call 192;refine H.aQ ?_;rintro w6 O;have T:=Y.trans (O.mono Y.size))|fail);go_ret;exact xK.same h T
 ·by_cases h1:st=1
  ·subst h1
   by_cases hm:ml=0
   ·have D:=E.1 hm
    subst hm;cases is with
    |false=>
     rw[aF ⟨aj,.inr (.inr rfl)⟩];clear E D;go_enter func138,ntmps138;go_wp2_with(first|(go_at_call 44;refine Q.aQ ?_;rintro j rfl)|(go_at_call 56;refine p.mono ?_;rintro e U ⟨i,g,b,a,rfl,V,Z⟩;have J:=(F U Z).xM;have q:=(F U Z).base.yG)|(go_at_call 86;refine(P _ _ _ _ _ _ V).aQ ?_;rintro w3 rfl)|(go_at_call 71;refine(v U Z).mono ?_;rintro e w4 ⟨MA,Mc,rfl,oM,G⟩;skip;have W:=Z.trans (G.mono Z.size))|fail);go_ret;exact xK.same h W
    |true=>
     rw[au (by rw[D];simp),au bK];clear E D;cases sm with
     |false=>
      rw[au bK];go_enter func138,ntmps138;go_wp2_with(first|(go_at_call 44;refine Q.aQ ?_;rintro j rfl)|(go_at_call 56;refine p.mono ?_;rintro e U ⟨i,g,b,a,rfl,V,Z⟩;have J:=(F U Z).xM;have q:=(F U Z).base.yG)|(go_at_call 86;refine(P _ _ _ _ _ _ V).aQ ?_;rintro w3 rfl)|(go_at_call 71;refine(v U Z).mono ?_;rintro e w4 ⟨MA,Mc,rfl,oM,G⟩;skip;have W:=Z.trans (G.mono Z.size))|(go_at_call 194;refine(u w4 W).mono ?_;rintro e L ⟨C,B,rfl,z,I⟩;have Y:=W.trans (I.mono W.size);have H:=ay (y L C _ B Y z.lb);have s:=ay (fun w' (S:aP L w')=>t w' C _ B (z.lb.keep S)))|(go_at_call 192;refine H.aQ ?_;rintro w6 O;have T:=Y.trans (O.mono Y.size))|fail);go_ret;exact xK.same h T
     |true=>
      rw[aF ⟨rfl,rfl⟩];generalize pX d f.job RS=R at*;go_enter func138,ntmps138;go_wp2_with(first|(go_at_call 44;refine Q.aQ ?_;rintro j rfl)|(go_at_call 56;refine p.mono ?_;rintro e U ⟨i,g,b,a,rfl,V,Z⟩;have J:=(F U Z).xM;have q:=(F U Z).base.yG)|(go_at_call 86;refine(P _ _ _ _ _ _ V).aQ ?_;rintro w3 rfl)|(go_at_call 71;refine(v U Z).mono ?_;rintro e w4 ⟨MA,Mc,rfl,oM,G⟩;skip;have W:=Z.trans (G.mono Z.size))|(go_at_call 194;refine(u w4 W).mono ?_;rintro e L ⟨C,B,rfl,z,I⟩;have Y:=W.trans (I.mono W.size);have H:=ay (y L C _ B Y z.lb);have s:=ay (fun w' (S:aP L w')=>t w' C _ B (z.lb.keep S)))|(go_at_call 192;refine H.aQ ?_;rintro w6 O;have T:=Y.trans (O.mono Y.size))|(go_at_call 127;refine(s w6 O).aQ ?_;rintro w7 qj;have r:=T.trans (qj.mono T.size))|(go_at_call 189;refine(qh w7 r).mono ?_;rintro e w8 ho;obtain⟨rfl,-⟩:=id ho)|fail);go_ret;exact xK.below r ho
   ·have D:f.job.missing≠ []:=fun e=>hm (E.2 e)
    rw[aF ⟨aj,.inr (.inl D)⟩];have g1:(0:Int)<(ml:Int):=aj
    clear E D;go_enter func138,ntmps138;go_wp2_with(first|(go_at_call 44;refine Q.aQ ?_;rintro j rfl)|(go_at_call 56;refine p.mono ?_;rintro e U ⟨i,g,b,a,rfl,V,Z⟩;have J:=(F U Z).xM;have q:=(F U Z).base.yG)|(go_at_call 86;refine(P _ _ _ _ _ _ V).aQ ?_;rintro w3 rfl)|(go_at_call 71;refine(v U Z).mono ?_;rintro e w4 ⟨MA,Mc,rfl,oM,G⟩;skip;have W:=Z.trans (G.mono Z.size))|fail);go_ret;exact xK.same h W
  ·rw[aF ⟨h3,.inl h1⟩]
   clear E;go_enter func138,ntmps138;go_wp2_with(first|(go_at_call 44;refine Q.aQ ?_;rintro j rfl)|(go_at_call 56;refine p.mono ?_;rintro e U ⟨i,g,b,a,rfl,V,Z⟩;have J:=(F U Z).xM;have q:=(F U Z).base.yG)|(go_at_call 86;refine(P _ _ _ _ _ _ V).aQ ?_;rintro w3 rfl)|fail);go_ret;exact xK.same h Z
end
end Go.Proofs.YtiaeohgghaaciaaGreatDoor
