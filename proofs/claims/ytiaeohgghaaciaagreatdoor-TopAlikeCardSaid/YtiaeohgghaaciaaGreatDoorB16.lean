import Derived.Test.YtiaeohgghaaciaaGreatDoorB14
namespace Go.Proofs.YtiaeohgghaaciaaGreatDoor
open Go Go.Maps Go.RowKit Go.Extern.Stop Go.Stop Go.Extern Go.Proofs.Tryz
set_option linter.all false
set_option maxRecDepth 100000
set_option maxHeartbeats 4000000
section
variable{cs:Array Value}{cu fi go ra re ro:Int}{l p:List Int}{H N W base c cap d g hi j k lo m n q qn qx r:Nat}{S:Nat→Prop}{A B:Option Addr}{t:TypeId}{U V Z:Value}{u w w':World}
def IC(K:gQ):List jL:=⟨32,[(K.num:Int),K.first,K.count]⟩::K.CP
theorem XM(K:gQ):dL (IC K)=vF K:=rfl
theorem ads{K:gQ}(h:K.good):∀u∈IC K,UU u:=by
 obtain⟨V,U,T,-,X,-⟩:=h;intro u Z;rcases je.1 Z with rfl|Z
 ·exact⟨by show(1:Int)≤32∧(32:Int)≤255;omega,fun v W=>by simp at W;omega,bK⟩
 ·have Y:=X u Z
  refine⟨?_,Y.Zv,Y.len⟩;rcases Y with⟨h,-⟩|⟨h,-⟩<;>omega
def JnS(w:aK)(g base:Nat)(K:gQ)(j:Nat)(A:dK)(d:Nat)(ms:List CdM):Prop:=
 bF w g 192 (if j=0 then CQ 0 0 0 none 0 0 else CQ K.num K.first K.count A (j-1) d)∧dX cdR w base A (j-1) d ms∧
  ∀i,(h:i<ms.length)→ms[i].k=(K.CP.getD i ⟨0,[]⟩).k∧OwnB w base ms[i].A ms[i].n ms[i].c (K.CP.getD i ⟨0,[]⟩).b
theorem join_step{o:Nat}{K:gQ}{ms:List CdM}{k x y:Int}(U:K.good)(D:j≤K.count)(w:aK)(h:JnS w g base K j A d ms)(S:base≤w)
  (N:k=((IC K).getD j ⟨0,[]⟩).k) (P:OwnB w base B m o ((IC K).getD j ⟨0,[]⟩).b):
  Calls prog 227 #[aY g,j,.agg (KF k B m o x y)] w fun e Q=>e=bM iI∧∃M L I,JnS Q g base K (j+1) M L I∧bQ (fun i=>i=g∨In A i) w Q:=by
 obtain⟨X,own,V⟩:=h;rcases j with _|j
 ·rw[aF rfl]at X
  have F:=P;obtain rfl:m=3:=F.len.symm;obtain rfl:k=32:=N;refine(afQ U.num U.first U.count w X F).aQ ?_;rintro Q ⟨Y,O⟩;exact⟨rfl,none,0,[],⟨by rw[au aj];exact Y,dX.nil _ _,fun i R=>absurd R bK⟩,O.mono (fun _ _ h=>.inl h)⟩
 ·rw[au aj]at X
  have z:(IC K).getD (j+1) ⟨0,[]⟩=K.CP.getD j ⟨0,[]⟩:=by simp[IC]
  rw[z]at N P;have H:j<K.CP:=by rw[U.len];omega
  have v:(K.CP.getD j ⟨0,[]⟩).good:=U.cd _ (by rw[dG,fP H];exact lS _);have E:=U.count.2;subst N;have Z:dX cdR w base A j d ms:=own;have G:=Z.len
  refine(ajZ v ⟨aj,D⟩ (fun e=>by
   obtain rfl:j=0:=aj
   exact U.head) aj w X Z S P).aQ ?_
  rintro Q ⟨M,L,Y,u,O⟩;have W:∀{C:dK} {n c:Nat} {l:aO},OwnB w base C n c l→OwnB Q base C n c l:=fun J=>J.dH O (fun i R e=>e.elim (fun e=>J.I7 X bn (e▸R)) (fun e=>J.QA Z bn i R e))
  refine⟨rfl,M,L,_,⟨by rw[au aj];exact Y,u,fun i R=>?_⟩,O⟩
  by_cases T:i<ms
  ·rw[jJ T]
   exact⟨(V i T).1,W (V i T).2⟩
  ·obtain rfl:i=ms:=by simp at R;omega
   rw[kM (bC _)];simp only[tX,tq,G];exact⟨trivial,W P⟩
theorem Xf.typed{l:List jL}(h:Xf w base A n c l)(W:bQ S w w')(V:∀i,S i→VR w i 192∨VR w i 257):Xf w' base A n c l:=by
 obtain⟨T,U,R,X⟩:=h;refine⟨T,U.dH W (fun i Z k=>?_),R,fun i Z=>⟨(X i Z).1,(X i Z).2.dH W (fun j Q k=>?_)⟩⟩
 ·have Y:=U.ty Z
  rcases V i k with e|e
  ·exact absurd (Y.one e) bn
  ·exact absurd (Y.one e) bn
 ·have Y:=(X i Z).2.ty Q
  rcases V j k with e|e
  ·exact absurd (Y.one e) bn
  ·exact absurd (Y.one e) bn
theorem JnS.typed{K:gQ}{ms:List CdM}(h:JnS w g base K j A d ms):∀i,(i=g∨In A i)→VR w i 192∨VR w i 257:=by
 rintro i (rfl|Z)
 ·exact .inl h.1.ty
 ·exact .inr (h.2.1.ty Z)
theorem JnS.keep{g base j d:Nat}{A:dK}{K:gQ}{ms:List CdM}{w w':aK}(h:JnS w g base K j A d ms)(Z:aP w w'):JnS w' g base K j A d ms:=
 ⟨h.1.keep Z,h.2.1.keep Z,fun i Y=>⟨(h.2.2 i Y).1,(h.2.2 i Y).2.keep Z⟩⟩
theorem Parse_ok{K:gQ}(C:K.good)(hn:n≤1000000000)(hc:n≤c)(w:aK)(hA:Lb w A n (vF K)):
  Calls prog 170 #[aG A n c] w fun e w'=>∃L J,e=bM (eP #[.agg (CQ K.num K.first K.count L K.count J),iI])∧ML w' w L K.count J K.CP∧aP w w':=by
 have hb:=gU w (aS (CQ 0 0 0 none 0 0) 192) (aS (CQ 0 0 0 none 0 0) 192);have X0:=(bF.new w 192 (CQ 0 0 0 none 0 0)).alloc (aS (CQ 0 0 0 none 0 0) 192);have X1:=bF.new1 w (aS (CQ 0 0 0 none 0 0) 192) 192 (CQ 0 0 0 none 0 0);obtain⟨W2,P⟩:=kF ((w.alloc (aS (CQ 0 0 0 none 0 0) 192)).alloc (aS (CQ 0 0 0 none 0 0) 192));have s2:W2.heap.size=w+2:=by rw[P];simp
 rw[←P]at hb X0 X1;obtain⟨v,HB,u,t,qh⟩:=rG P hb X0 X1 s2;have I:(IC K)=K.count+1:=by show K.CP.length+1=_;rw[C.len]
 obtain⟨s,HK⟩:=aV (ahZ (ads C) I (by have:=C.count.2;omega) hn hc W2 (by rw[XM];exact hA.keep hb)) C;clear hA hb X0 X1 P s2 I;go_enter func170,ntmps170;go_upto_region 2 with(fail)
 change Code.wp _ _ _ _ ((w.alloc (aS (CQ 0 0 0 none 0 0) 192)).alloc (aS (CQ 0 0 0 none 0 0) 192));rw[←v];clear v;go_upto_region 4 with(go_at_call 226;refine s.mono ?_;rintro e w3 ⟨UB,ub,rfl,U,O⟩)
 have H:w.heap.size≤W2:=by have:=qh.out;omega
 obtain⟨r,qi,qf⟩:=dB (U.lower H) (HB.trans (O.mono H)) (u.keep O);have qj:Hid (JnS w3 (w.heap.size+1) w K 0 none 0 []):=ay ⟨by rw[aF rfl];exact t.keep O,dX.nil _ _,fun i Q=>absurd Q bK⟩;obtain⟨N,hN⟩:∃N,K.count=N:=⟨_,rfl⟩;have qy:N≤16:=by have:=C.count.2;omega
 have HN:=ay hN;rw[hN]at r ⊢;clear U O H u t C s hN;go_wp2_with fail
 go_loopg [7,8,9,18] (N+1) (fun kk v7 v8 v9 qk wr=>∃(j:Nat) (L:dK) (J:Nat) (ms:List CdM),j+kk=N+1∧qk=j∧JnS wr (w.heap.size+1) w K j L J ms∧Xf wr w UB (N+1) ub (IC K)∧aP w wr∧bF wr w 192 (CQ 0 0 0 none 0 0))
 case atStart=>exact⟨0,none,0,[],aj,rfl,qj,r,qi,qf⟩
 case round=>
  obtain⟨j,L,J,ms,hj,rfl,W,U,T,X⟩:=hrel;obtain⟨q,qg,R,ql⟩:=jH W U T X
  by_cases qm:j<N+1
  ·have qz:(j:Int)<((N+1:Nat):Int):=aj
   have p:=ay (aj:j+1+(gk-1)=N+1∧gk-1<gk);obtain⟨b,o,B,m,d,x,y,rfl,c0,c1,c2,c3,l⟩:=U.at_ qm;have qo:=ay l;obtain⟨k,z⟩:∃k,((IC K).getD j ⟨0,[]⟩).k=k:=⟨_,rfl⟩;have qq:=ay z;rw[z]at c0;clear z l W U T X;go_upto_region 6 with(fail)
   obtain⟨W5,M⟩:=kF (wr.alloc (aS (KF k B m d x y) 124));have V:aP wr W5:=by rw[M];exact aJ wr _
   have Z:bF W5 wr 124 (KF k B m d x y):=by rw[M];exact bF.new wr _ _
   change Code.wp _ _ _ _ (wr.alloc _);rw[←M];obtain⟨z0,z1,z2,z3⟩:=Z.s4;obtain⟨qr,G,qs,h,g⟩:=rG (join_step (x:=x) (y:=y) HK (j:=j) (by have:=HN.vI;omega) W5 (q.keep V) (dD R.size V.size) qq.symm (qo.keep V)) (q.keep V) (qg.keep V) (R.trans (V.mono R.size)) (ql.keep V);clear M V Z c0 c1 c2 c3;go_wp2_with(go_at_call 227;refine qr.aQ ?_;rintro w6 ⟨A7,d7,qt,f,qa⟩);obtain⟨qu,F⟩:=aV f qa;clear f qa z0 z1 z2 z3;go_wp2_with fail;go_roundg(gk-1)
   case measure=>exact p.2
   case rel=>
    refine⟨j+1,A7,d7,qt,p.1,fA,qu,qs.typed F G.typed,eH h F h.size (fun i Q=>Q.elim (fun e=>aj) (fun e=>(G.2.1.dN e).1)),g.dH F (fun e=>e.elim (fun e=>aj) (fun e=>?_))⟩;exact absurd ((G.2.1.ty e).one g.ty) bn
  ·obtain rfl:j=N+1:=aj
   have Y:=W.1;rw[au aj,Nat.add_sub_cancel]at Y;rw[HN]at Y;have HY:=ay Y;have S:=W.2.1;have qA:=ay S;obtain⟨x0,x1,x2,x3⟩:=Y.s4;obtain⟨y0,y1,y2,y3⟩:=X.s4;have f0:=X.frozen 0;have f1:=X.frozen 1;have f2:=X.frozen 2;have f3:=X.frozen 3
   have hz:(((N:Int)+1)==0)=false:=by
    rw[oO];omega
   have qB:decide ((N:Int)+1≤(N:Int))=false:=vH aj;obtain⟨wx,E,⟨z0,z1,z2,z3⟩,qe⟩:=Fv (a:=aB K.num) (b:=aB K.first) (c:=aB N) (d:=aG L N J) X T (bC _);have D:bQ (fun i=>i=w) wr wx:=by rw[E];exact(((yD wr w 0 _).trans (yD _ w 1 _)).trans (yD _ w 2 _)).trans (yD _ w 3 _)
   have HR:Hid (ML wx w L N J K.CP):=ay ⟨ms,S.dH D (fun i Q e=>absurd ((S.ty Q).one (e▸X.ty)) bn),by rw[HK.len,HN],fun i Q=>⟨(W.2.2 i Q).1,(W.2.2 i Q).2.dH D (fun k z e=>absurd (((W.2.2 i Q).2.ty z).one (e▸X.ty)) bn)⟩⟩;obtain⟨qv,qw⟩:=aV E qe;clear Y S W U T X D E qe;go_wp2_with fail;rw[←qv];refine aT (by simp[results,results170,go_sem,z0,z1,z2,z3];rfl) rfl ?_;rw[HN];exact⟨L,J,rfl,HR,qw⟩
theorem Ut.fam{l:List aO}(h:Ut w lo hi A W H N l):∃b o,∃X:Nat→dK,∃V:Nat→Nat,(0<l.length→A=some (aH b o))∧∀i,i<l.length→
  aN w b (o+i*3) (aB W)∧aN w b (o+i*3+1) (aB H)∧aN w b (o+i*3+2) (aG (X i) N (V i))∧Fr w W H N (X i) (l.getD i []):=by
 obtain⟨b,o,U,Y⟩:=h.at_;refine⟨b,o,fun i=>if h:i<l then(Y i h).choose else none,fun i=>if h:i<l then(Y i h).choose_spec.choose else 0,fun T=>(U T).1,fun i hi=>?_⟩;have Z:=(Y i hi).choose_spec.choose_spec;dsimp only;rw[dif_pos hi,dif_pos hi];exact⟨Z.1,Z.2.1,Z.2.2.1,Z.2.2.2.1⟩
theorem akf(w:aK)(h:Fr w W H n A p):Calls prog 250 #[uf W H A n c] w (Val w (.bool false)):=by
 have Y:=aJ w (dA W H A n c);obtain⟨X,V⟩:=aV (FI (c:=c) (h.keep Y)) Y;obtain⟨U,T,S⟩:=mD (bF.new w 90 #[W,H,aG A n c]);go_enter func250,ntmps250;go_wp2_with fail;refine X.aQ ?_;rintro R Z;go_wp2;go_ret;exact⟨rfl,V.trans (Z.mono bK)⟩
theorem aio{o:Nat}(V:0<k)(w:aK)(Y:aN w m 0 (aG (some (aH q o)) k d))(h0:aN w q o (aB W))(h1:aN w q (o+1) (aB H)):
  Calls prog 251 #[uf W H A n c,aY m] w (Val w (.bool false)):=by
 have Z:=aJ w (dA W H A n c);have X:=ay Z;obtain⟨U,T,S⟩:=mD (bF.new w 90 #[W,H,aG A n c]);have R:=aC Y Z;have Q:=aC h0 Z;have P:=aC h1 Z;go_enter func251,ntmps251;go_wp2
 go_quiet(fail)
 go_wp2;go_ret;exact⟨rfl,jM X _⟩
theorem af7(h:∀v∈l,8≤v)(W:aK):Tests 253 #[] (fun _=>false) l W:=by
 refine⟨enters_of func253 aW rfl,fun v Z Y X=>?_⟩;have V:=h v Z;have U:¬v<8:=aj
 go_enter func253,ntmps253;go_wp2;go_ret;exact⟨rfl,aU _ _⟩
theorem af8{qn qx:Int}{D:dK}{l:List aO}{cs:aO}(K:jo qn qx re cu go ra ro fi=true)(a:l=n)(hn:1≤n∧n≤16)(C:∀v∈cs,8≤v)(w:aK)(e:Ut w lo hi A W H N l)(b:Ls w D n cs):
  Calls prog 214 #[.agg (jC qn qx re cu go ra ro fi),aG A n c,aG D n d] w (Val w iI):=by
 obtain⟨q,o,u,t,B,U⟩:=e.fam;obtain rfl:=B aj;have R:=gU w (aS (jC qn qx re cu go ra ro fi) 23) (aS #[aG (some (aH q o)) n c] 85);have T:=(bF.new w 23 (jC qn qx re cu go ra ro fi)).alloc (aS #[aG (some (aH q o)) n c] 85);have s:=bF.new1 w (aS (jC qn qx re cu go ra ro fi) 23) 85 #[aG (some (aH q o)) n c];obtain⟨S,G⟩:=kF ((w.alloc (aS (jC qn qx re cu go ra ro fi) 23)).alloc (aS #[aG (some (aH q o)) n c] 85));rw[←G]at R T s;have Q:Hid (∀Z,aP S Z→aN Z (w.heap.size+1) 0 (aG (some (aH q o)) n c)):=ay (fun Z h=>aC (s.at rfl) h)
 have P:=ay (fun Z (h:aP S Z) i (hi:i<n)=>show aN Z q (o+i*3) (aB W)∧aN Z q (o+i*3+1) (aB H)∧aN Z q (o+i*3+2) (aG (u i) N (t i))∧Fr Z W H N (u i) (l.getD i []) by
  obtain⟨J,I,F,k4⟩:=U i aj;exact⟨aC (aC J R) h,aC (aC I R) h,aC (aC F R) h,(k4.keep R).keep h⟩)
 have r:=ay (fun Y (X:aP S Y)=>show Calls prog 249 #[aG (some (aH q o)) n c,.func (.func 250) #[] #[]] Y (Val Y (.bool false)) by
  have h:=QO (g:=250) (cb:=#[]) (q:=fun _=>false) (E0:=fun _=>aB W) (E1:=fun _=>aB H) (E2:=fun i=> aG (u i) N (t i)) (A:=some (aH q o)) (n:=n) (c:=c) aj Y (enters_of func250 aW rfl)
   (fun Z L i hi=>by obtain⟨J,I,F,-⟩:=P Z (X.trans (L.mono X.size)) i hi;exact⟨q,o,rfl,J,I,F⟩)
   (fun i hi Z L=>akf Z (P Z (X.trans (L.mono X.size)) i hi).2.2.2)
  rwa[Lh fun _ _=>rfl]at h)
 have p:=ay (fun Y (X:aP S Y)=>show Calls prog 249 #[aG (some (aH q o)) n c,.func (.func 251) #[] #[BG (w.heap.size+1)]] Y (Val Y (.bool false)) by
  have h:=QO (g:=251) (cb:=#[BG (w.heap.size+1)]) (q:=fun _=>false) (E0:=fun _=>aB W) (E1:=fun _=>aB H) (E2:=fun i=> aG (u i) N (t i)) (A:=some (aH q o)) (n:=n) (c:=c) aj Y (enters_of func251 aW rfl)
   (fun Z L i hi=>by obtain⟨J,I,F,-⟩:=P Z (X.trans (L.mono X.size)) i hi;exact⟨q,o,rfl,J,I,F⟩)
   (fun i hi Z L=>by
     obtain⟨J,I,-⟩:=P Z (X.trans (L.mono X.size)) 0 aj;exact aio (c:=t i) (k:=n) (d:=c) aj Z (Q.out Z (X.trans (L.mono X.size))) (by simpa using J) (by simpa using I))
  rwa[Lh fun _ _=>rfl]at h)
 obtain⟨m,j⟩:=aV (fun Y (X:aP S Y)=>Ez (c:=d) aj Y (af7 C Y) ((b.keep R).keep X)) (fun Z=>wu K Z);obtain⟨c0,c1,c2,c3,c4,c5,c6,c7⟩:=T.s8;have q1:((n:Int)==0)=false:=by rw[oO];omega
 have q2:decide (16<(n:Int))=false:=jy
 change Hid _ at G R;clear T s U e b B K a hn C;go_enter func214,ntmps214;go_upto_region 1 with(fail)
 change Code.wp _ _ _ _ ((w.alloc (aS (jC qn qx re cu go ra ro fi) 23)).alloc (aS #[aG (some (aH q o)) n c] 85));rw[←G];go_wp2_with fail;refine(j _).aQ ?_;rintro Y V;have E:=Q _ V;change Hid _ at V;clear c0 c1 c2 c3 c4 c5 c6 c7;go_wp2_with fail;refine(r _ V).aQ ?_;rintro w3 z;have O:=ay (V.trans (z.mono V.size));clear z E;have E:=Q _ O;go_wp2_with fail;refine(p _ O).aQ ?_;rintro w4 y;have M:=ay (O.trans (y.mono O.size));clear y E;have E:=Q _ M;go_wp2_with fail;refine(m _ M).aQ ?_;rintro w5 x;have f:=ay (M.trans (x.mono M.size));clear x E;go_wp2_with fail;go_ret;exact⟨rfl,R.trans (f.mono R.size)⟩
theorem Ri{W H r qn qx:Nat}:∀(l:List aO) (Y:aO) (Z:Bool) (q:aO),l.length=Y.length→∀j,j<l.length→(kC W H r qn qx Z q l Y).getD j (⟨0,[]⟩,[])=
  uS W H r (if j=0 then Z else false) (l.getD j []) (if j=0 then q else((kC W H r qn qx Z q l Y).getD (j-1) (⟨0,[]⟩,[])).2) (Y.getD j 0) qn qx
 | [],_,_,_,_,j,X=>absurd X bK
 |f::l,[],_,_,V,_,_=>absurd V bK
 |f::l,c::Y,Z,q,V,j,X=>by
  have e:kC W H r qn qx Z q (f::l) (c::Y)=uS W H r Z f q c qn qx::kC W H r qn qx false (uS W H r Z f q c qn qx).2 l Y:=rfl;rw[e];cases j with
  |zero=>rfl
  |succ j=>
   have U:=Ri (W:=W) (H:=H) (r:=r) (qn:=qn) (qx:=qx) l Y false (uS W H r Z f q c qn qx).2 (by simpa using V) j (by simpa using X);rw[rO,U,au (by omega:¬j+1=0),au (by omega:¬j+1=0),rO,rO];cases j with
   |zero=>rfl
   |succ j=>
    rw[au aj,au aj];rfl
theorem JU{W H r qn qx:Nat}:∀(l:List aO) (Y:aO) (Z:Bool) (q:aO),l.length=Y→(kC W H r qn qx Z q l Y).length=l
 | [],[],_,_,_=>rfl
 | [],_::_,_,_,h=>absurd h bK
 |f::l,[],_,_,h=>absurd h bK
 |f::l,c::Y,Z,q,h=>bf (·+1) (JU (W:=W) (H:=H) (r:=r) (qn:=qn) (qx:=qx) l Y false (uS W H r Z f q c qn qx).2 (by simpa using h))
theorem alV{a b:cO}(h:bF w g t #[V,U]):bF ((w.setCell ⟨g,0,none⟩ a).setCell ⟨g,1,none⟩ b) g t #[a,b]:=(h.store 0 a).store 1 b
theorem aip{a b c:cO}(h:bF w g t #[V,U,Z]):bF (((w.setCell ⟨g,0,none⟩ a).setCell ⟨g,1,none⟩ b).setCell ⟨g,2,none⟩ c) g t #[a,b,c]:=((h.store 0 a).store 1 b).store 2 c
abbrev cdZ:Obj:=.cells #[aB 0,bU] 257
abbrev frZ:Obj:=.cells #[aB 0,aB 0,bU] 90
theorem PW(h:bF w g 257 #[aB 0,bU])(Z:aP w w'):(aN w' g 0 (aB 0)∧aN w' g 1 (bU))∧(w'.frozen? (aH g 0)=false∧w'.frozen? (aH g 1)=false)∧bF w' g 257 #[aB 0,bU]:=by
 have k:=h.keep Z;exact⟨⟨k.at rfl,k.at rfl⟩,⟨k.frozen 0,k.frozen 1⟩,k⟩
theorem LK(h:bF w g 90 #[aB 0,aB 0,bU])(Z:aP w w'):(aN w' g 0 (aB 0)∧aN w' g 1 (aB 0)∧aN w' g 2 (bU))∧(w'.frozen? (aH g 0)=false∧w'.frozen? (aH g 1)=false∧w'.frozen? (aH g 2)=false)∧bF w' g 90 #[aB 0,aB 0,bU]:=by
 have k:=h.keep Z;exact⟨⟨k.at rfl,k.at rfl,k.at rfl⟩,⟨k.frozen 0,k.frozen 1,k.frozen 2⟩,k⟩
theorem akg{w4:aK}{b:Nat}{x:Int}(P:aP w w4)(Z:w≤base)(O:OwnB w4 base B n b l)(X:Jr w4 base W H (W*H) g c p)
  (T:bQ (fun i=>w≤i∧i<base) w4 u) (R:bF u k 257 #[aB x,aG B n b]) (Q:bF u j 90 #[aB W,aB H,aG (some (aH g 0)) (W*H) c]) (U:w≤j):
  ∃V Y B n b g c,Value.pointer (some (aH k 0))= BG V∧Value.pointer (some (aH j 0))= BG Y∧Value.nilIface=Value.nilIface∧bF u V 257 #[aB x,aG B n b]∧bF u Y 90 #[aB W,aB H,aG (some (aH g 0)) (W*H) c]∧OwnB u w B n b l∧Jr u w W H (W*H) g c p∧aP w u∧w≤Y:=
 ⟨k,j,B,n,b,g,c,rfl,rfl,rfl,R,Q,(O.dH T (fun i S=>by have:=(O.lt S).1;omega)).lower Z,
   ⟨X.wd,X.ht,X.size,X.may,(X.own.dH T (fun q N=>by have:=(X.own.row.lt q.block (by rw[N];rfl)).1;omega)).lower Z⟩,
   eH P T P.size (fun i S=>S.1),U⟩
theorem dX.I7{α:Type}{R:tJ α}{l:List α}(h:dX R w base A n c l)(Z:bF w g t cs)(ht:t≠R.T):¬In A g:=by
 rintro⟨p,rfl,e⟩;exact dP h.row Z (jP ht) (by simp[Value.ownBlock,e])
theorem akh{l:List jL}{ms:List CdM}{v:CdM}{x:jL}(h1:dX cdR w base A n c ms)(h2:l.length=n)(Z:∀i,(h:i<ms.length)→ms[i].k=(l.getD i ⟨0,[]⟩).k∧OwnB w base ms[i].A ms[i].n ms[i].c (l.getD i ⟨0,[]⟩).b)
  (W:v.k=x.k) (Y:OwnB w base v.A v.n v.c x.b) (V:dX cdR w' base B (n+1) cap (ms++ [v])) (X:bQ (In A) w w'):ML w' base B (n+1) cap (l++ [x]):=by
 have U:=h1.len;refine⟨ms++ [v],V,by simp[h2],fun i T=>?_⟩
 by_cases h:i<ms
 ·rw[jJ h,dG,JD aj,←dG]
  exact⟨(Z i h).1,(Z i h).2.dH X ((Z i h).2.QA h1 bn)⟩
 ·obtain rfl:i=ms:=by simp at T;omega
  rw[kM (bC _),dG,ET aj];simp only[tX,tq,h2,U,rY,jV];exact⟨W,Y.dH X (Y.QA h1 bn)⟩
theorem ML.aiq{α:Type}{R:tJ α}{l:List jL}{r:List α}(h:ML w base A n c l)(k:dX R w j B m d r)(W:bQ (In B) w w')(U:R.T≠257)(X:R.T≠5):ML w' base A n c l:=by
 obtain⟨S,V,Q,Z⟩:=h;refine⟨S,V.dH W ?_,Q,fun i Y=>⟨(Z i Y).1,(Z i Y).2.dH W ((Z i Y).2.QA k X)⟩⟩;rintro i ⟨q,rfl,rfl⟩ ⟨p,rfl,e⟩;exact EZ V.row k.row (jP U) q.block rfl (by simp[Value.ownBlock,e])
structure FrM where
 W:Nat
 H:Nat
 A:dK
 n:Nat
 c:Nat
def frR:tJ FrM where
 S:=85
 T:=90
 k:=3
 bytes:=40
 z:=.agg #[aB 0,aB 0,bU]
 enc:=fun m=>[aB m.W,aB m.H,aG m.A m.n m.c]
 und:=underlying85
 info:=aW
 zs:=rfl
 pos:=bn
 hk:=fun _=>rfl
 one:=fun a u Z=>by simp at Z;rcases Z with rfl|rfl|rfl<;>rfl
theorem adt{D:dK}{l:List aO}{cs:aO}(qq:jo qn qx r cu go ra ro fi=true)(hN:N=W*H)(hl:l=n)(hn:1≤n∧n≤16)(qY:∀v∈cs,8≤v)(w:aK)(hA:Ut w lo hi A W H N l)(hD:Ls w D n cs):
  Calls prog 152 #[.agg (jC qn qx r cu go ra ro fi),aG A n c,aG D n d] w
   fun e O=>∃B b B2 b2 fm,e=bM (eP #[aG B n b,aG B2 n b2,iI])∧ML O w B n b ((BR W H r qn qx l cs).map (·.1))∧dX frR O w B2 n b2 fm∧aP w O:=by
 obtain⟨W1,qZ,X0,hb⟩:=ES w 23 (jC qn qx r cu go ra ro fi);have s1:W1.heap.size=w+1:=by rw[qZ];simp
 obtain⟨xk,HB,za⟩:=dB qZ hb s1
 have qu:Hid (∀O,aP W1 O→aN O w 0 (aB qn)∧aN O w 1 (aB qx)∧aN O w 2 (aB r)∧aN O w 3 (aB cu)∧aN O w 4 (aB go)∧aN O w 5 (aB ra)∧aN O w 6 (aB ro)∧aN O w 7 (aB fi)):=ay (fun O h=>by
  have hx:=X0.keep h;exact⟨hx.at rfl,hx.at rfl,hx.at rfl,hx.at rfl,hx.at rfl,hx.at rfl,hx.at rfl,hx.at rfl⟩)
 obtain⟨xl,HA,HD,zv⟩:=jH (af8 (c:=c) (d:=d) qq hl hn qY W1 (hA.keep hb) ⟨hD.len,hD.rd.keep hb⟩) (fun O (h:aP W1 O)=>(hA.keep hb).keep h) (fun O (h:aP W1 O)=>(hD.keep hb).keep h) (Ri (W:=W) (H:=H) (r:=r) (qn:=qn) (qx:=qx) l cs true [] (by rw[hl,hD.len]));have xn:=Jg (W:=W) (H:=H) (r:=r) (qn:=qn) (qx:=qx);obtain⟨G,hG⟩:∃G,BR W H r qn qx l cs=G:=⟨_,rfl⟩;rw[show kC W H r qn qx true [] l cs=G from hG]at zv;rw[hG];obtain⟨HL,HN,HNN,xp,zX,zw⟩:=MP hl hn hN qY qq hD.len;clear qZ hb X0 s1 xn hA hD qq hl qY hN;go_enter func152,ntmps152;obtain⟨a0,a1,a2,a3,a4,a5,a6,a7⟩:=qu.out _ (aU _ _);go_upto_region 1 with(fail)
 change Code.wp _ _ _ _ (w.alloc (aS (jC qn qx r cu go ra ro fi) 23));rw[←xk];go_wp2_with fail;refine xl.aQ ?_;rintro E zx;have zb:=ay zx;clear zx a0 a1 a2 a3 a4 a5 a6 a7;go_wp2_with fail;have t:=bF.new E 90 #[aB (0:Nat),aB (0:Nat),bU];have Q:=aJ E (dA 0 0 none 0 0);obtain⟨u,qg⟩:=kF (E.alloc (dA 0 0 none 0 0));have t:bF u E 90 #[aB (0:Nat),aB (0:Nat),bU]:=by rw[qg];exact t
 have Q:aP E u:=by rw[qg];exact Q
 have s2:u.heap.size=E+1:=by rw[qg];simp
 obtain⟨xq,xr,C,xt⟩:=jH t (zb.trans (Q.mono zb.size)) s2 qg;have qB:=zb.size;have f:=ay qB;clear t Q qg s2 qB;change Code.wp _ _ _ _ (E.alloc (dA 0 0 none 0 0));rw[←xt]
 go_loopg [10,11,13,14,15,16,17,27] n (fun k v10 v11 v13 v14 zy zA zB v27 wr=>∃(j:Nat) (B:dK) (b:Nat) (B2:dK) (b2:Nat) (fm:List FrM) (pW pH pn pc:Nat) (pA:dK),j+k=n∧v27=j∧v10=aG B j b∧v11=aG B2 j b2∧
  ML wr u B j b ((G.map (·.1)).take j)∧dX frR wr u B2 j b2 fm∧bF wr E 90 #[pW,pH,aG pA pn pc]∧Hid (j≠0→pW=W∧pH=H∧Fr wr W H pn pA ((G.getD (j-1) (⟨0,[]⟩,[])).2)∧∀i,In pA i→u≤i)∧aP W1 wr)
 case atStart=>exact⟨0,none,0,none,0,[],0,0,0,0,none,aj,rfl,rfl,rfl,ML.nil _ _,dX.nil _ _,xq,ay (fun h=>absurd rfl h),xr⟩
 case round=>
  obtain⟨j,B,b,B2,b2,fm,pW,pH,pn,pc,pA,hj,rfl,rfl,rfl,zC,zD,t,hpv,qC⟩:=hrel;obtain⟨M,zc,ze,qr⟩:=jH qC zC zD t;clear zC zD t qC
  by_cases zf:j<n
  ·have hlt':(j:Int)<(n:Int):=aj
   obtain⟨q,o,A1,c1,rfl,k0,k1,k2,zE⟩:=(HA _ M).get (i:=j) (by have:=HL.vI;omega);go_upto_region 10 with(fail)
   have zg:=(HD _ M);have zF:j<cs:=by have:=HL.vI;rw[zg.len];exact zf
   obtain⟨qd,od,rfl,kd⟩:=zg.at_ zf;have qD:=xp (cs.getD j 0) (by rw[dG,fP zF];exact lS _);have qw:=zv j (by have:=HL.vI;omega);have Q:=aJ wr (dA W H A1 N c1);have zG:=mD (bF.new wr 90 #[W,H,aG A1 N c1]);obtain⟨Y,zh⟩:∃Y:aK,Y=wr.alloc (dA W H A1 N c1):=⟨_,rfl⟩;rw[←zh]at Q zG;obtain⟨x0,x1,x2⟩:=zG;have zi:=M.trans (Q.mono M.size);obtain⟨p0,p1,p2⟩:=mD (qr.keep Q);obtain⟨a0,a1,a2,a3,a4,a5,a6,a7⟩:=qu.out _ zi;have kd3:=aC kd Q;have zH:=zE.keep Q;have hk0:((j:Int)==0)=decide (j=0):=by by_cases e:j=0<;>simp[e]
   have L:=ay (fun O (h:aP Y O)=>alL (key:=decide (j=0)) (c1:=c1) (W2:=pW) (H2:=pH) (N2:=pn) (c2:=pc) (A2:=pA) (q:=if j=0 then []else((G.getD (j-1) (⟨0,[]⟩,[])).2)) zX qD O (zH.keep h) (fun hk=>by
    have zI:j≠0:=by intro e;rw[e]at hk;simp at hk
    obtain⟨e1,e2,e3,-⟩:=hpv.out zI;rw[au zI];exact⟨e1,e2,(e3.keep Q).keep h⟩))
   have zJ:(if j=0 then true else false)=decide (j=0):=by by_cases e:j=0<;>simp[e]
   rw[zJ]at qw;rw[←qw]at L;obtain⟨zj,apu,HBX⟩:=dB zh zi Q;generalize hR:G.getD j (⟨0,[]⟩,[])=R at*;obtain⟨HR,apw⟩:=aV hR qw;generalize cs.getD j 0=qE at*;clear zg zF qD qw zJ zH zE Q zh zi k0 k1 k2 kd hR;rw[←zj];have zr:Hid (∀X:aK,aP Y X→aN X wr 0 (aB W)∧aN X wr 1 (aB H)∧aN X wr 2 (aG A1 N c1)∧aN X E 0 (aB pW)∧aN X E 1 (aB pH)∧aN X E 2 (aG pA pn pc)∧aN X w 0 (aB qn)∧aN X w 1 (aB qx)∧aN X w 2 (aB r)∧aN X w 3 (aB cu)∧aN X w 4 (aB go)∧aN X w 5 (aB ra)∧aN X w 6 (aB ro)∧aN X w 7 (aB fi)∧aN X qd (od+j) (aB qE)):=ay (fun X h=>⟨aC x0 h,aC x1 h,aC x2 h,aC p0 h,aC p1 h,aC p2 h,aC a0 h,aC a1 h,aC a2 h,aC a3 h,aC a4 h,aC a5 h,aC a6 h,aC a7 h,aC kd3 h⟩);go_cut [15,16,17] (fun zy zA zB wx=>∃zk qh B n b g c,zy= BG zk∧zA= BG qh∧zB=iI∧bF wx zk 257 #[aB R.1.k,aG B n b]∧bF wx qh 90 #[aB W,aB H,aG (some (aH g 0)) (W*H) c]∧OwnB wx Y B n b R.1.b∧Jr wx Y W H (W*H) g c R.2∧aP Y wx∧Y≤qh)
   case first=>
    go_region_held3(fun X=>aN X wr 0 (aB W)∧aN X wr 1 (aB H)∧aN X wr 2 (aG A1 N c1)∧aN X E 0 (aB pW)∧aN X E 1 (aB pH)∧aN X E 2 (aG pA pn pc)∧aN X w 0 (aB qn)∧aN X w 1 (aB qx)∧aN X w 2 (aB r)∧aN X w 3 (aB cu)∧aN X w 4 (aB go)∧aN X w 5 (aB ra)∧aN X w 6 (aB ro)∧aN X w 7 (aB fi)∧aN X qd (od+j) (aB qE))
     ((refine zr _ ?_;repeat' (first|with_reducible(exact K)|with_reducible(exact aU _ _)|with_reducible(refine Below.setCell ?_ ?_ _)|with_reducible(refine Below.alloc ?_ ?_ _)|with_reducible(refine Below.drew ?_)|exact bC _|exact J|exact iF _ _|exact dD J (iF _ _)|(simp;done)|(simp;omega)|omega)))
     (first
     |(go_at_call 215;refine(L Y.drew ((aU _ Y).drew)).mono ?_;rintro e S ⟨B4,n4,b4,g4,c4,rfl,qi,qj,U⟩;have Z:=U.size;have J:Y.heap.size≤S:=(by simp at Z;omega);have K:aP Y S:=((aU _ Y).drew).trans (U.mono (by first|(simp;done)|(simp;omega))))
     |(go_at_call 215;refine(L (Y.alloc cdZ).drew ((aJ Y cdZ).drew)).mono ?_;rintro e S ⟨B4,n4,b4,g4,c4,rfl,qi,qj,U⟩;have Z:=U.size;have J:Y.heap.size≤S:=(by simp at Z;omega);have K:aP Y S:=((aJ Y cdZ).drew).trans (U.mono (by first|(simp;done)|(simp;omega)));obtain⟨⟨q0,q1⟩,⟨r0,r1⟩,T⟩:=PW (w:=(Y.alloc cdZ).drew) (bF.new Y 257 #[.int .i64 0,.slice none 0 0]) U;have qa0:=(fun o=>(PW T (aJ S o)).1.1);have qa1:=(fun o=>(PW T (aJ S o)).1.2);have ra0:=(fun o=>(PW T (aJ S o)).2.1.1);have ra1:=(fun o=>(PW T (aJ S o)).2.1.2);have ne1:¬Y.heap.size=S:=(by simp at Z;omega);have ne2:¬S.heap.size=Y:=(by simp at Z;omega))
     |(go_at_call 215;refine(L (Y.alloc frZ).drew ((aJ Y frZ).drew)).mono ?_;rintro e S ⟨B4,n4,b4,g4,c4,rfl,qi,qj,U⟩;have Z:=U.size;have J:Y.heap.size≤S:=(by simp at Z;omega);have K:aP Y S:=((aJ Y frZ).drew).trans (U.mono (by first|(simp;done)|(simp;omega)));obtain⟨⟨q0,q1,q2⟩,⟨r0,r1,r2⟩,T⟩:=LK (w:=(Y.alloc frZ).drew) (bF.new Y 90 #[.int .i64 0,.int .i64 0,.slice none 0 0]) U;have qa0:=(fun o=>(LK T (aJ S o)).1.1);have qa1:=(fun o=>(LK T (aJ S o)).1.2.1);have qa2:=(fun o=>(LK T (aJ S o)).1.2.2);have ra0:=(fun o=>(LK T (aJ S o)).2.1.1);have ra1:=(fun o=>(LK T (aJ S o)).2.1.2.1);have ra2:=(fun o=>(LK T (aJ S o)).2.1.2.2);have ne1:¬Y.heap.size=S:=(by simp at Z;omega);have ne2:¬S.heap.size=Y:=(by simp at Z;omega))
     |(go_at_call 215;refine(L ((Y.alloc cdZ).alloc frZ).drew ((gU Y cdZ frZ).drew)).mono ?_;rintro e S ⟨B4,n4,b4,g4,c4,rfl,qi,qj,U⟩;have Z:=U.size;have J:Y.heap.size≤S:=(by simp at Z;omega);have K:aP Y S:=((gU Y cdZ frZ).drew).trans (U.mono (by first|(simp;done)|(simp;omega)));obtain⟨⟨q0,q1⟩,⟨r0,r1⟩,T⟩:=PW (w:=((Y.alloc cdZ).alloc frZ).drew) ((bF.new Y 257 #[.int .i64 0,.slice none 0 0]).alloc frZ) U;obtain⟨⟨s0,s1,s2⟩,⟨t0,t1,t2⟩,zl⟩:=LK (w:=((Y.alloc cdZ).alloc frZ).drew) (bF.new1 Y cdZ 90 #[.int .i64 0,.int .i64 0,.slice none 0 0]) U)
     |(go_at_call 215;refine(L ((Y.alloc frZ).alloc cdZ).drew ((gU Y frZ cdZ).drew)).mono ?_;rintro e S ⟨B4,n4,b4,g4,c4,rfl,qi,qj,U⟩;have Z:=U.size;have J:Y.heap.size≤S:=(by simp at Z;omega);have K:aP Y S:=((gU Y frZ cdZ).drew).trans (U.mono (by first|(simp;done)|(simp;omega)));obtain⟨⟨q0,q1,q2⟩,⟨r0,r1,r2⟩,T⟩:=LK (w:=((Y.alloc frZ).alloc cdZ).drew) ((bF.new Y 90 #[.int .i64 0,.int .i64 0,.slice none 0 0]).alloc cdZ) U;obtain⟨⟨s0,s1⟩,⟨t0,t1⟩,zl⟩:=PW (w:=((Y.alloc frZ).alloc cdZ).drew) (bF.new1 Y frZ 257 #[.int .i64 0,.slice none 0 0]) U)
     |fail)
    all_goals(go_wp2_with fail;go_meet)
    all_goals
     refine akg K ?_ qi qj ?_ ?_ ?_ (by first|omega|(simp;done)|(simp;omega)|(simp at Z ⊢;omega))
     ·first|exact bC _|exact iF _ _|(simp;done)|(simp;omega)
     ·repeat' (first|exact bQ.refl _ _|with_reducible(refine bQ.setCell ?_ ?_ _)|with_reducible(refine bQ.alloc ?_ _)|(intro hp;exact absurd hp (Nat.lt_irrefl _))|(intro hp;first|(simp;done)|(simp at Z ⊢;omega)|(simp at hp Z ⊢<;>omega)))
     ·first
      |with_reducible exact(bF.new _ _ _).alloc _
      |with_reducible exact bF.new1 _ _ _ _
      |with_reducible exact bF.new _ _ _
      |with_reducible exact(((alV (T.alloc _)).far (by first|(simp;done)|(simp at Z ⊢;omega)) _).far (by first|(simp;done)|(simp at Z ⊢;omega)) _).far (by first|(simp;done)|(simp at Z ⊢;omega)) _
      |with_reducible exact(((alV T).far (by first|(simp;done)|(simp at Z ⊢;omega)) _).far (by first|(simp;done)|(simp at Z ⊢;omega)) _).far (by first|(simp;done)|(simp at Z ⊢;omega)) _
      |with_reducible exact(((bF.new _ _ _).far (by first|(simp;done)|(simp at Z ⊢;omega)) _).far (by first|(simp;done)|(simp at Z ⊢;omega)) _).far (by first|(simp;done)|(simp at Z ⊢;omega)) _
      |with_reducible exact(((alV zl).far (by first|(simp;done)|(simp at Z ⊢;omega)) _).far (by first|(simp;done)|(simp at Z ⊢;omega)) _).far (by first|(simp;done)|(simp at Z ⊢;omega)) _
     ·first
      |with_reducible exact(bF.new _ _ _).alloc _
      |with_reducible exact bF.new1 _ _ _ _
      |with_reducible exact bF.new _ _ _
      |with_reducible exact aip (((bF.new _ _ _).far (by first|(simp;done)|(simp at Z ⊢;omega)) _).far (by first|(simp;done)|(simp at Z ⊢;omega)) _)
      |with_reducible exact aip ((zl.far (by first|(simp;done)|(simp at Z ⊢;omega)) _).far (by first|(simp;done)|(simp at Z ⊢;omega)) _)
      |with_reducible exact aip (T.alloc _)
      |with_reducible exact aip ((T.far (by first|(simp;done)|(simp at Z ⊢;omega)) _).far (by first|(simp;done)|(simp at Z ⊢;omega)) _)
   case rest=>
    obtain⟨zk,qh,B5,n5,b5,g5,c5,rfl,rfl,rfl,qF,I,zK,zL,zM,apB⟩:=hcut;have zY:Hid (∀i,i<wr.heap.size→i≠qh):=ay (fun i hi=>by have:Y.heap.size=wr.heap.size+1:=(by rw[zj.out];simp);omega);obtain⟨y0,y1⟩:=EG qF;have qG:u.heap.size≤wr:=by have:=qr.lt;have:=C.out;omega
    have qH:Y.heap.size=wr+1:=by rw[zj];simp
    have z:aP wr wc:=HBX.trans (zM.mono aj);obtain⟨ms,zN,zO,zm⟩:=zc.keep z;have HO2:=ay (ze.keep z)
    have qI:∀i,In B i→i<wr:=by
     obtain⟨ms0,k1,-,-⟩:=zc;exact fun i hi=>(k1.dN hi).2
    have p:∀i,In B2 i→i<wr:=fun i hi=>(ze.dN hi).2
    have V:=aJ wc (aS #[R.1.k,aG B5 n5 b5] 257);obtain⟨W5,qy⟩:∃W5:aK,W5=wc.alloc (aS #[R.1.k,aG B5 n5 b5] 257):=⟨_,rfl⟩;have P:=bF.new wc 257 #[R.1.k,aG B5 n5 b5];rw[←qy]at V P;have zP:W5.heap.size=wc+1:=by rw[qy];simp
    have y:=zN.keep V;have qJ:∀i,(h:i<ms.length)→ms[i].k=(((G.map (fun x:jL × aO=>x.1)).take j).getD i ⟨0,[]⟩).k∧OwnB W5 u ms[i].A ms[i].n ms[i].c (((G.map (fun x:jL × aO=>x.1)).take j).getD i ⟨0,[]⟩).b:=fun i h=>⟨(zm i h).1,(zm i h).2.keep V⟩
    have zQ:OwnB W5 u B5 n5 b5 R.1.b:=(zK.lower aj).keep V;have zn:wr.heap.size≤wc:=z.size;have zZ:=ay P;have qK:u.heap.size≤W5:=aj
    obtain⟨xa,qL,qa,qM⟩:=jH (fun(A':dK) (cap:Nat) (O:aK) (o':dX cdR O u A' (j+1) cap (ms++ [⟨R.1.k,B5,n5,b5⟩])) hc=>akh (x:=R.1) y zO qJ rfl zQ o' hc) (I.keep V) (zL.keep V) (HO2.keep V);have zo:aP wr W5:=z.trans (V.mono zn);obtain⟨xc,qe⟩:=aV (qr.keep zo) (And.intro qG (And.intro qH (And.intro zn zP)));change Hid _ at qI p qy y qK zo;clear qF I zK zL zM z zN zO zm V P zP qJ zQ zn qG qH;go_upto_region 14 with(at_builtin;rw[←qy];refine BA cdR (v:=⟨R.1.k,B5,n5,b5⟩) rfl _ _ rfl rfl y rfl zZ.out (by show(j+1)*32≤_;have:=HN.vI;omega) qK (by have:=HN.vI;omega) ?_;intro B6 b6 w6 o6 qz qk hl6)
    have qN:=xa.out _ _ _ o6 qk;have I:=qL.dH qk (y.I7 qL bn)
    have qO:=qM.dH qk (fun i hi k=>by
     obtain⟨p1,hp1,rfl⟩:=hi;obtain⟨p2,hp2,e⟩:=k;exact EZ qM.row y.row bn p1.block (by rw[hp1];rfl) (by rw[hp2];simp[Value.ownBlock,e]))
    have zR:Jr w6 Y W H (W*H) g5 c5 R.2:=⟨qa.wd,qa.ht,qa.size,qa.may,qa.own.dH qk (fun q hq k=>by have:=(qa.own.row.lt q.block (by rw[hq];rfl)).1;have:=qI _ k;have:=qe.out;omega)⟩;have qP:=xc.below qz (by have:=C.out;omega);have V:=aJ w6 (dA W H g5 (W*H) c5);obtain⟨W6,ql⟩:∃W6:aK,W6=w6.alloc (dA W H g5 (W*H) c5):=⟨_,rfl⟩;have P:=bF.new w6 90 #[W,H,aG g5 (W*H) c5];rw[←ql]at V;have P:bF W6 w6 90 #[W,H,aG g5 (W*H) c5]:=by rw[ql];exact P
    have qQ:W5.heap.size≤w6:=qz.size;have zS:W6.heap.size=w6+1:=by rw[ql];simp
    have qR:Below u W5 W6:=qz.trans (V.mono (by have:=qe.out;omega));obtain⟨z0,z1,z2⟩:=mD I;obtain⟨xd,zt,zT,qf,xe,zu,HW6,xf⟩:=GI (qN.keep V) (I.keep V) (qO.keep V) (zR.keep V) (qP.keep V) P ql qR;have qS:u.heap.size≤W6:=by have:=qe.out;omega
    obtain⟨xg,HS6⟩:=aV qS (And.intro qQ zS);clear qN I qO zR qP V ql P qQ zS qR qS o6 qz qk hl6;go_upto_region 15 with(at_builtin;first|rw[←HW6]|skip;refine BA frR (v:=⟨W,H,some (aH g5 0),W*H,c5⟩) rfl _ _ rfl rfl zT rfl zu (by show(j+1)*40≤_;have:=HN.vI;omega) xg (by have:=HN.vI;omega) ?_;intro B7 b7 w7 o7 zq qA hl7)
    have qT:=xd.aiq zT qA bn bn;obtain⟨z3,z4,z5⟩:=mD (zt.dH qA (fun k=>zY _ (p _ k) rfl));have F:=xe.below zq (by have:=C.out;omega);have s:Jr w7 Y W H (W*H) g5 c5 R.2:=⟨qf.wd,qf.ht,qf.size,qf.may,qf.own.dH qA (fun q hq k=>by have:=(qf.own.row.lt q.block (by rw[hq];rfl)).1;have:=p _ k;have:=qe.out;omega)⟩
    have qm:bQ (fun i=>i=E) w7 (((w7.setCell ⟨E,0,none⟩ W).setCell ⟨E,1,none⟩ H).setCell ⟨E,2,none⟩ (aG g5 (W*H) c5)):=by
     refine bQ.setCell (bQ.setCell (bQ.setCell (bQ.refl _ _) ?_ _) ?_ _) ?_ _<;>exact fun _=>rfl
    have qs:=qT.dH qm (fun i hi=>by have:=C.out;omega);have qU:=o7.dH qm (fun i hi k=>by have:=(o7.dN hi).1;have:=C.out;omega);have zU:Jr _ Y W H (W*H) g5 c5 R.2:=⟨s.wd,s.ht,s.size,s.may,s.own.dH qm (fun q hq k=>by have:=(s.own.row.lt q.block (by rw[hq];rfl)).1;have:=qe.out;have:=C.out;omega)⟩;have qV:=aip (a:=aB W) (b:=aB H) (c:=aG g5 (W*H) c5) F;have qW:Below u W5 w7:=xf.trans zq;have m:aP W1 w7:=(M.trans (zo.mono M.size)).trans (qW.mono (by have:=C.out;have:=f.out;omega));have qv:=eH m qm m.size (fun i hi=>by have:=f.out;omega);obtain⟨p3,p4,p5⟩:=mD F;have f3:=F.frozen 0;have f4:=F.frozen 1;have f5:=F.frozen 2
    have qo:j<G.length:=by rw[←hG];unfold BR;rw[JU];·rw[HL];exact zf
                           ·rw[HL,zw]
    have zV:(G.map (fun x:jL × aO=>x.1)).take j++ [R.1]=(G.map (fun x:jL × aO=>x.1)).take (j+1):=by
     rw[BH (by simpa using qo),uN,←HR,dG,fP qo];rfl
    rw[zV]at qs;have zW:(G.getD (j+1-1) (⟨0,[]⟩,[])).2=R.2:=by rw[Nat.add_sub_cancel,HR]
    have xh:=ay (And.intro qs (And.intro qU (And.intro qV (And.intro zU (And.intro qv zW)))));clear qT s qm qs qU zU qV qW m qv qo zV zW F o7 zq qA hl7;go_wp2_with fail;go_roundg(gk-1)
    case measure=>omega
    case rel=>
     obtain⟨e1,e2,e3,e4,e5,e6⟩:=xh;refine⟨j+1,B6,b6,B7,b7,_,W,H,W*H,c5,some (aH g5 0),aj,fA,rfl,rfl,e1,e2,e3,ay (fun _=>⟨rfl,rfl,by rw[e6];exact e4.fr,?_⟩),e5⟩;rintro i ⟨q,hq,rfl⟩;have:=(e4.own.row.lt q.block (by rw[hq];rfl)).1;have:=qe.out;omega
  ·obtain rfl:j=n:=aj
   have qt:=zc.lower (b:=w.heap.size) (by have:=za.out;have:=f.out;have:=C.out;omega);have qX:=ze.lower (b:=w.heap.size) (by have:=za.out;have:=f.out;have:=C.out;omega)
   have qo:G.length=j:=by rw[←hG];unfold BR;rw[JU];·exact HL
                          ·rw[HL,zw]
   rw[wO (by simp[qo])]at qt;obtain⟨xi,xj⟩:=aV qt qX;clear qt qX;go_wp2_with fail;go_ret3;exact⟨B,b,B2,b2,fm,rfl,xi,xj,HB.trans (M.mono (by have:=za.out;omega))⟩
end
section
variable{cu fi go ra ro:Int}{base c cap d hi i j lo n qn qx r:Nat}{A B:Option Addr}{v:Value}{w w':World}
def fG.g(P:fG)(n:Nat):Nat × Nat:=P.gs.getD n (0,0)
def fG.frs(P:fG)(n:Nat):List aO:=(P.fs.drop (P.g n).1).take (P.g n).2
def fG.cps(P:fG)(n:Nat):aO:=(P.caps.drop (P.g n).1).take (P.g n).2
def kK(C:Ei)(P:fG)(n:Nat):gQ:=⟨n,(P.g n).1,(P.g n).2,(BR P.W P.H C.re.toNat C.qn.toNat C.qx.toNat (P.frs n) (P.cps n)).map (·.1)⟩
def fF(C:Ei)(P:fG)(n:Nat):List gQ:=(List.range n).map (kK C P)
def uU(g:List (Nat × Nat)):Nat→Nat
 |0=>0
 |n+1=>uU g n+(g.getD n (0,0)).2
theorem JV(x:Nat × Nat)(g:List (Nat × Nat)):∀n,uU (x::g) (n+1)=x.2+uU g n
 |0=>by simp[uU]
 |n+1=>by rw[uU,JV x g n,uU];simp;omega
theorem EK:∀{g:List (Nat × Nat)} {a n:Nat},vw a g n→(∀i,i<g.length→(g.getD i (0,0)).1=a+uU g i)∧a+uU g g=n
 | [],a,n,h=>⟨fun i Z=>absurd Z bK,h⟩
 |x::g,a,n,h=>by
  obtain⟨Y,X⟩:=EK h.2.2;refine⟨fun i Z=>?_,?_⟩
  ·cases i with
   |zero=>simpa[uU]using h.1
   |succ i=>
    rw[JV];have:=Y i (by simpa using Z);simp only[rO];omega
  ·rw[xQ,JV]
   omega
theorem XO(g:List (Nat × Nat)){a b:Nat}(h:a≤b):uU g a≤uU g b:=by
 induction h with
 |refl=>exact bC _
 |step h Z=>exact dD Z (iF _ _)
structure yj(C:Ei)(ks:List gQ)(g:List Int):Prop where
 n:1≤ks.length∧ks.length≤16
 good:∀k∈ks,k.good
 num:∀i,i<ks.length→(dJ ks i).num=i∧(dJ ks i).first=gY ks i∧(dJ ks i).count=(dJ ks i).CP.length
 tot:gY ks ks.length≤16
 fills:iY C.ra C.ro 0 C.fi (jq ks ks.length)= .ok g
 cost:∀k∈ks,∀c∈k.CP,c.cost≤16384
 fill:∀i,Aq g i≤16384
theorem BD{α:Type}(l:List α){a b:Nat}(h:a+b≤l):((l.drop a).take b)=b:=Ht
theorem Rj{α:Type}(l:List α){a b i:Nat}(d:α)(h:i<b)(hl:a+b≤l):((l.drop a).take b)[i]'(by rw[BD l hl];exact h)=l.getD (a+i) d:=Ht
section
variable{C:Ei}{P:fG}
theorem fG.ok.at_(h:P.ok)(Z:n<P.gs):(P.g n).1=uU P.gs n∧1≤(P.g n).2∧(P.g n).1+(P.g n).2≤P.fs.length:=by
 have Y:=(wS h.row).2 (P.g n) (by unfold fG.g;rw[dG,fP Z];exact lS _);have:=(EK h.row).1 n Z;unfold fG.g at*;omega
theorem fG.ok.Ws(h:P.ok):1≤P.gs.length∧P.gs.length≤16:=by
 have X:=wS h.row;have Y:=(EK h.row).2;have W:=h.n;refine⟨?_,aj⟩;rcases D8 P.gs with Z|Z
 ·rw[Z]at Y;simp[uU]at Y;omega
 ·exact Z
structure adu(C:Ei)(P:fG)(n:Nat):Prop where
 good:(kK C P n).good
 len:(kK C P n).CP.length=(P.g n).2
 cost:∀i,i<(P.g n).2→(((kK C P n).CP.getD i ⟨0,[]⟩).cost:Int)≤P.caps.getD ((P.g n).1+i) 0
theorem tK(hc:C.may=true)(h:P.ok){n:Nat}(hn:n<P.gs):adu C P n:=by
 have hm:=tu hc;obtain⟨g1,g2,g3⟩:=h.at_ hn;have hg:=h.Ws;have hfl:(P.frs n).length=(P.g n).2:=BD _ g3;have hcl:(P.cps n).length=(P.g n).2:=BD _ (by rw[h.caps];exact g3);obtain⟨f0,hf0⟩:∃f,f∈P.fs:=⟨P.fs[0]'(by have:=h.n;omega),lS _⟩;obtain⟨-,-,⟨a,ha,-,ha4⟩,⟨b,hb,-,hb4⟩⟩:=FZ (h.may f0 hf0)
 obtain⟨k1,k2,k3,k4⟩:=Jg (W:=P.W) (H:=P.H) (r:=C.re.toNat) (qn:=C.qn.toNat) (qx:=C.qx.toNat) aj aj aj aj (P.frs n) (P.cps n) true [] aj
  (fun f hf=>(TQ (h.may f (gZ (D7 hf)))).1) (fun c hc=>(h.alP c (gZ (D7 hc))).1) (fun e=>by cases e)
 have hlen:(kK C P n).CP.length=(P.g n).2:=by
  unfold kK BR;rw[fJ];exact k1.trans hfl
 have hat:∀i (hi:i<(P.g n).2),(kK C P n).CP.getD i ⟨0,[]⟩=((kC P.W P.H C.re.toNat C.qn.toNat C.qx.toNat true [] (P.frs n) (P.cps n))[i]' aj).1:=by
  intro i hi;rw[dG,fP aj];show(((kC P.W P.H C.re.toNat C.qn.toNat C.qx.toNat true [] (P.frs n) (P.cps n)).map (·.1))[i]'(by rw[fJ];omega))=_;rw[uN]
 refine⟨⟨by show n<16;omega,by show(P.g n).1<16;have:=h.n;omega,by show 1≤(P.g n).2∧(P.g n).2≤16;have:=h.n;omega,hlen,?_,?_⟩,hlen,?_⟩
 ·intro c hc
  obtain⟨x,hx,rfl⟩:=FH.1 hc;exact(k2 x hx).1
 ·grind
 ·intro i hi
  rw[hat i hi];have:=k3 i aj aj;unfold fG.cps at this;rw[Rj _ 0 hi (by rw[h.caps];exact g3)]at this;exact this
theorem Bo(C:Ei)(P:fG)(n:Nat):(fF C P n)=n:=by simp[fF]
theorem LM(hi:i<n):dJ (fF C P n) i=kK C P i:=by
 unfold dJ fF;rw[dG,fP (by simpa using hi)];simp
theorem Ce(Z:C.may=true)(h:P.ok):∀n,n≤P.gs.length→gY (fF C P P.gs) n=uU P.gs n
 |0,_=>rfl
 |n+1,Y=>by
  rw[gY,uU,Ce Z h n aj,LM aj,(tK Z h aj).len];rfl
theorem O4(hc:C.may=true)(h:P.ok):∀n,n≤P.gs.length→∀k (hk:k<(jq (fF C P P.gs) n).length),(jq (fF C P P.gs) n)[k]≤P.caps.getD k 0∧0≤(jq (fF C P P.gs) n)[k]
 |0,_,k,hk=>absurd hk (by simp[jq])
 |n+1,hn,k,hk=>by
  have hl:=yg (fF C P P.gs) n;rw[Ce hc h n aj]at hl;have hg:=tK hc h (n:=n) aj;have e1:=(h.at_ (n:=n) aj).1;simp only[jq,LM (C:=C) (P:=P) (aj:n<P.gs.length)]at hk ⊢
  by_cases hkk:k<(jq (fF C P P.gs) n).length
  ·rw[jJ hkk]
   exact O4 hc h n aj k hkk
  ·rw[kM aj,uN]
   have hb:k-(jq (fF C P P.gs) n).length<(kK C P n).CP.length:=Ht
   have:=hg.cost (k-(jq (fF C P P.gs) n)) (by rw[←hg.len];exact hb);rw[dG,fP hb,show(P.g n).1+(k-(jq (fF C P P.gs) n))=k by omega]at this;exact⟨this,aj⟩
def uF(C:Ei)(P:fG):aO:=match iY C.ra C.ro 0 C.fi (jq (fF C P P.gs.length) P.gs.length)with| .ok g=>g| .error _=>[]
def rX(C:Ei)(P:fG):aO:=Fq C P.W P.H (fF C P P.gs.length) (uF C P)
theorem XP{W H:Nat}{fs:List aO}(hc:C.may=true)(hn:1≤fs.length∧fs.length≤16)(hf:∀f∈fs,GK W H f=true)(hP:P=EH C W H fs):yj C (fF C P P.gs) (uF C P):=by
 have hm:=tu hc;have h:P.ok:=by rw[hP];exact Ny hc hn hf
 have hg:=h.Ws
 have htot:gY (fF C P P.gs) P.gs=P.fs:=by
  rw[Ce hc h _ (bC _)];have:=(EK h.row).2;omega
 have hsz:=O4 hc h _ (bC P.gs);have hsl:(jq (fF C P P.gs) P.gs).length=P.caps:=by rw[yg,htot,h.caps]
 have amY:∃T S l,P.caps=nD T S C.ra C.ro C.fi l:=by rw[hP];exact⟨_,_,_,rfl⟩
 obtain⟨T,S,l,hcl⟩:=amY
 have hfit:∃g,iY C.ra C.ro 0 C.fi (jq (fF C P P.gs) P.gs)= .ok g:=by
  refine Xr (T:=T) (S:=S) (l:=l) aj aj aj aj ?_ ?_
  ·rw[hsl,hcl,wE]
  ·grind
 obtain⟨g,hgf⟩:=hfit;have hfo:uF C P=g:=by unfold uF;rw[hgf]
 have hmem:∀k∈fF C P P.gs,∃n,n<P.gs.length∧k=kK C P n:=by
  intro k hk;obtain⟨n,hn,rfl⟩:=FH.1 hk;exact⟨n,yH.1 hn,rfl⟩
 rw[hfo];refine⟨by rw[Bo];exact hg,?_,?_,?_,?_,?_,?_⟩
 ·intro k hk
  obtain⟨n,hn,rfl⟩:=hmem k hk;exact(tK hc h hn).good
 ·intro i hi
  rw[Bo]at hi;rw[LM hi,Ce hc h i aj];exact⟨rfl,(h.at_ hi).1,(tK hc h hi).len.symm⟩
 ·rw[Bo,htot]
  exact h.n.2
 ·rw[Bo];exact hgf
 ·intro k hk c hcc
  obtain⟨n,hn,rfl⟩:=hmem k hk;obtain⟨i,hi,rfl⟩:=jA.1 hcc;have hG:=tK hc h hn;have:=hG.cost i (by rw[←hG.len];exact hi);rw[dG,fP hi]at this;have hi':(P.g n).1+i<P.caps:=by have:=(h.at_ hn).2.2;have:=hG.len;have:=h.caps;omega
  have h8:=(h.alP (P.caps.getD ((P.g n).1+i) 0) (by rw[dG,fP hi'];exact lS _)).2;have e:((kK C P n).CP[i].cost:Int)≤16384:=Int.le_trans this h8;omega
 ·intro i
  unfold Aq
  by_cases hi:i<g
  ·have:=YE hgf (fun v hv=>by obtain⟨k,hk,rfl⟩:=jA.1 hv;exact(hsz k hk).2) aj aj i hi
   rw[dG,fP hi];show(g[i]).toNat≤_;omega
  ·grind
end
theorem adv{b o:Nat}{I J:Int}(T:n≤c)(U:i≤j)(S:j≤n)(hi:i<c)(X:I=i)(W:J=j):
  (∀Z,(Instr.slice 85 (aG (some (aH b o)) n c) (some (aB I)) (some (aB J)) none).run prog Z= .ok (aG (some (aH b (o+i*3))) (j-i) (c-i)) Z)∧
  ∀Z,(Instr.sliceAt 85 (aG (some (aH b o)) n c) (some (aB I)) (some (aB J)) none).run prog Z= .ok (aG (some (aH b (o+i*3))) (j-i) (c-i)) Z:=by
 subst X W
 have Y:∀Z,(Instr.slice 85 (aG (some (aH b o)) n c) (some (aB (i:Int))) (some (aB (j:Int))) none).run prog Z= .ok (aG (some (aH b (o+i*3))) (j-i) (c-i)) Z:=fun Z=>by
  rw[run_slice_lh (P:=prog) (w:=Z) (t:=85) (a:=some (aH b o)) (len:=n) (cap:=c) (ht:=aW) (kl:=.i64) (kh:=.i64) (l:=i) (h:=j) (h0:=aj) (h1:=aj) (h2:=aj)];have V:(sizeOf (prog.elem 85)).run prog Z= .ok 3 Z:=aW
  rw[V];show Result.ok (sliced _ _ _ _ _) _=_;unfold sliced;rw[au jy];simp[Addr.add]
 refine⟨Y,fun Z=>?_⟩;rw[ng (P:=prog) (w:=Z) 85 _ _ _ _ aW];exact Y Z
theorem adw{b o:Nat}{I J:Int}(T:n≤c)(U:i≤j)(S:j≤n)(hi:i<c)(X:I=i)(W:J=j):
  (∀Z,(Instr.slice 34 (aG (some (aH b o)) n c) (some (aB I)) (some (aB J)) none).run prog Z= .ok (aG (some (aH b (o+i))) (j-i) (c-i)) Z)∧
  ∀Z,(Instr.sliceAt 34 (aG (some (aH b o)) n c) (some (aB I)) (some (aB J)) none).run prog Z= .ok (aG (some (aH b (o+i))) (j-i) (c-i)) Z:=by
 subst X W
 have Y:∀Z,(Instr.slice 34 (aG (some (aH b o)) n c) (some (aB (i:Int))) (some (aB (j:Int))) none).run prog Z= .ok (aG (some (aH b (o+i))) (j-i) (c-i)) Z:=fun Z=>by
  rw[run_slice_lh (P:=prog) (w:=Z) (t:=34) (a:=some (aH b o)) (len:=n) (cap:=c) (ht:=aW) (kl:=.i64) (kh:=.i64) (l:=i) (h:=j) (h0:=aj) (h1:=aj) (h2:=aj)];have V:(sizeOf (prog.elem 34)).run prog Z= .ok 1 Z:=aW
  rw[V];show Result.ok (sliced _ _ _ _ _) _=_;unfold sliced;rw[au jy];simp[Addr.add]
 refine⟨Y,fun Z=>?_⟩;rw[ng (P:=prog) (w:=Z) 34 _ _ _ _ aW];exact Y Z
theorem chunk_ok{P:fG}(qH:jo qn qx r cu go ra ro fi=true)(hP:P.ok)(qq:i<P.gs)(w:aK)(h:Bv w lo hi v P):
  Calls prog 103 #[.agg (jC qn qx r cu go ra ro fi),v,i] w fun e N=>∃B b B2 b2 fm,e=bM (eP #[.agg (CQ i (P.g i).1 (P.g i).2 B (P.g i).2 b),.slice B2 (P.g i).2 b2,iI])∧ML N w B (P.g i).2 b (kK ⟨qn,qx,r,cu,go,ra,ro,fi⟩ P i).CP∧dX frR N w B2 (P.g i).2 b2 fm∧aP w N:=by
 obtain⟨A,n,c,G,m,d,D,e,rfl,⟨hn,qr,qs⟩,u,⟨t,-⟩,T,-⟩:=h;obtain⟨-,qt,q⟩:=hP.at_ qq;have hm:P.gs=m:=t.len;have qI:=hP.n;have qU:m≤16:=by have:=hP.Ws;omega
 obtain⟨gb,gd,rfl,gc⟩:=t.at_ (i:=i) aj;have g0:=gc 0 _ rfl;have g1:=gc 1 _ rfl;simp only[Py,dW]at g0 g1;have qu:P.gs[i]=P.g i:=by unfold fG.g;rw[dG,fP qq];rfl
 rw[qu]at g0 g1;obtain⟨fb,fo,hA,qM⟩:=u.at_;obtain⟨rfl,-,-⟩:=hA aj;obtain⟨db,dd,rfl,-⟩:=T.at_ (i:=0) aj;have qv:=u.sub (P.g i).1 (P.g i).2 q;have qw:=T.cut (lo:=(P.g i).1) (m:=(P.g i).2) aj;have qy:=BD _ q;have qz:∀v∈(P.caps.drop (P.g i).1).take (P.g i).2,8≤v:=fun v hv=>(hP.alP v (gZ (D7 hv))).1
 have qA:=ay (fun N (hw:aP w N)=>adt (c:=c-(P.g i).1) (d:=e-(P.g i).1) qH rfl qy ⟨qt,aj⟩ qz N (qv.keep hw) (qw.keep hw));have qB:(kK ⟨qn,qx,r,cu,go,ra,ro,fi⟩ P i).CP=(BR P.W P.H r qn qx ((P.fs.drop (P.g i).1).take (P.g i).2) ((P.caps.drop (P.g i).1).take (P.g i).2)).map (·.1):=rfl;rw[qB];change Hid _ at qB;generalize(BR P.W P.H r qn qx ((P.fs.drop (P.g i).1).take (P.g i).2) ((P.caps.drop (P.g i).1).take (P.g i).2)).map (·.1)=CD at*;obtain⟨qN,qJ⟩:=adv (b:=fb) (o:=fo) (n:=n) (c:=c) (i:=(P.g i).1) (j:=(P.g i).1+(P.g i).2) (I:=(P.g i).1) (J:=((P.g i).1:Int)+(P.g i).2) qr aj aj aj rfl aj;obtain⟨qO,qK⟩:=adw (b:=db) (o:=dd) (n:=n) (c:=e) (i:=(P.g i).1) (j:=(P.g i).1+(P.g i).2) (I:=(P.g i).1) (J:=((P.g i).1:Int)+(P.g i).2) qs aj aj aj rfl aj;rw[Nat.add_sub_cancel_left]at qN qJ qO qK;have qV:(i:Int)<(m:Int):=aj
 have qW:(P.g i).1≤16∧(P.g i).2≤16:=aj
 clear qv qw qy qz hA qM t T u q qt hP qu hn qr qs qI hm gc;generalize(P.g i).1=s at*;generalize(P.g i).2=M at*;have qP:IntKind.i64.wrap ((s:Int)+(M:Int))=(s:Int)+(M:Int):=iE _ aj;obtain⟨PV,p⟩:∃PV:Array cO,PV=#[aB P.W,aB P.H,aG (some (aH fb fo)) n c,aG (some (aH gb gd)) m d,aG (some (aH db dd)) n e]:=⟨_,rfl⟩;have K:=gU w (aS (jC qn qx r cu go ra ro fi) 23) (aS PV 93);have X:=(bF.new w 23 (jC qn qx r cu go ra ro fi)).alloc (aS PV 93);have L:=bF.new1 w (aS (jC qn qx r cu go ra ro fi) 23) 93 PV;obtain⟨W2,F⟩:∃W2:aK,W2=(w.alloc (aS (jC qn qx r cu go ra ro fi) 23)).alloc (aS PV 93):=⟨_,rfl⟩;have s2:W2.heap.size=w+2:=by rw[F];simp
 rw[←F]at K X L;have S:=K.alloc K.size (aS (CQ 0 0 0 none 0 0) 192);have X:=X.alloc (aS (CQ 0 0 0 none 0 0) 192);have L:=L.alloc (aS (CQ 0 0 0 none 0 0) 192);have V:=bF.new W2 192 (CQ 0 0 0 none 0 0);obtain⟨U,E⟩:∃U:aK,U=W2.alloc (aS (CQ 0 0 0 none 0 0) 192):=⟨_,rfl⟩;have s3:U.heap.size=w+3:=by rw[E];simp;omega
 rw[←E]at S X L V;rw[s2]at V;have qC:Hid (U=((w.alloc (aS (jC qn qx r cu go ra ro fi) 23)).alloc (aS #[P.W,P.H,aG (some (aH fb fo)) n c,aG (some (aH gb gd)) m d,aG (some (aH db dd)) n e] 93)).alloc (aS (CQ 0 0 0 none 0 0) 192)):=ay (by rw[E,F,p]);rw[p]at L;obtain⟨-,-,p2,p3,p4⟩:=L.s5;have g0:=aC g0 S;have g1:=aC g1 S;obtain⟨qD,l⟩:=aV X V;change Hid _ at L S s3;clear X V K s2 F E p;go_enter func103,ntmps103;go_upto_region 3 with(fail)
 change Code.wp _ _ _ _ (((w.alloc (aS (jC qn qx r cu go ra ro fi) 23)).alloc (aS #[P.W,P.H,aG (some (aH fb fo)) n c,aG (some (aH gb gd)) m d,aG (some (aH db dd)) n e] 93)).alloc (aS (CQ 0 0 0 none 0 0) 192));rw[←qC];clear qC;go_upto_region 4 with(fail)
 obtain⟨Y,Q⟩:∃Y:aK,Y=U.alloc (aS #[s,M] 189):=⟨_,rfl⟩;have R:aP U Y:=by rw[Q];exact aJ U _
 have s4:Y.heap.size=w+4:=by have:=s3.out;rw[Q];simp;omega
 have X3:bF Y U 189 #[s,M]:=by rw[Q];exact bF.new U _ _
 change Code.wp _ _ _ _ (U.alloc (aS #[s,M] 189));rw[←Q];clear Q;have X:=qD.out.keep R;obtain⟨c0,c1,c2,c3,c4,c5,c6,c7⟩:=X.s8;have p2:=aC p2 R;have p4:=aC p4 R;have r0:=X3.c0;have r1:=X3.c1;have O:aP w Y:=S.trans (R.mono S.size);obtain⟨qL,qE⟩:=aV (qA Y.drew O.drew) O.drew;have qQ:Hid (Y.drew.heap.size=w+4):=ay s4;obtain⟨l,qX⟩:=aV (fun N (hw:Below Y.drew Y.drew N)=>(l.keep R).keep ((aU Y Y).drew.trans hw)) (fun N (hw:Below Y.drew Y.drew N)=>X3.keep ((aU Y Y).drew.trans hw));clear X X3 R s4 O p3 g0 g1 qA qD L;have k:aN Y.drew w 0 (aB qn):=c0;have f:aN Y.drew w 1 (aB qx):=c1;have qa:aN Y.drew w 2 (aB r):=c2;have qe:aN Y.drew w 3 (aB cu):=c3;have qf:aN Y.drew w 4 (aB go):=c4;have qg:aN Y.drew w 5 (aB ra):=c5;have qh:aN Y.drew w 6 (aB ro):=c6;have qi:aN Y.drew w 7 (aB fi):=c7;have qj:aN Y.drew (w.heap.size+1) 2 (aG (some (aH fb fo)) n c):=p2;have qk:aN Y.drew (w.heap.size+1) 4 (aG (some (aH db dd)) n e):=p4;have C:aN Y.drew U 0 (aB s):=r0;have z:aN Y.drew U 1 (aB M):=r1
 go_region_held3(fun W=>aN W w 0 (aB qn)∧aN W w 1 (aB qx)∧aN W w 2 (aB r)∧aN W w 3 (aB cu)∧aN W w 4 (aB go)∧aN W w 5 (aB ra)∧aN W w 6 (aB ro)∧aN W w 7 (aB fi)∧aN W (w.heap.size+1) 2 (aG (some (aH fb fo)) n c)∧aN W (w.heap.size+1) 4 (aG (some (aH db dd)) n e)∧aN W U 0 (aB s)∧aN W U 1 (aB M))
  (first|with_reducible exact⟨k,f,qa,qe,qf,qg,qh,qi,qj,qk,C,z⟩|with_reducible exact⟨c0,c1,c2,c3,c4,c5,c6,c7,p2,p4,r0,r1⟩|with_reducible exact⟨aC k Z,aC f Z,aC qa Z,aC qe Z,aC qf Z,aC qg Z,aC qh Z,aC qi Z,aC qj Z,aC qk Z,aC C Z,aC z Z⟩|fail)
  (first|(go_at_call 152;refine qL.mono ?_;rintro e y ⟨B,b,B2,b2,fm,rfl,qF,ql,Z⟩)|fail)
 have V:=l y Z;have q0:=aC C Z;have q1:=aC z Z;obtain⟨y0,y1,y2,y3⟩:=V.s4;have f0:y.frozen? (aH (w.heap.size+1+1) 0)=false:=V.frozen 0;have f1:y.frozen? (aH (w.heap.size+1+1) 1)=false:=V.frozen 1;have f2:y.frozen? (aH (w.heap.size+1+1) 2)=false:=V.frozen 2;have f3:y.frozen? (aH (w.heap.size+1+1) 3)=false:=V.frozen 3;have x:aP w y:=qE.trans (Z.mono qE.size);obtain⟨wx,qm,⟨z0,z1,z2,z3⟩,qG⟩:=Fv (g:=w.heap.size+1+1) (a:=aB i) (b:=aB s) (c:=aB M) (d:=aG B M b) V x aj;have qo:bQ (fun i=>i=w+1+1) y wx:=by rw[qm];exact(((yD y _ 0 _).trans (yD _ _ 1 _)).trans (yD _ _ 2 _)).trans (yD _ _ 3 _)
 have qR:=qQ.out;obtain⟨qS,qT⟩:=aV ((qF.dH qo (fun i hi=>.inl aj)).lower (b:=w.heap.size) aj) ((ql.dH qo (fun i hi e=>by have:=(ql.dN hi).1;omega)).lower (b:=w.heap.size) aj);change Hid _ at qm qG;clear qF ql qo x V qR c0 c1 c2 c3 c4 c5 c6 c7 p2 p4 r0 r1 k f qa qe qf qg qh qi qj qk C z qP;go_wp2_with fail;rw[←qm];refine aT (by simp[results,results103,go_sem,z0,z1,z2,z3];rfl) rfl ?_;exact⟨B,b,B2,b2,fm,rfl,qS,qT,qG⟩
theorem af9{P:fG}(O:jo qn qx r cu go ra ro fi=true)(hP:P.ok)(u:i<P.gs)(w:aK)(h:Bv w lo hi v P):
  Calls prog 171 #[.agg (jC qn qx r cu go ra ro fi),v,i] w fun e z=>∃B b,e=bM (eP #[.agg (CQ i (P.g i).1 (P.g i).2 B (P.g i).2 b),iI])∧ML z w B (P.g i).2 b (kK ⟨qn,qx,r,cu,go,ra,ro,fi⟩ P i).CP∧aP w z:=by
 have t:=ay (fun z (hw:aP w z)=>chunk_ok O hP u z (h.keep hw));obtain⟨A,n,c,G,m,d,D,e,rfl,-⟩:=h;generalize(kK ⟨qn,qx,r,cu,go,ra,ro,fi⟩ P i).CP=CD at*;generalize(P.g i).1=s at*;generalize(P.g i).2=M at*;obtain⟨C,J⟩:∃C:Array cO,C=#[aB P.W,aB P.H,aG A n c,aG G m d,aG D n e]:=⟨_,rfl⟩;have S:=gU w (aS (jC qn qx r cu go ra ro fi) 23) (aS C 93);have Y:=(bF.new w 23 (jC qn qx r cu go ra ro fi)).alloc (aS C 93);have X:=bF.new1 w (aS (jC qn qx r cu go ra ro fi) 23) 93 C;obtain⟨k,R⟩:=kF ((w.alloc (aS (jC qn qx r cu go ra ro fi) 23)).alloc (aS C 93));have s2:k.heap.size=w+2:=by rw[R];simp
 rw[←R]at S Y X;have V:=S.alloc S.size (aS (CQ 0 0 0 none 0 0) 192);have Y:=Y.alloc (aS (CQ 0 0 0 none 0 0) 192);have X:=X.alloc (aS (CQ 0 0 0 none 0 0) 192);have Z:=bF.new k 192 (CQ 0 0 0 none 0 0);obtain⟨y,Q⟩:=kF (k.alloc (aS (CQ 0 0 0 none 0 0) 192));have s3:y.heap.size=w+3:=by rw[Q];simp;omega
 rw[←Q]at V Y X Z;rw[s2]at Z;have q:Hid (y=((w.alloc (aS (jC qn qx r cu go ra ro fi) 23)).alloc (aS #[P.W,P.H,aG A n c,aG G m d,aG D n e] 93)).alloc (aS (CQ 0 0 0 none 0 0) 192)):=ay (by rw[Q,R,J]);rw[J]at X;obtain⟨p0,p1,p2,p3,p4⟩:=X.s5;obtain⟨c0,c1,c2,c3,c4,c5,c6,c7⟩:=Y.s8;obtain⟨j,f⟩:=aV Z (t y V);change Hid _ at V s3;clear Y X Z S s2 R Q J t u hP O;go_enter func171,ntmps171;go_upto_region 1 with(fail)
 change Code.wp _ _ _ _ (((w.alloc (aS (jC qn qx r cu go ra ro fi) 23)).alloc (aS #[P.W,P.H,aG A n c,aG G m d,aG D n e] 93)).alloc (aS (CQ 0 0 0 none 0 0) 192));rw[←q];clear q;go_upto_region 2 with(go_at_call 103;refine f.mono ?_;rintro e K ⟨B,b,B2,b2,fm,rfl,p,-,I⟩)
 obtain⟨T,U⟩:=kF (K.alloc (aS (CQ i s M B M b) 192));have F:aP y T:=by rw[U];exact I.alloc I.size _
 have N:aP K T:=by rw[U];exact aJ K _
 have x:bF T K 192 (CQ i s M B M b):=by rw[U];exact bF.new K _ _
 change Code.wp _ _ _ _ (K.alloc _);rw[←U];have Z:=j.out.keep F;obtain⟨q0,q1,q2,q3⟩:=x.s4;obtain⟨y0,y1,y2,y3⟩:=Z.s4;have f0:T.frozen? (aH (w.heap.size+1+1) 0)=false:=Z.frozen 0;have f1:T.frozen? (aH (w.heap.size+1+1) 1)=false:=Z.frozen 1;have f2:T.frozen? (aH (w.heap.size+1+1) 2)=false:=Z.frozen 2;have f3:T.frozen? (aH (w.heap.size+1+1) 3)=false:=Z.frozen 3;have L:=V.trans (F.mono V.size);obtain⟨wx,E,⟨z0,z1,z2,z3⟩,o⟩:=Fv (g:=w.heap.size+1+1) (a:=aB i) (b:=aB s) (c:=aB M) (d:=aG B M b) Z L aj;have l:bQ (fun i=>i=w+1+1) T wx:=by rw[E];exact(((yD T _ 0 _).trans (yD _ _ 1 _)).trans (yD _ _ 2 _)).trans (yD _ _ 3 _)
 have qa:=s3.out;obtain⟨qe,qf,qg⟩:=dB (((p.keep N).dH l (fun i hi=>.inl aj)).lower (b:=w.heap.size) aj) E o;clear p l E o L Z x qa I F N U c0 c1 c2 c3 c4 c5 c6 c7 p0 p1 p2 p3 p4;go_wp2;rw[←qf];refine aT (by simp[results,results171,go_sem,z0,z1,z2,z3];rfl) rfl ?_;exact⟨B,b,rfl,qe,qg⟩
structure CkM where
 a:Nat
 b:Nat
 c:Nat
 A:dK
 n:Nat
 d:Nat
def ckR:tJ CkM where
 S:=131
 T:=192
 k:=4
 bytes:=48
 z:=.agg #[aB 0,aB 0,aB 0,bU]
 enc:=fun m=>[aB m.a,aB m.b,aB m.c,aG m.A m.n m.d]
 und:=underlying131
 info:=aW
 zs:=rfl
 pos:=bn
 hk:=fun _=>rfl
 one:=fun a u Z=>by simp at Z;rcases Z with rfl|rfl|rfl|rfl<;>rfl
abbrev MC:gQ:=⟨0,0,0,[]⟩
def abK(w:aK)(base:Nat)(m:CkM)(k:gQ):Prop:=m.a=k.num∧m.b=k.first∧m.c=k.count∧ML w base m.A m.n m.d k.CP
def OB(w:aK)(base:Nat)(A:dK)(n c:Nat)(l:List gQ):Prop:=
 ∃Z:List CkM,dX ckR w base A n c Z∧l.length=n∧∀i,(h:i<Z.length)→abK w base Z[i] (l.getD i MC)
section
variable{w w':aK}{base n c:Nat}{A:dK}{l:List gQ}
theorem abK.dH{S:Nat→Prop}{m:CkM}{k:gQ}(h:abK w base m k)(Z:bQ S w w')(Y:∀i,S i→i<base∨w≤i):abK w' base m k:=⟨h.1,h.2.1,h.2.2.1,h.2.2.2.dH Z Y⟩
theorem OB.dH{S:Nat→Prop}(h:OB w base A n c l)(Y:bQ S w w')(X:∀i,S i→i<base∨w≤i):OB w' base A n c l:=by
 obtain⟨V,W,U,T⟩:=h;exact⟨V,W.dH Y (fun i Z k=>by have:=W.dN Z;have:=X i k;omega),U,fun i Z=>(T i Z).dH Y X⟩
theorem OB.keep(h:OB w base A n c l)(Z:aP w w'):OB w' base A n c l:=h.dH (bQ.of_below (S:=fun _=>False) Z) (fun _ h=>h.elim)
theorem OB.lower(h:OB w base A n c l){b:Nat}(X:b≤base):OB w b A n c l:=by
 obtain⟨W,V,U,Z⟩:=h;exact⟨W,V.lower X,U,fun i Y=>⟨(Z i Y).1,(Z i Y).2.1,(Z i Y).2.2.1,(Z i Y).2.2.2.lower X⟩⟩
theorem OB.nil(w:aK)(base:Nat):OB w base none 0 0 []:=⟨[],dX.nil _ _,rfl,fun i h=>absurd h bK⟩
end
theorem OB.aiq{α:Type}{R:tJ α}{w w':aK}{base n c j m d:Nat}{A B:dK}{l:List gQ}{r:List α}(h:OB w base A n c l)(k:dX R w j B m d r)(W:bQ (In B) w w')(h0:R.T≠192)(U:R.T≠257)(X:R.T≠5):OB w' base A n c l:=by
 obtain⟨S,V,Q,Y⟩:=h;exact⟨S,V.dH W (fun i Z e=>h0 ((k.ty e).one (V.ty Z))),Q,fun i Z=>⟨(Y i Z).1,(Y i Z).2.1,(Y i Z).2.2.1,(Y i Z).2.2.2.aiq k W U X⟩⟩
theorem aex{l:List gQ}{ms:List CkM}{v:CkM}{x:gQ}(h1:dX ckR w base A n c ms)(h2:l.length=n)(Y:∀i,(h:i<ms.length)→abK w base ms[i] (l.getD i MC))
  (X:abK w base v x) (W:dX ckR w' base B (n+1) cap (ms++ [v])) (V:bQ (In A) w w'):OB w' base B (n+1) cap (l++ [x]):=by
 have U:=h1.len;have Z:∀{m:CkM} {k:gQ},abK w base m k→abK w' base m k:=fun h=>⟨h.1,h.2.1,h.2.2.1,h.2.2.2.aiq h1 V bn bn⟩
 refine⟨ms++ [v],W,by simp[h2],fun i T=>?_⟩
 by_cases h:i<ms
 ·rw[jJ h,dG,JD aj,←dG]
  exact Z (Y i h)
 ·obtain rfl:i=ms:=by simp at T;omega
  rw[kM (bC _),dG,ET aj];simp only[tX,tq,h2,U,rY,jV];exact Z X
theorem air{P:fG}(z:jo qn qx r cu go ra ro fi=true)(hP:P.ok)(w:aK)(h:Bv w lo hi v P):
  Calls prog 60 #[.agg (jC qn qx r cu go ra ro fi),v] w fun e f=>∃B b x b2 C,e=bM (eP #[aG B P.gs b,aG x (List.length C) b2,iI])∧OB f w B P.gs b (fF ⟨qn,qx,r,cu,go,ra,ro,fi⟩ P P.gs)∧dX frR f w x C b2 C∧aP w f:=by
 obtain⟨qa,qe⟩:=aV (fun i (t:i<P.gs.length)=>show(P.g i).2≤16 by have:=(hP.at_ t).2.2;have:=hP.n;omega) (fun i (t:i<P.gs.length) f (hw:aP w f)=>chunk_ok z hP t f (h.keep hw));obtain⟨A,n,c,G,m,d,D,e,rfl,-,-,⟨qf,-⟩,-⟩:=h;have hm:=qf.len;have qG:m≤16:=by have:=hP.Ws;omega
 rw[hm]at qe qa ⊢;change Hid _ at hm;clear qf hP z;obtain⟨a,s⟩:∃a:Array cO,a=#[aB P.W,aB P.H,aG A n c,aG G m d,aG D n e]:=⟨_,rfl⟩;have X:=gU w (aS (jC qn qx r cu go ra ro fi) 23) (aS a 93);have Z:=(bF.new w 23 (jC qn qx r cu go ra ro fi)).alloc (aS a 93);have V:=bF.new1 w (aS (jC qn qx r cu go ra ro fi) 23) 93 a;obtain⟨T,J⟩:=kF ((w.alloc (aS (jC qn qx r cu go ra ro fi) 23)).alloc (aS a 93));have s2:T.heap.size=w+2:=by rw[J];simp
 rw[←J]at X Z V;have qg:Hid (T=(w.alloc (aS (jC qn qx r cu go ra ro fi) 23)).alloc (aS #[P.W,P.H,aG A n c,aG G m d,aG D n e] 93)):=ay (by rw[J,s]);rw[s]at V;obtain⟨p0,p1,p2,p3,p4⟩:=V.s5;obtain⟨c0,c1,c2,c3,c4,c5,c6,c7⟩:=Z.s8;obtain⟨qr,qs⟩:=aV Z V;change Hid _ at X s2;clear Z V J s c0 c1 c2 c3 c4 c5 c6 c7 p0 p1 p2 p4;go_enter func60,ntmps60;go_upto_region 3 with(fail)
 change Code.wp _ _ _ _ ((w.alloc (aS (jC qn qx r cu go ra ro fi) 23)).alloc (aS #[P.W,P.H,aG A n c,aG G m d,aG D n e] 93));rw[←qg];clear qg;go_wp2_with fail
 go_loopg [5,7,8,9,10,11,12,16] m (fun kk v5 v7 v8 v9 qJ qK qL qt wr=>∃(j N:Nat) (B:dK) (b:Nat) (x:dK) (b2:Nat) (C:List FrM),j+kk=m∧qt=j∧v7=aG B j b∧v8=aG x N b2∧N≤16*j∧OB wr T B j b (fF ⟨qn,qx,r,cu,go,ra,ro,fi⟩ P j)∧dX frR wr T x N b2 C∧aP T wr)
 case atStart=>exact⟨0,0,none,0,none,0,[],aj,rfl,rfl,rfl,aj,OB.nil _ _,dX.nil _ _,aU _ _⟩
 case round=>
  obtain⟨j,N,B,b,x,b2,C,hj,rfl,rfl,rfl,hN,q,I,Y⟩:=hrel
  by_cases qh:j<m
  ·have qH:(j:Int)<(m:Int):=aj
   have qI:=qa j qh;obtain⟨L,qu,qv⟩:=dB Y q I;have p:=X.trans (Y.mono X.size);obtain⟨qw,qy⟩:=aV p (qe j qh wr p);have V:=qs.keep Y;have Z:=qr.keep Y;obtain⟨p0,p1,p2,p3,p4⟩:=V.s5;obtain⟨c0,c1,c2,c3,c4,c5,c6,c7⟩:=Z.s8;clear Z V p Y q I;go_upto_region 9 with(go_at_call 103;refine qy.mono ?_;rintro e u ⟨R,Q,B6,b6,qM,rfl,qi,qj,o⟩)
   obtain⟨W6,F⟩:=kF (u.alloc (aS (CQ j (P.g j).1 (P.g j).2 R (P.g j).2 Q) 192));have U:aP u W6:=by rw[F];exact aJ u _
   have X6:bF W6 u 192 (CQ j (P.g j).1 (P.g j).2 R (P.g j).2 Q):=by rw[F];exact bF.new u _ _
   change Code.wp _ _ _ _ (u.alloc _);rw[←F];clear F c0 c1 c2 c3 c4 c5 c6 c7 p0 p1 p2 p3 p4;have E:=o.trans (U.mono o.size);obtain⟨ms,m1,m2,m3⟩:=qu.keep E;obtain⟨qk,ql,qz,O,qN⟩:=rG (qv.keep E) (qj.keep U) ((qi.keep U).lower L.size) (L.trans (E.mono L.size)) qw.size;obtain⟨q0,q1,q2,q3⟩:=X6.s4;change Hid _ at m1 m2 m3;clear qj qi E o U X6
   go_wp2_with(first
    |(at_builtin;refine BA ckR (v:=⟨j,(P.g j).1,(P.g j).2,R,(P.g j).2,Q⟩) rfl _ _ rfl rfl (m1.alloc _) rfl (lV _ _) (by show(_+1)*48≤_;omega) (by have:=O.size;simp;omega) aj ?_;intro B7 b7 w7 o7 qm M qA;have l:=ay ((qk.alloc (.cells (CQ j (P.g j).1 (P.g j).2 R (P.g j).2 Q) 192)).dH M (fun i hi e=>absurd (((qk.alloc (.cells (CQ j (P.g j).1 (P.g j).2 R (P.g j).2 Q) 192)).ty hi).one ((m1.alloc (.cells (CQ j (P.g j).1 (P.g j).2 R (P.g j).2 Q) 192)).ty e)) bn));have qB:=ay ((ql.alloc (.cells (CQ j (P.g j).1 (P.g j).2 R (P.g j).2 Q) 192)).dH M (fun i hi e=>absurd (((ql.alloc (.cells (CQ j (P.g j).1 (P.g j).2 R (P.g j).2 Q) 192)).ty hi).one ((m1.alloc (.cells (CQ j (P.g j).1 (P.g j).2 R (P.g j).2 Q) 192)).ty e)) bn)))
    |(at_builtin;refine aaY frR rfl _ _ rfl rfl l rfl qB.ls (by show(_+_)*40≤_;omega) (by have:=O.size;have:=qm.size;simp at*;omega) aj ?_;intro B8 b8 w8 o8 qC k qD)
    |fail)
   have qo:dX ckR (W6.alloc (aS (CQ j (P.g j).1 (P.g j).2 R (P.g j).2 Q) 192)) T B j b ms:=m1.alloc _
   have qq:OB w7 T B7 (j+1) b7 (fF ⟨qn,qx,r,cu,go,ra,ro,fi⟩ P j++ [kK ⟨qn,qx,r,cu,go,ra,ro,fi⟩ P j]):=
    aex qo m2 (fun i hi=>(m3 i hi).dH (bQ.of_below (S:=fun _=>False) (aJ W6 _)) (fun _ h=>h.elim)) ⟨rfl,rfl,rfl,qz.keep (aJ W6 _)⟩ o7 M
   have qE:=ay (qq.aiq l k bn bn bn);have K:aP T w7:=eH (O.alloc O.size (aS (CQ j (P.g j).1 (P.g j).2 R (P.g j).2 Q) 192)) M (by have:=O.size;simp;omega) (fun i hi=>(m1.dN hi).1);have y:aP T w8:=eH K k K.size (fun i hi=>(l.dN hi).1);have qF:Hid (fF ⟨qn,qx,r,cu,go,ra,ro,fi⟩ P (j+1)=fF ⟨qn,qx,r,cu,go,ra,ro,fi⟩ P j++ [kK ⟨qn,qx,r,cu,go,ra,ro,fi⟩ P j]):=ay (by unfold fF;rw[jk,gG];rfl);change Hid _ at y o8;clear K qq qo o7 qm M qA qC k qD q0 q1 q2 q3;go_roundg(gk-1)
   case measure=>omega
   case rel=>exact⟨j+1,N+(P.g j).2,B7,b7,B8,b8,_,aj,fA,rfl,rfl,aj,by rw[qF];exact qE,o8,y⟩
  ·go_wp2_with fail
   obtain rfl:j=m:=aj
   obtain rfl:N=C:=I.len.symm;go_ret3;exact⟨B,b,x,b2,C,rfl,q.lower X.size,I.lower X.size,X.trans (Y.mono X.size)⟩
theorem ais{K:gQ}(W:K.good)(w:aK)(h:ML w base A n d K.CP):Calls prog 219 #[.agg (CQ K.num K.first K.count A n d)] w (Val w (.bool false)):=by
 have Y:=aJ w (aS (CQ K.num K.first K.count A n d) 192);obtain⟨V,X⟩:=aV (ael W _ (h.keep Y)) Y;go_enter func219,ntmps219;go_wp2_with(go_at_call 220;refine V.aQ ?_;rintro U Z);go_ret;exact⟨rfl,X.trans (Z.mono X.size)⟩
abbrev OC:CkM:=⟨0,0,0,none,0,0⟩
theorem OB.fam{l:List gQ}(h:OB w base A n c l):∃b o,∃Z:List CkM,(0<n→A=some (aH b o))∧∀i,i<n→aN w b (o+i*4) (aB (l.getD i MC).num)∧aN w b (o+i*4+1) (aB (l.getD i MC).first)∧
  aN w b (o+i*4+2) (aB (l.getD i MC).count)∧aN w b (o+i*4+3) (.slice (Z.getD i OC).A (Z.getD i OC).n (Z.getD i OC).d)∧ML w base (Z.getD i OC).A (Z.getD i OC).n (Z.getD i OC).d (l.getD i MC).CP:=by
 obtain⟨Z,W,L,S⟩:=h
 by_cases U:0<n
 ·obtain⟨b,o,T,-⟩:=W.ls.at_ U
  refine⟨b,o,Z,fun _=>T,fun i V=>?_⟩;obtain⟨K,J,Y,X⟩:=W.ls.at_ V;rw[T]at Y;injection Y with e
  injection e with R Q
  subst R Q;have I:=W.len;obtain⟨P,O,N,M⟩:=S i aj;have e:Z.getD i OC=Z[i]' aj:=by rw[dG,fP aj];rfl
  rw[e];refine⟨?_,?_,?_,X 3 _ rfl,M⟩
  ·rw[←P];exact X 0 _ rfl
  ·rw[←O];exact X 1 _ rfl
  ·rw[←N];exact X 2 _ rfl
 ·exact⟨0,0,[],fun h=>absurd h U,fun i V=>absurd V aj⟩
theorem Gw(ks:List gQ){a b:Nat}(h:a≤b):gY ks a≤gY ks b:=by
 induction h with
 |refl=>exact bC _
 |step h Z=>exact dD Z (iF _ _)
theorem abL{C:Ei}{ks:List gQ}{g:aO}(N:yj C ks g)(v:ks=n)(w:aK)(h:OB w base A n c ks):Calls prog 154 #[aG A n c] w (Val w iI):=by
 obtain⟨G,P⟩:=N.n;rw[v]at G P;have R:∀i,i<n→(ks.getD i MC).good:=fun i V=>N.good _ (by rw[dG,fP aj];exact lS _)
 have u:Hid (∀i,i<n→(ks.getD i MC).num=i∧(ks.getD i MC).first=gY ks i∧(ks.getD i MC).count+gY ks i=gY ks (i+1)∧gY ks (i+1)≤16):=ay (fun i V=>by
  obtain⟨t,s,r⟩:=N.num i aj;refine⟨t,s,?_,dD (Gw ks (by omega:i+1≤ks.length)) N.tot⟩;show(dJ ks i).count+_=gY ks i+(dJ ks i).CP;rw[r];exact Nat.add_comm _ _)
 obtain⟨b,o,X,p,m⟩:=h.fam;obtain rfl:=p aj
 have M:=ay (fun Z (W:aP w Z) i (V:i<n)=>show aN Z b (o+i*4) (aB (ks.getD i MC).num)∧aN Z b (o+i*4+1) (aB (ks.getD i MC).first)∧aN Z b (o+i*4+2) (aB (ks.getD i MC).count)∧aN Z b (o+i*4+3) (.slice (X.getD i OC).A (X.getD i OC).n (X.getD i OC).d)∧ML Z base (X.getD i OC).A (X.getD i OC).n (X.getD i OC).d (ks.getD i MC).CP by
  obtain⟨L,K,J,I,l⟩:=m i V;exact⟨aC L W,aC K W,aC J W,aC I W,l.keep W⟩)
 have f:=ay (show Calls prog 218 #[aG (some (aH b o)) n c,.func (.func 219) #[] #[]] w (Val w (.bool false)) by
  have h:=Zx (g:=219) (cb:=#[]) (q:=fun _=>false) (E0:=fun i=>aB (ks.getD i MC).num) (E1:=fun i=>aB (ks.getD i MC).first) (E2:=fun i=>aB (ks.getD i MC).count) (E3:=fun i=>.slice (X.getD i OC).A (X.getD i OC).n (X.getD i OC).d) (A:=some (aH b o)) (n:=n) (c:=c) aj w (enters_of func219 aW rfl)
   (fun Z W i V=>by obtain⟨L,K,J,I,-⟩:=M Z W i V;exact⟨b,o,rfl,L,K,J,I⟩)
   (fun i V Z W=>ais (R i V) Z (M Z W i V).2.2.2.2)
  rwa[Lh fun _ _=>rfl]at h)
 go_enter func154,ntmps154;go_wp2_with(go_at_call 218;refine f.aQ ?_;rintro w1 F);have E:=ay F;go_wp2
 go_loopg [3,4,5,16] n (fun k e v4 v5 D wr=>∃j:Nat,j+k=n∧D=j∧e=(gY ks j)∧aP w wr)
 case atStart=>exact⟨0,aj,rfl,rfl,E⟩
 case round=>
  obtain⟨j,hj,rfl,rfl,Y⟩:=hrel
  by_cases Q:j<n
  ·have x:(j:Int)<(n:Int):=aj
   have U:=ay Y;obtain⟨a,y,c2,c3,-⟩:=M _ Y j Q;obtain⟨e0,e1,H,e3⟩:=u j Q;rw[e0]at a;rw[e1]at y;obtain⟨qa,T⟩:=kF (gY ks (j+1));obtain⟨B,S⟩:=kF (gY ks j);rw[←T]at H e3;rw[←S]at H y;rw[←S];obtain⟨O,z⟩:=aV T H;generalize(ks.getD j MC).count=cnt at*;have qe:(cnt:Int)+B≤16:=aj
   go_wp2;go_roundg(gk-1)
   case measure=>omega
   case rel=>exact⟨j+1,aj,fA,by rw[←O,←z];go_num,U.alloc U.size _⟩
  ·go_wp2
   go_ret;exact⟨rfl,Y⟩
end
section
variable{a:Act}{Q:Exit→Act→World→Prop}{cu fi go ra ro:Int}{l:List Int}{H N W base c g m n qn qx r:Nat}{o:Oper}{A:Option Addr}{E:Prop}{t:TypeId}{w:World}
def Sz:tJ yJ where
 S:=247
 T:=252
 k:=4
 bytes:=32
 z:=.agg #[aB 0,aB 0,aB 0,aB 0]
 enc:=fun m=>[aB m.first,aB m.count,aB m.off,aB m.len]
 und:=underlying247
 info:=aW
 zs:=rfl
 pos:=bn
 hk:=fun _=>rfl
 one:=fun a u Z=>by simp at Z;rcases Z with rfl|rfl|rfl|rfl<;>rfl
abbrev amZ:yJ:=⟨0,0,0,0⟩
theorem Gh{a b c d:cO}(X:bF w g t #[a,b,c,d]):aN w g 0 a∧aN w g 1 b∧aN w g 2 c∧aN w g 3 d:=
 ⟨X.at rfl,X.at rfl,X.at rfl,X.at rfl⟩
theorem aga{R:List yJ}(hn:n≤16)(w:aK)(h:Qo Sz w A n R):
  Calls prog 159 #[aG A n c] w (ag8 w (10*n) (wB R n)):=by
 obtain⟨HA,HL⟩:=aV (fun w' (hw:aP w w')=>h.keep hw) h.len;go_enter func159,ntmps159;go_wp2
 go_loopg [3,5,8] n (fun k v3 v5 v8 wr=>∃(j N:Nat) (B:dK) (b:Nat),j+k=n∧v8=j∧v3=aG B N b∧N=10*j∧OwnB wr w B N b (wB R j)∧aP w wr)
 case atStart=>exact⟨0,0,none,0,aj,rfl,rfl,rfl,OwnB.nil _ _ [],aU _ _⟩
 case round=>
  obtain⟨j,N,B,b,hj,rfl,rfl,hN,own,Y⟩:=hrel;subst hN;have T:=ay Y
  by_cases J:j<n
  ·have qj:(j:Int)<(n:Int):=aj
   obtain⟨gb,go,rfl,F⟩:=(HA _ Y).at_ J;have v:=F 0 _ rfl;have u:=F 1 _ rfl;have t:=F 2 _ rfl;have s:=F 3 _ rfl;have D:R[j]'(by rw[HL];exact J)=R.getD j amZ:=by rw[dG,fP (by rw[HL];exact J)];rfl
   rw[D]at v u t s;simp only[Sz,dW]at v u t s;obtain⟨E,d⟩:=kF (R.getD j amZ);rw[←d]at v u t s;have C:wB R (j+1)=wB R j++QS E:=by rw[d];rfl
   obtain⟨qa,a⟩:=aV C own;clear D F d C own Y;obtain⟨Q,P,q,p⟩:=E;dsimp only at*;go_upto_region 5 with(fail)
   obtain⟨K,O⟩:=kF (wr.alloc (aS #[Q,P,q,p] 252));have I:aP wr K:=by rw[O];exact aJ wr _
   have G:bF K wr 252 #[Q,P,q,p]:=by rw[O];exact bF.new wr _ _
   change Code.wp _ _ _ _ (wr.alloc _);rw[←O];obtain⟨d0,d1,d2,d3⟩:=G.s4;have M:=a.out.keep I;obtain⟨H,L⟩:∃H:Obj,H= .cells #[.int .u8 (IntKind.u8.wrap (Q:Int)),.int .u8 (IntKind.u8.wrap (P:Int))] 5:=⟨_,rfl⟩;have U:=aJ K H;have own:=(M.keep U).drew;have S:=(OwnB.built (w:=K) (base:=K.heap.size) (l:=[IntKind.u8.wrap (Q:Int),IntKind.u8.wrap (P:Int)]) (bC _) bK).lb.e;have x:Qo PS (K.alloc (aS #[.int .u8 (IntKind.u8.wrap (Q:Int)),.int .u8 (IntKind.u8.wrap (P:Int))] 5)).drew K 2 [IntKind.u8.wrap (Q:Int),IntKind.u8.wrap (P:Int)]:=S.keep (aU _ _).drew;have X:=(G.keep U).keep (aU _ _).drew;rw[L]at U own X;obtain⟨e0,e1,e2,e3⟩:=Gh (G.keep (aU _ _).drew);obtain⟨o,m,g,f⟩:=Gh X;have Z:=(T.trans ((I.trans (U.mono I.size)).mono T.size)).drew;have V:=Z.size;clear O v u t s L M S U
   go_region_held3(fun W=>aN W wr 0 (aB Q)∧aN W wr 1 (aB P)∧aN W wr 2 (aB q)∧aN W wr 3 (aB p))
    (first|with_reducible exact⟨d0,d1,d2,d3⟩|with_reducible exact⟨e0,e1,e2,e3⟩|with_reducible exact⟨o,m,g,f⟩|fail)
    (first
      |(refine abo PS (r:=[IntKind.u8.wrap (Q:Int),IntKind.u8.wrap (P:Int)]) kE (.tmp 12) (.tmp 19) kE kE own.e kE x (by show(_+2)*1≤_;omega) V aj ?_;intro B5 b5 w5 o5 qe qf qk;have X:=X.dH qf (Jl own X bn);obtain⟨o,m,g,f⟩:=Gh X;have Z:=Z.trans qe;have V:=Z.size;have own:=o5.ownB)
      |(go_at_call 223;refine(put_any (k:=4) aj aj _ own V).mono ?_;rintro e w6 ⟨B6,b6,rfl,o6,z,ql⟩;have X:=X.dH z (Jl own X bn);obtain⟨o,m,g,f⟩:=Gh X;have Z:=Z.trans (z.below V (fun i hi=>(own.e.dN hi).1));have V:=Z.size;have own:=o6)
      |fail)
   obtain⟨qg,qh⟩:=aV own Z;clear own Z V X o m g f d0 d1 d2 d3 e0 e1 e2 e3
   have y:wB R j++ [IntKind.u8.wrap (Q:Int),IntKind.u8.wrap (P:Int)]++jr q 4++jr p 4=wB R (j+1):=by
    rw[qa,EI,EI,Ew,Ew];simp only[QS,bJ,wQ]
   have qi:=ay y;clear y;go_wp2;go_roundg(gk-1)
   case measure=>omega
   case rel=>exact⟨j+1,_,_,_,aj,fA,rfl,aj,by rw[←qi];exact qg,qh⟩
  ·obtain rfl:j=n:=aj
   have a:=ay own;clear own Y;go_wp2;go_ret;exact⟨B,b,rfl,a,T⟩
theorem am0{U:Array Oper}{K:Act→aK→Prop}(T:o.guard=none)(s x:Operand)
  (N:o.op= .call {callee:=.builtin .append,args:=#[s,x],argTypes:=#[24,3]})
 (M:a.eval s=aG A n c) (W:dX PS w base A n c l) (hx:a.eval x=m) (S:n+m≤1000000000) (L:base≤w)
   (h:∀B Y w',dX PS w' base B (n+m) Y (l++List.replicate m 0)→bQ (In A) w w'→(∀i,In B i→In A i∨w≤i)→K (a.put o.dst (aG B (n+m) Y)) w'):
   if Region.wanted o (yielded U a.tmps)=true then Oper.wp prog o a w K Q else E:=by
  obtain⟨J,I,R,P,O⟩:=info_parts' PS;refine Rk w T s x _ _ N base 5 J (.int .u8 0) .i64 .i64 underlying24 underlying3 I R P O rfl rfl _ n _ M W.row m hx S L ?_;intro B Y H Z X V;refine h B Y H ⟨by simp[W.len],?_⟩ (Zk X) (acO V);rw[show(Value.int IntKind.u8 0).cells[0]! = .int .u8 0 from rfl]at Z;rw[QD]at Z ⊢;rw[gG,List.map_replicate];exact Z
abbrev SB(W H N:Nat)(qn qx r:Nat)(cu go ra ro fi:Int)(P:dK)(n p:Nat):Array cO:=#[aB W,aB H,aB N,aB qn,aB qx,aB r,aB cu,aB go,aB ra,aB ro,aB fi,aG P n p]
theorem EL(X:bF w g 23 (jC qn qx r cu go ra ro fi)):aN w g 0 (aB qn)∧aN w g 1 (aB qx)∧aN w g 2 (aB r)∧aN w g 3 (aB cu)∧aN w g 4 (aB go)∧aN w g 5 (aB ra)∧aN w g 6 (aB ro)∧aN w g 7 (aB fi):=
 ⟨X.at rfl,X.at rfl,X.at rfl,X.at rfl,X.at rfl,X.at rfl,X.at rfl,X.at rfl⟩
theorem adx{p:Nat}{P:dK}(hW:W≤1000)(hH:H≤1000)(w:aK):
  Calls prog 158 #[.agg (SB W H N qn qx r cu go ra ro fi P n p)] w (ag8 w 22 (Di ⟨qn,qx,r,cu,go,ra,ro,fi⟩ W H N n)):=by
 have T:=gU w (aS (SB W H N qn qx r cu go ra ro fi P n p) 249) (aS (jC qn qx r cu go ra ro fi) 23);have G:=(bF.new w 249 (SB W H N qn qx r cu go ra ro fi P n p)).alloc (aS (jC qn qx r cu go ra ro fi) 23);have z:=bF.new1 w (aS (SB W H N qn qx r cu go ra ro fi P n p) 249) 23 (jC qn qx r cu go ra ro fi);obtain⟨M,K⟩:=kF ((w.alloc (aS (SB W H N qn qx r cu go ra ro fi P n p) 249)).alloc (aS (jC qn qx r cu go ra ro fi) 23));rw[←K]at T G z;obtain⟨s,q,o,-,-,-,-,-,-,-,-,u⟩:=G.s12;obtain⟨m,j,h,E,g,D,C,B⟩:=EL z;obtain⟨A,J⟩:∃A:aO,A=[(W:Int)/8,(H:Int)/8,(N:Int)%256,(n:Int)%256,(qn:Int)%256,(qx:Int)%256,(r:Int)%256,go%256]:=⟨_,rfl⟩
 have t:Hid (Di ⟨qn,qx,r,cu,go,ra,ro,fi⟩ W H N n=A++jr cu 2++jr ra 4++jr ro 4++jr fi 4):=ay (by
  have f:bJ ((W:Int)/8)=(W:Int)/8:=Ac aj;have d:bJ ((H:Int)/8)=(H:Int)/8:=Ac aj;unfold Di;rw[J,abr,EI,EI,EI,f,d];rfl)
 have V:=aJ M (aS #[.int .u8 ((W:Int)/8),.int .u8 ((H:Int)/8),.int .u8 ((N:Int)%256),.int .u8 ((n:Int)%256),.int .u8 ((qn:Int)%256),.int .u8 ((qx:Int)%256),.int .u8 ((r:Int)%256),.int .u8 (go%256)] 5);have Y:=OwnB.built (w:=M) (base:=M.heap.size) (l:=[(W:Int)/8,(H:Int)/8,(N:Int)%256,(n:Int)%256,(qn:Int)%256,(qx:Int)%256,(r:Int)%256,go%256]) (bC _) bK;obtain⟨c,S⟩:=kF (M.alloc (aS #[.int .u8 ((W:Int)/8),.int .u8 ((H:Int)/8),.int .u8 ((N:Int)%256),.int .u8 ((n:Int)%256),.int .u8 ((qn:Int)%256),.int .u8 ((qx:Int)%256),.int .u8 ((r:Int)%256),.int .u8 (go%256)] 5));have Y:OwnB c M M 8 8 A:=by rw[S,J];exact Y
 rw[←S]at V;have b:=E;have a:=D;have k6:=C;have k7:=B;have R:=Y.drew;have X:=V.drew;have Z:=X.size;have e3:=aC E V;have e5:=aC D V;have e6:=aC C V;have e7:=aC B V;have d3:=aC E X;have d5:=aC D X;have d6:=aC C X;have d7:=aC B X;rw[t];change Hid _ at K S T;clear J Y V G z;go_enter func158,ntmps158;go_upto_region 2 with(fail)
 change Code.wp _ _ _ _ ((w.alloc (aS (SB W H N qn qx r cu go ra ro fi P n p) 249)).alloc (aS (jC qn qx r cu go ra ro fi) 23));rw[←K];go_upto_region 3 with(fail)
 change Code.wp _ _ _ _ (M.alloc _);rw[←S];clear m j h E g D C B s q o u
 go_region_held3(fun W=>aN W (w.heap.size+1) 3 (aB cu)∧aN W (w.heap.size+1) 5 (aB ra)∧aN W (w.heap.size+1) 6 (aB ro)∧aN W (w.heap.size+1) 7 (aB fi))
  (first|with_reducible exact⟨e3,e5,e6,e7⟩|with_reducible exact⟨d3,d5,d6,d7⟩|with_reducible exact⟨aC b X,aC a X,aC k6 X,aC k7 X⟩|fail)
  (first
    |(go_at_call 223;refine(put_any (v:=fi) (k:=4) aj aj _ Y Z).mono ?_;rintro e y ⟨x,b4,rfl,F,U,I⟩;have X:=X.trans (U.below Z (fun i L=>(Y.e.dN L).1));have Z:=X.size)
    |(go_at_call 223;refine(put_any (v:=ro) (k:=4) aj aj _ Q Z).mono ?_;rintro e y ⟨x,b4,rfl,Y,U,I⟩;have X:=X.trans (U.below Z (fun i L=>(Q.e.dN L).1));have Z:=X.size)
    |(go_at_call 223;refine(put_any (v:=ra) (k:=4) aj aj _ O Z).mono ?_;rintro e y ⟨x,b4,rfl,Q,U,I⟩;have X:=X.trans (U.below Z (fun i L=>(O.e.dN L).1));have Z:=X.size)
    |(go_at_call 223;refine(put_any (v:=cu) (k:=2) aj aj _ R Z).mono ?_;rintro e y ⟨x,b4,rfl,O,U,I⟩;have X:=X.trans (U.below Z (fun i L=>(R.e.dN L).1));have Z:=X.size)
    |fail)
 go_wp2;go_ret;exact⟨_,_,rfl,F.lower T.size,T.trans (X.mono T.size)⟩
end
end Go.Proofs.YtiaeohgghaaciaaGreatDoor
