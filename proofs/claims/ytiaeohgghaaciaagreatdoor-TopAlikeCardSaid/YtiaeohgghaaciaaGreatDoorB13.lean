import Derived.Test.YtiaeohgghaaciaaGreatDoorB12
namespace Go.Proofs.YtiaeohgghaaciaaGreatDoor
open Go Go.Maps Go.RowKit Go.Extern.Stop Go.Stop Go.Extern Go.Proofs.Tryz
set_option linter.all false
set_option maxRecDepth 100000
set_option maxHeartbeats 4000000
variable{fi ra ro:Int}{b fills l:List Int}{H W base c d g i j k m n x z:Nat}{A B:Option Addr}{t:TypeId}{U V X Y Z:Value}{u w w':World}
structure CdM where
 k:Int
 A:dK
 n:Nat
 c:Nat
def cdR:tJ CdM where
 S:=190
 T:=257
 k:=2
 bytes:=32
 z:=.agg #[aB 0,bU]
 enc:=fun m=>[aB m.k,aG m.A m.n m.c]
 und:=underlying190
 info:=aW
 zs:=rfl
 pos:=bn
 hk:=fun _=>rfl
 one:=fun a u Z=>by simp at Z;rcases Z with rfl|rfl<;>rfl
def ML(w:aK)(base:Nat)(A:dK)(n c:Nat)(l:List jL):Prop:=
 ∃Z:List CdM,dX cdR w base A n c Z∧l.length=n∧∀i,(h:i<Z.length)→Z[i].k=(l.getD i ⟨0,[]⟩).k∧OwnB w base Z[i].A Z[i].n Z[i].c (l.getD i ⟨0,[]⟩).b
section
variable{w w':aK}{base n c:Nat}{A:dK}{l:List jL}
theorem ML.len(h:ML w base A n c l):l=n:=by obtain⟨_,_,h,_⟩:=h;exact h
theorem OwnB.QA{α:Type}{R:tJ α}{o n c:Nat}{A:dK}{l:aO}{r:List α}(h:OwnB w j A n c l)(k:dX R w o B m d r)(Z:R.T≠5):∀i,In A i→¬In B i:=by
 rintro i ⟨q,rfl,rfl⟩ ⟨p,rfl,e⟩;exact EZ h.row k.row (jP Z) q.block rfl (by simp[Value.ownBlock,e])
theorem OwnB.cap{n c:Nat}{A:dK}{l:aO}(h:OwnB w i A n c l):n≤c:=by
 rcases h.row.2 with⟨Z,W⟩|⟨g,Y,X,Z,-,-,V,-⟩
 ·omega
 ·injection Z with _ _ U;omega
theorem dX.cap{α:Type}{R:tJ α}{n c:Nat}{A:dK}{l:List α}(h:dX R w i A n c l):n≤c:=by
 rcases h.row.2 with⟨Z,W⟩|⟨g,Y,X,Z,-,-,V,-⟩
 ·omega
 ·injection Z with _ _ U;omega
theorem ML.at_(h:ML w base A n c l){i:Nat}(hi:i<n):∃b o B m d,A=some (aH b o)∧aN w b (o+i*2) (aB (l.getD i ⟨0,[]⟩).k)∧aN w b (o+i*2+1) (aG B m d)∧OwnB w base B m d (l.getD i ⟨0,[]⟩).b:=by
 obtain⟨T,Z,S,X⟩:=h;obtain⟨b,o,W,Y⟩:=Z.ls.at_ hi;have R:=Z.len;obtain⟨V,U⟩:=X i aj;refine⟨b,o,_,_,_,W,?_,Y 1 _ rfl,U⟩;rw[←V];exact Y 0 _ rfl
theorem ML.dH{S:Nat→Prop}(h:ML w base A n c l)(X:bQ S w w')(W:∀i,S i→i<base∨w≤i):ML w' base A n c l:=by
 obtain⟨U,V,T,Y⟩:=h;refine⟨U,V.dH X (fun i Z k=>by have:=V.dN Z;have:=W i k;omega),T,fun i Z=>⟨(Y i Z).1,(Y i Z).2.dH X (fun j R k=>by have:=(Y i Z).2.lt R;have:=W j k;omega)⟩⟩
theorem ML.keep(h:ML w base A n c l)(Z:aP w w'):ML w' base A n c l:=h.dH (bQ.of_below (S:=fun _=>False) Z) (fun _ h=>h.elim)
theorem ML.lower(h:ML w base A n c l){b:Nat}(Z:b≤base):ML w b A n c l:=by
 obtain⟨W,V,U,Y⟩:=h;exact⟨W,V.lower Z,U,fun i X=>⟨(Y i X).1,(Y i X).2.lower Z⟩⟩
theorem ML.nil(w:aK)(base:Nat):ML w base none 0 0 []:=⟨[],dX.nil _ _,rfl,fun i h=>absurd h bK⟩
end
structure gQ where
 num:Nat
 first:Nat
 count:Nat
 CP:List jL
structure gQ.good(k:gQ):Prop where
 num:k.num<16
 first:k.first<16
 count:1≤k.count∧k.count≤16
 len:k.CP.length=k.count
 cd:∀c∈k.CP,c.good
 head:(k.CP.getD 0 ⟨0,[]⟩).k=1∨(k.CP.getD 0 ⟨0,[]⟩).k=4
def dL(l:List jL):aO:=l.flatMap fun c=>dQ c.k c.b
def vF(k:gQ):aO:=dQ 32 [(k.num:Int),k.first,k.count]++dL k.CP
abbrev CQ(a b c:Nat)(A:dK)(n d:Nat):Array cO:=#[aB a,aB b,aB c,aG A n d]
theorem abq{k:Int}(Z:k=1∨k=4)(w:aK):Calls prog 258 #[k] w fun e Y=>e=bM (.bool true)∧w=Y:=by
 rcases Z with rfl|rfl
 all_goals(
  go_enter func258,ntmps258;go_wp2;go_ret;exact sD)
theorem aek{a b:Nat}(Y:a<16)(X:b<16)(W:1≤c∧c≤16)(w:aK):Calls prog 257 #[a,.agg #[b,c]] w (Val w (.bool true)):=by
 have Z:=ay (aJ w (aS #[b,c] 189));have V:decide ((a:Int)<16)=true:=jy
 have U:decide ((b:Int)<16)=true:=jy
 have T:decide ((1:Int)≤(c:Int))=true:=jy
 have S:decide ((c:Int)≤16)=true:=jy
 go_enter func257,ntmps257;go_wp2;go_ret;exact⟨rfl,Z⟩
theorem ael{K:gQ}(hK:K.good)(w:aK)(h:ML w base A n d K.CP):Calls prog 220 #[.agg (CQ K.num K.first K.count A n d)] w (Val w (.bool true)):=by
 obtain⟨num,first,Z,W⟩:=K;obtain⟨u,t,s,p,l,g⟩:=hK;dsimp only at*;have hn:Z=n:=by rw[←p];exact h.len
 subst hn;obtain⟨U,M,f,J⟩:=ES w 192 (CQ num first Z A Z d)
 have c:Hid (∀Y,aP U Y→(aN Y w 0 (aB num)∧aN Y w 1 (aB first)∧aN Y w 2 (aB Z)∧aN Y w 3 (aG A Z d))):=ay (fun Y P=>by
  have I:=f.keep P;exact⟨I.at rfl,I.at rfl,I.at rfl,I.at rfl⟩)
 obtain⟨a,HH,HF⟩:=dB (fun Y (P:aP U Y)=>(h.keep J).keep P) (fun Y=>aek u t s Y) (fun Y=>abq g Y)
 have HR:Hid (∀i,i<Z→∀Y (B:dK) (m O:Nat),OwnB Y base B m O (W.getD i ⟨0,[]⟩).b→Calls prog 259 #[.agg #[aB (W.getD i ⟨0,[]⟩).k,aG B m O]] Y (UQ Y)):=ay (fun i hi Y B m O T=>by
  have hg:=l (W.getD i ⟨0,[]⟩) (by rw[dG,fP aj];exact lS _);rcases hg with⟨N,⟨q,r,F,k3,k4⟩,-,k5⟩|⟨N,F⟩
  ·have H:=T.len
   rw[F]at T k5 H;exact YD N ⟨k3,k4⟩ aj T.cap Y T.lb
  ·have H:=T.len
   rw[F]at H;obtain rfl:m=0:=by simpa using H.symm
   exact YC N Y)
 have qf:(0:Int)<(Z:Int):=aj
 have qa:(Z:Int)≤16:=aj
 change Hid _ at M J g;clear f h u t s p l;obtain⟨b,o,B0,m0,d0,rfl,G,N,-⟩:=(a _ (aU _ _)).at_ (i:=0) aj;have kk:Hid (∀Y,aP U Y→aN Y b o (aB (W.getD 0 ⟨0,[]⟩).k)):=ay (fun Y P=>aC (by simpa using G) P);clear G N;go_enter func220,ntmps220;obtain⟨E,D,C,z⟩:=c _ (aU _ _);go_upto_region 1 with(fail)
 change Code.wp _ _ _ _ (w.alloc _);rw[←M];go_wp2_with fail;refine(HH _).aQ ?_;rintro w1 V;clear E D C z;obtain⟨E,D,C,z⟩:=c _ V;have G:=kk.out _ V;change Hid _ at V;go_wp2_with fail;refine(HF _).aQ ?_;rintro w2 rfl;go_wp2
 go_loopg [2,4,5,6,34] Z (fun k v2 v4 v5 v6 y wr=>∃j:Nat,j+k=Z∧y=j∧aP U wr)
 case atStart=>exact⟨0,aj,rfl,V⟩
 case round=>
  obtain⟨j,hj,rfl,X⟩:=hrel;change Hid _ at X;clear E D C z G
  by_cases L:j<Z
  ·have qe:(j:Int)<(Z:Int):=aj
   obtain⟨b',o',B,m,d',e,c0,c1,T⟩:=(a _ X).at_ L;injection e with e
   injection e with e1 e2
   subst e1;subst e2;have S:=aJ wr (aS #[aB (W.getD j ⟨0,[]⟩).k,aG B m d'] 257);have hR:=HR j L _ B m d' (T.keep S);generalize(W.getD j ⟨0,[]⟩).k=kj at*;obtain⟨x,R⟩:=aV hR (X.trans (S.mono X.size));clear hR S T;go_wp2_with fail;refine x.mono ?_;rintro e w3 ⟨⟨k9,q9,B9,n9,O,rfl⟩,Q⟩;have v:=ay ((R.trans (Q.mono R.size)).trans ((aJ w3 (aS #[k9,q9,aG B9 n9 O] 348)).mono (dD R.size Q.size)));clear Q c0 c1;go_wp2_with fail;go_roundg(gk-1)
   case measure=>omega
   case rel=>exact⟨j+1,aj,fA,v⟩
  ·go_wp2_with fail
   go_ret;exact⟨rfl,J.trans (X.mono J.size)⟩
theorem ND{l:List jL}(h:j<l):dL (l.take (j+1))=dL (l.take j)++dQ (l.getD j ⟨0,[]⟩).k (l.getD j ⟨0,[]⟩).b:=by
 have e:∀(a:List jL) (x:jL),dL (a++ [x])=dL a++dQ x.k x.b:=fun a x=>by simp[dL]
 rw[BH h,dG,fP h,e];rfl
theorem OT{l:List jL}(h:∀c∈l,c.good):(dL l).length≤65544*l.length:=by
 induction l with
 |nil=>simp[dL]
 |cons c l Z=>
  have X:=Z (fun x Y=>h x (by simp[Y]));have W:=(h c bK).len;have e:dL (c::l)=dQ c.k c.b++dL l:=rfl;rw[e,mG,iG,xQ];omega
theorem ahW{K:gQ}(hK:K.good)(w:aK)(h:ML w base A n d K.CP):
  Calls prog 172 #[.agg (CQ K.num K.first K.count A n d)] w (OH w (vF K) (vF K)):=by
 have I:=aJ w (aS (CQ K.num K.first K.count A n d) 192);have HM:=ay (ael hK _ (h.keep I));obtain⟨num,first,Z,Y⟩:=K;obtain⟨h1,h2,h3,h4,h5,-⟩:=hK;dsimp only at*;have hn:Z=n:=by rw[←h4];exact h.len
 subst hn;have X0:=bF.new w 192 (CQ num first Z A Z d);obtain⟨Q,P⟩:=kF (w.alloc (aS (CQ num first Z A Z d) 192));rw[←P]at I X0 HM;have s1:Q.heap.size=w+1:=by rw[P];simp
 have HX:Hid (∀U,aP Q U→(aN U w 0 (aB num)∧aN U w 1 (aB first)∧aN U w 2 (aB Z)∧aN U w 3 (aG A Z d))):=ay (fun U hw=>by
  have hx:=X0.keep hw;exact⟨hx.at rfl,hx.at rfl,hx.at rfl,hx.at rfl⟩)
 obtain⟨HC,HG,HN,HU⟩:=jH (fun U (hw:aP Q U)=>(h.keep I).keep hw) (fun i (hi:i<Z)=>h5 (Y.getD i ⟨0,[]⟩) (by rw[dG,fP aj];exact lS _)) (fun j (hj:j<Z)=>ND (l:=Y) (j:=j) aj) (fun j=>dD (OT (l:=Y.take j) (fun c hc=>h5 c (D7 hc))) (Nat.mul_le_mul_left 65544 (show(Y.take j).length≤16 by rw[xO];omega)));have HE:Hid (vF ⟨num,first,Z,Y⟩=dQ 32 [(num:Int),first,Z]++dL (Y.take Z)):=ay (by rw[wO aj];rfl);have H0:Hid (dL (Y.take 0)=[]):=ay rfl;have e1:IntKind.u8.wrap (num:Int)=num:=by rw[Ew];omega
 have e2:IntKind.u8.wrap (first:Int)=first:=by rw[Ew];omega
 have e3:IntKind.u8.wrap (Z:Int)=Z:=by rw[Ew];omega
 have qa:Hid (∀U:aK,Lb (U.alloc (aS #[.int .u8 num,.int .u8 first,.int .u8 Z] 5)) U 3 [(num:Int),first,Z]):=ay (fun U=>
  (OwnB.built (w:=U) (base:=U.heap.size) (l:=[(num:Int),first,Z]) (bC _) bK).lb)
 have qe:=ay (fun U=>UG (kind:=32) (c:=3) aj aj (data:=[(num:Int),first,Z]) (by intro v hv;simp at hv;omega) _ (qa U));have qr:(Z:Int)≤16:=aj
 change Hid _ at P I s1;clear X0 h h1 h2 h3 h4 h5;rw[HE];go_enter func172,ntmps172;obtain⟨H,G,F,E⟩:=HX _ (aU _ _);go_upto_region 1 with(fail)
 change Code.wp _ _ _ _ (w.alloc _);rw[←P];go_wp2_with fail;refine HM.aQ ?_;rintro w1 S;clear H G F E;obtain⟨H,G,F,E⟩:=HX _ S;change Hid _ at S;go_wp2_with fail;refine(qe _).mono ?_;rintro e w2 ⟨B2,b2,rfl,o2,C⟩;have X:=aJ w1 (aS #[.int .u8 num,.int .u8 first,.int .u8 Z] 5);obtain⟨z,qf,R⟩:=dB (S.trans ((X.trans (C.mono X.size)).mono S.size)) (o2.lower (b:=Q.heap.size) (by have h1:=S.size;have h3:=X.size;omega)) o2.len;generalize dQ 32 [(num:Int),first,Z]=W at*;clear X C o2 H G F E;obtain⟨H,G,F,E⟩:=HX _ z;go_wp2_with fail
 go_loopg [4,7,8,9,33] Z (fun k v4 v7 v8 v9 qg wr=>∃(j:Nat) (B:dK) (b:Nat),j+k=Z∧qg=j∧v4=aG B (W++dL (Y.take j)) b∧OwnB wr Q B (W++dL (Y.take j)) b (W++dL (Y.take j))∧aP Q wr)
 case atStart=>exact⟨0,B2,b2,aj,rfl,by rw[H0,gI,R],by rw[H0,gI,R];exact qf,z⟩
 case round=>
  obtain⟨j,B,b,hj,rfl,rfl,own,V⟩:=hrel;change Hid _ at own V;clear H G F E
  by_cases O:j<Z
  ·have qs:(j:Int)<(Z:Int):=aj
   obtain⟨q,o,B3,D,d3,rfl,c0,c1,ho⟩:=(HC _ V).at_ O;have hg:=HG j O;have y:=HN j O;have x:=HU j;have u:(W++dL (Y.take j)).length=W.length+(dL (Y.take j)).length:=mG;generalize Y.getD j ⟨0,[]⟩=cd at*;obtain⟨kj,bj⟩:=cd;dsimp only at*;have T:=ho.len;have t:=hg.len;have qh:=hg.kind;have s:=hg.Zv;dsimp only at*;have X:=aJ wr (aS #[kj,aG B3 D d3] 257);obtain⟨qi,qj,r,p,m⟩:=rG (UG (kind:=kj) (c:=d3) (n:=D) aj aj (data:=bj) s _ (ho.lb.keep X)) (iG kj bj) u (V.trans (X.mono V.size)) (own.keep X);obtain⟨L,hL⟩:∃L,(W++dL (Y.take j)).length=L:=⟨_,rfl⟩;rw[hL]at m r ⊢;change Hid _ at y x T t hL;clear hg u qh s X ho;go_wp2_with fail;refine qi.mono ?_;rintro e w4 ⟨B4,b4,rfl,o4,N⟩;obtain⟨M,g,qk⟩:=dB (p.trans (N.mono p.size)) ((m.keep N).e) o4.lb.e;have f:=M.size;have J:L+(D+8)≤1000000000:=by have h1:=r.out;have h2:=x.out;have h3:=R.out;have h4:=T.out;have h5:=t.out;omega
   change Hid _ at f J;clear o4 N c0 c1;go_wp2_with(at_builtin;refine aaY PS rfl _ _ rfl rfl g rfl qk (by show(L+(D+8))*1≤_;have:=J.out;omega) f J ?_;intro B5 b5 w5 o5 ql a qm);obtain⟨qo,qq⟩:=aV o5.ownB (eH M a M.size (fun i hi=>(g.dN hi).1));clear o5 ql a qm;go_wp2_with fail;go_roundg(gk-1)
   case measure=>omega
   case rel=>
    have e9:(W++dL (Y.take (j+1)))=(W++dL (Y.take j))++dQ kj bj:=by rw[y,wQ]
    have e8:(W++dL (Y.take (j+1))).length=L+(D+8):=by rw[e9,mG,hL,qj,T]
    exact⟨j+1,B5,b5,aj,fA,by rw[e8],by rw[e8,e9];exact qo,qq⟩
  ·obtain rfl:j=Z:=aj
   go_wp2_with fail;go_ret2;exact⟨B,b,rfl,own.lower (by have:=s1.out;omega),I.trans (V.mono I.size)⟩
def RY(v:Int):aO:=[bJ (v/256),bJ v]
def jr(v:Int):Nat→aO
 |0=>[]
 |k+1=>(v/256^k)%256::jr v k
theorem abr(v:Int):jr v 2=RY v:=by simp[jr,RY,bJ]
theorem EI(v:Int):jr v 4=dY v:=by simp[jr,dY,bJ]
def Di(C:Ei)(W H Z Y:Nat):aO:=[bJ ((W:Int)/8),bJ ((H:Int)/8),bJ Z,bJ Y,bJ C.qn,bJ C.qx,bJ C.re,bJ C.go]++RY C.cu++dY C.ra++dY C.ro++dY C.fi
structure yJ where
 first:Nat
 count:Nat
 off:Nat
 len:Nat
def QS(e:yJ):aO:=[bJ e.first,bJ e.count]++dY e.off++dY e.len
def wB(Z:List yJ):Nat→aO
 |0=>[]
 |n+1=>wB Z n++QS (Z.getD n ⟨0,0,0,0⟩)
def Aq(fills:aO)(i:Nat):Nat:=(fills.getD i 0).toNat
def yC(b:aO)(k:gQ)(fills:aO):Nat→aO
 |0=>b
 |j+1=>yC b k fills j++dQ (k.CP.getD j ⟨0,[]⟩).k (k.CP.getD j ⟨0,[]⟩).b++List.replicate (Aq fills (k.first+j)) 0
def dJ(ks:List gQ)(n:Nat):gQ:=ks.getD n ⟨0,0,0,[]⟩
def nT(n:Nat)(k:gQ):aO:=dQ 17 [bJ n,bJ k.first,bJ k.count]
def iQ(b:aO)(ks:List gQ)(fills:aO):Nat→aO
 |0=>b
 |n+1=>yC (iQ b ks fills n++nT n (dJ ks n)) (dJ ks n) fills (dJ ks n).CP.length
def Ot(b:aO)(ks:List gQ)(fills:aO)(n:Nat):yJ:=⟨(dJ ks n).first,(dJ ks n).count,(iQ b ks fills n).length,(iQ b ks fills (n+1)).length-(iQ b ks fills n).length⟩
def jq(ks:List gQ):Nat→aO
 |0=>[]
 |n+1=>jq ks n++(dJ ks n).CP.map fun c=>(c.cost:Int)
def rF(C:Ei)(W H:Nat)(ks:List gQ):aO:=dQ 16 (Di C W H (jq ks ks.length).length ks.length)
def Ku(b:aO)(ks:List gQ)(fills:aO):List yJ:=(List.range ks.length).map (Ot b ks fills)
def uD(C:Ei)(W H:Nat)(ks:List gQ)(fills:aO):aO:=iQ (rF C W H ks) ks fills ks.length
def wG(C:Ei)(W H:Nat)(ks:List gQ)(fills:aO):aO:=uD C W H ks fills++dQ 18 (wB (Ku (rF C W H ks) ks fills) ks.length)
def Fq(C:Ei)(W H:Nat)(ks:List gQ)(fills:aO):aO:=wG C W H ks fills++dQ 19 (dY (uD C W H ks fills).length++dY (jf (wG C W H ks fills)))
def gY(ks:List gQ):Nat→Nat
 |0=>0
 |n+1=>gY ks n+(dJ ks n).CP.length
theorem yg(ks:List gQ):∀n,(jq ks n)=gY ks n
 |0=>rfl
 |n+1=>by simp[jq,gY,yg ks n]
theorem JK(Z:List yJ):∀n,(wB Z n).length=10*n
 |0=>rfl
 |n+1=>by simp[wB,QS,dY,JK Z n];omega
theorem Lj{b:aO}{k:gQ}{fills:aO}{m:Nat}(h1:∀c∈k.CP,c.b.length≤m)(h2:∀i,Aq fills i≤m):∀j,j≤k.CP.length→(yC b k fills j).length≤b.length+(2*m+8)*j
 |0,_=>by simp[yC]
 |j+1,Z=>by
  have:=Lj (b:=b) h1 h2 j aj;have Y:=h1 (k.CP.getD j ⟨0,[]⟩) (by rw[dG,fP aj];exact lS _);have X:=h2 (k.first+j);simp only[yC,mG,iG,gJ];rw[Nat.mul_add];omega
theorem Jk{b:aO}{ks:List gQ}{fills:aO}{m:Nat}(h1:∀k∈ks,∀c∈k.CP,c.b.length≤m)(h2:∀i,Aq fills i≤m):∀n,n≤ks.length→(iQ b ks fills n).length≤b.length+11*n+(2*m+8)*gY ks n
 |0,_=>by simp[iQ]
 |n+1,Y=>by
  have X:=Jk h1 h2 n aj (b:=b);have Z:∀c∈(dJ ks n).CP,c.b.length≤m:=h1 _ (by unfold dJ;rw[dG,fP aj];exact lS _);have:=Lj (b:=iQ b ks fills n++nT n (dJ ks n)) Z h2 _ (bC _);rw[mG]at this;have e:(nT n (dJ ks n)).length=11:=by simp[nT,iG]
  simp only[iQ,gY];rw[Nat.mul_add (2*m+8)];omega
theorem Lm(C:Ei)(W H a b:Nat):(Di C W H a b).length=22:=by simp[Di,RY,dY]
theorem TU{C:Ei}{ks:List gQ}(h1:∀k∈ks,∀c∈k.CP,c.b≤m)(h2:∀i,Aq fills i≤m):
  (uD C W H ks fills).length≤30+11*ks.length+(2*m+8)*gY ks ks∧(wG C W H ks fills).length=(uD C W H ks fills)+10*ks.length+8∧(Fq C W H ks fills).length=(wG C W H ks fills)+16:=by
 refine⟨?_,?_,?_⟩
 ·have:=Jk (b:=rF C W H ks) h1 h2 ks (bC _)
  have e:(rF C W H ks).length=30:=by simp[rF,iG,Lm]
  unfold uD;omega
 ·unfold wG;rw[mG,iG,JK];omega
 ·unfold Fq;rw[mG,iG];simp[dY]
theorem Jz(v:Int):0≤bJ v∧bJ v≤255:=by unfold bJ;omega
theorem afP(v:Int):dV (RY v):=by intro x Z;simp only[RY,je,kS,or_false]at Z;rcases Z with rfl|rfl<;>exact Jz _
theorem Ar{k:Int}{d:aO}(Y:0≤k∧k≤255)(X:d.length≤65536)(hd:dV d):dV (dQ k d):=by
 intro v Z;rcases rH.1 Z with Z|Z
 ·rcases rH.1 Z with Z|Z
  ·simp[bJ]at Z;omega
  ·exact hd v Z
 ·exact jR _ v Z
theorem TV{b:aO}{k:gQ}{fills:aO}(Y:dV b)(h:∀c∈k.CP,0≤c.k∧c.k≤255∧dV c.b∧c.b.length≤65536):∀j,j≤k.CP.length→dV (yC b k fills j)
 |0,_=>Y
 |j+1,W=>by
  have Z:=h (k.CP.getD j ⟨0,[]⟩) (by rw[dG,fP aj];exact lS _);refine((TV Y h j aj).app (Ar ⟨Z.1,Z.2.1⟩ Z.2.2.2 Z.2.2.1)).app fun v X=>?_
  rw[(List.mem_replicate.1 X).2];omega
theorem abt(a b c:Int):dV [bJ a,bJ b,bJ c]:=by intro x Z;simp only[je,kS,or_false]at Z;rcases Z with rfl|rfl|rfl<;>exact Jz _
theorem OU{b:aO}{ks:List gQ}{fills:aO}(Z:dV b)(h:∀k∈ks,∀c∈k.CP,0≤c.k∧c.k≤255∧dV c.b∧c.b.length≤65536):∀n,n≤ks.length→dV (iQ b ks fills n)
 |0,_=>Z
 |n+1,X=>by
  have Y:=h (dJ ks n) (by unfold dJ;rw[dG,fP aj];exact lS _);exact TV ((OU Z h n aj).app (Ar aj bK (abt _ _ _))) Y _ (bC _)
theorem TW(C:Ei)(W H a b:Nat):dV (Di C W H a b):=by
 refine(((dV.app ?_ (afP _)).app (jR _)).app (jR _)).app (jR _);intro x Z;simp only[je,kS,or_false]at Z;rcases Z with rfl|rfl|rfl|rfl|rfl|rfl|rfl|rfl<;>exact Jz _
theorem Lp(Y:List yJ):∀n,dV (wB Y n)
 |0=>by intro x Z;simp[wB]at Z
 |n+1=>by
  refine(Lp Y n).app ((dV.app ?_ (jR _)).app (jR _));intro x Z;simp only[je,kS,or_false]at Z;rcases Z with rfl|rfl<;>exact Jz _
theorem Zz(C:Ei)(W H:Nat)(ks:List gQ):dV (rF C W H ks):=Ar aj (by rw[Lm];omega) (TW _ _ _ _ _)
theorem VT{C:Ei}{ks:List gQ}(h:∀k∈ks,∀c∈k.CP,0≤c.k∧c.k≤255∧dV c.b∧c.b.length≤65536)(X:ks.length≤16):
  dV (uD C W H ks fills)∧dV (wG C W H ks fills)∧dV (Fq C W H ks fills):=by
 have Z:dV (uD C W H ks fills):=OU (Zz C W H ks) h _ (bC _);have Y:dV (wG C W H ks fills):=Z.app (Ar aj (by rw[JK];omega) (Lp _ _));exact⟨Z,Y,Y.app (Ar aj (by simp[dY]) ((jR _).app (jR _)))⟩
theorem YE{g:aO}(h:iY ra ro 0 fi l= .ok g)(Y:∀n∈l,0≤n)(h1:fi≤ro)(h2:0≤ra)(k:Nat)(X:k<g):0≤g[k]∧g[k]≤ra:=by
 have Z:=CV h;have W:=(OE h k aj X).2;have V:=Xo (rate:=ra) (l.take k) h1;have U:=Y l[k] (lS aj);omega
def ahX(w:World)(base:Nat)(A:Option Addr)(n:Nat)(l:List Int)(e:Ending)(w':World):Prop:=∃B b,e= .returned (.slice B n b)∧OwnB w' base B n b l∧bQ (In A) w w'∧∀i,In B i→In A i∨w.heap.size≤i
theorem put_any{v:Int}(r:k≤4)(f:n≤100000000)(w:World)(D:OwnB w base A n c l)(G:base≤w):
  Calls prog 223 #[.slice A n c,v,k] w (ahX w base A (n+k) (l++jr v k)):=by
 obtain⟨q,u⟩:=aV D G;go_enter func223,ntmps223;go_wp2
 go_loopg [0,7] k (fun y p o wr=>∃(m:List Int) (N:Nat) (B:Option Addr) (b:Nat),o= .int .i64 ((y:Int)-1)∧p= .slice B N b∧OwnB wr base B N b m∧bQ (In A) w wr∧(∀i,In B i→In A i∨w≤i)∧m++jr v y=l++jr v k∧N+y=n+k∧y≤4)
 case atStart=>exact⟨l,n,A,c,fA,rfl,q,bQ.refl _ _,fun i Q=>.inl Q,rfl,rfl,r⟩
 case round=>
  obtain⟨m,N,B,b,rfl,rfl,D,s,z,T,C,h⟩:=hrel;obtain⟨U,S,H⟩:=dB s z D
  by_cases j:gk=0
  ·subst j
   have R:=ay (by simpa[jr]using T);obtain rfl:N=n+k:=aj
   go_wp2;go_ret;exact⟨B,b,rfl,R▸H.out,U,S⟩
  ·obtain⟨t,rfl⟩:∃t,gk=t+1:=⟨gk-1,aj⟩
   have Y:=dD u U.size;have g:N+1≤200000000:=aj
   change Hid _ at C;obtain rfl|rfl|rfl|rfl:t=0∨t=1∨t=2∨t=3:=aj
   ·have R:Hid ((m++ [v%256])++jr v 0=l++jr v k):=ay (by rw[←T];simp[jr])
    have X:=bF.new wr 5 #[.int .u8 (v%256)];have Z:=aJ wr (.cells #[.int .u8 (v%256)] 5);obtain⟨P,O⟩:=aV ((H.keep Z).e) (dD Y Z.size);change Hid _ at X Z;clear T Y;go_wp2_with(at_builtin;refine BA PS rfl _ _ rfl rfl P rfl X (by show(_+1)*1≤_;omega) O aj ?_;intro F E x I M W V);obtain⟨L,K,J⟩:=dB I.ownB (U.step ((bQ.of_below Z).trans W) (fun i Q G=>(S i G).elim id (fun k=>absurd Q aj))) (fun i Q=>(V i Q).elim (fun k=>S i k) (fun k=>.inr (by have:=Z.size;have:=U.size;omega)));clear I M W V;go_wp2;go_roundg(0:Nat)
    case measure=>omega
    case rel=>exact⟨_,N+1,F,E,fA,rfl,L,K,J,R,by have:=C.out;omega,aj⟩
   ·have R:Hid ((m++ [v/256%256])++jr v 1=l++jr v k):=ay (by rw[←T];simp[jr])
    have X:=bF.new wr 5 #[.int .u8 (v/256%256)];have Z:=aJ wr (.cells #[.int .u8 (v/256%256)] 5);obtain⟨P,O⟩:=aV ((H.keep Z).e) (dD Y Z.size);change Hid _ at X Z;clear T Y;go_wp2_with(at_builtin;refine BA PS rfl _ _ rfl rfl P rfl X (by show(_+1)*1≤_;omega) O aj ?_;intro F E x I M W V);obtain⟨L,K,J⟩:=dB I.ownB (U.step ((bQ.of_below Z).trans W) (fun i Q G=>(S i G).elim id (fun k=>absurd Q aj))) (fun i Q=>(V i Q).elim (fun k=>S i k) (fun k=>.inr (by have:=Z.size;have:=U.size;omega)));clear I M W V;go_wp2;go_roundg(1:Nat)
    case measure=>omega
    case rel=>exact⟨_,N+1,F,E,fA,rfl,L,K,J,R,by have:=C.out;omega,aj⟩
   ·have R:Hid ((m++ [v/65536%256])++jr v 2=l++jr v k):=ay (by rw[←T];simp[jr])
    have X:=bF.new wr 5 #[.int .u8 (v/65536%256)];have Z:=aJ wr (.cells #[.int .u8 (v/65536%256)] 5);obtain⟨P,O⟩:=aV ((H.keep Z).e) (dD Y Z.size);change Hid _ at X Z;clear T Y;go_wp2_with(at_builtin;refine BA PS rfl _ _ rfl rfl P rfl X (by show(_+1)*1≤_;omega) O aj ?_;intro F E x I M W V);obtain⟨L,K,J⟩:=dB I.ownB (U.step ((bQ.of_below Z).trans W) (fun i Q G=>(S i G).elim id (fun k=>absurd Q aj))) (fun i Q=>(V i Q).elim (fun k=>S i k) (fun k=>.inr (by have:=Z.size;have:=U.size;omega)));clear I M W V;go_wp2;go_roundg(2:Nat)
    case measure=>omega
    case rel=>exact⟨_,N+1,F,E,fA,rfl,L,K,J,R,by have:=C.out;omega,aj⟩
   ·have R:Hid ((m++ [v/16777216%256])++jr v 3=l++jr v k):=ay (by rw[←T];simp[jr])
    have X:=bF.new wr 5 #[.int .u8 (v/16777216%256)];have Z:=aJ wr (.cells #[.int .u8 (v/16777216%256)] 5);obtain⟨P,O⟩:=aV ((H.keep Z).e) (dD Y Z.size);change Hid _ at X Z;clear T Y;go_wp2_with(at_builtin;refine BA PS rfl _ _ rfl rfl P rfl X (by show(_+1)*1≤_;omega) O aj ?_;intro F E x I M W V);obtain⟨L,K,J⟩:=dB I.ownB (U.step ((bQ.of_below Z).trans W) (fun i Q G=>(S i G).elim id (fun k=>absurd Q aj))) (fun i Q=>(V i Q).elim (fun k=>S i k) (fun k=>.inr (by have:=Z.size;have:=U.size;omega)));clear I M W V;go_wp2;go_roundg(3:Nat)
    case measure=>omega
    case rel=>exact⟨_,N+1,F,E,fA,rfl,L,K,J,R,by have:=C.out;omega,aj⟩
theorem JA(i:Nat):¬In (none:Option Addr) i:=by rintro⟨p,e,_⟩;cases e
theorem ahX.fresh{e:Ending}(h:ahX w base none n l e w'):∃B b,e= .returned (.slice B n b)∧OwnB w' base B n b l∧Below w w w':=by
 obtain⟨B,b,rfl,Z,Y,W⟩:=h;exact⟨B,b,rfl,Z,Y.below (bC _) (fun i X=>absurd X (JA i))⟩
theorem add_any{D:Option Addr}{data:List Int}{k:Int}(N:1≤k∧k≤255)(M:m≤65536)(hd:Bd 0 255 data)(z:n≤100000000)(w:World)(X:OwnB w base A n c l)(L:Lb w D m data)(K:base≤w):
  Calls prog 157 #[.slice A n c,k,.slice D m d] w (ahX w base A (n+(m+8)) (l++dQ k data)):=by
 obtain⟨J,I,W⟩:=dB (UG (c:=d) N M hd w L) X K;generalize dQ k data=U at*;go_enter func157,ntmps157;go_wp2_with fail;refine J.mono ?_;rintro e y ⟨x,v,rfl,H,Z⟩;obtain⟨V,G,T,Y⟩:=jH ((I.keep Z).e) H.lb.e (dD W Z.size) Z;go_wp2_with(at_builtin;refine aaY PS rfl _ _ rfl rfl V rfl G (by show _*1≤_;omega) T aj ?_;intro F b2 u E B S R);obtain⟨Q,P,O⟩:=dB E.ownB ((bQ.of_below Y).trans S) R;go_wp2;go_ret;exact⟨F,b2,rfl,Q,P,fun i C=>(O i C).imp id (fun k=>dD Y.size k)⟩
theorem QT{v:Int}(J:n≤100000000)(w:aK)(X:OwnB w base A n c l)(O:base≤w):
  Calls prog 140 #[aG A n c,v] w (ahX w base A (n+4) (l++dY v)):=by
 have Z:=aJ w (aS #[.int .u8 (v/16777216%256),.int .u8 (v/65536%256),.int .u8 (v/256%256),.int .u8 (v%256)] 5);obtain⟨W,V,U,Y⟩:=jH ((X.keep Z).e) ((OwnB.built (w:=w) (base:=w.heap.size) (l:=dY v) (bC _) (by simp[dY])).lb.e) (dD O Z.size) Z;go_enter func140,ntmps140;go_wp2_with(at_builtin;refine aaY PS rfl _ _ rfl rfl W rfl V (by show(_+4)*1≤_;omega) U (by show _+4≤_;omega) ?_;intro N b2 I M K T S);obtain⟨R,Q,P⟩:=dB M.ownB ((bQ.of_below Y).trans T) S;go_wp2;go_ret;exact⟨N,b2,rfl,R,Q,fun i L=>(P i L).imp id (fun k=>dD Y.size k)⟩
theorem UR{r:bV}(h:wR r)(w:aK):Calls prog 96 #[F7 r] w (ag8 w (fQ r) (fQ r)):=by
 obtain⟨Z,P,L,M⟩:=ES w 68 (Ej r);have K:=ay M;have U:=KQ h;change Hid _ at P;cases h with
 |fail c hc=>
  obtain⟨p,T,I,Q,m⟩:=gV L;have y:c%256=c:=aj
  have HO:=ay (OwnB.built (w:=Z) (base:=w.heap.size) (l:=[c]) M.size bK);have U:fQ ⟨50,0,0,0,c⟩=[c]:=by rw[U];show [c%256]=[c];rw[y]
  have HE:=ay (M.alloc M.size (aS #[.int .u8 c] 5));rw[U];clear U M L;go_enter func96,ntmps96;go_upto_region 1 with(fail)
  change Code.wp _ _ _ _ (w.alloc _);rw[←P];go_wp2_with fail;go_ret;exact⟨_,_,rfl,HO,HE⟩
 |start s n hs hn=>
  obtain⟨p,T,I,Q,m⟩:=gV L;have y:n%256=n:=aj
  have EU:Hid (IntKind.u8.wrap n=n):=ay (by rw[Ew];omega);have x:aN Z.drew w 1 (aB s):=T;have d2:aN Z.drew w 2 (aB n):=I;have U:fQ ⟨48,s,n,0,0⟩=dY s++ [n]:=by rw[U];show dY s++ [n%256]=_;rw[y]
  have HP:=ay (fun w' (hw:Z.heap.size≤w'.heap.size)=>QT (base:=Z.heap.size) (n:=0) (c:=0) (A:=none) (l:=[]) (v:=s) aj w' (OwnB.nil _ _ []) hw);have hd:Z.heap.size≤Z.drew:=bC _;have O:=aJ Z (aS #[.int .u8 (IntKind.u8.wrap n)] 5);have k1:aN ((Z.alloc (aS #[.int .u8 (IntKind.u8.wrap n)] 5)).drew) w 1 (aB s):=aC T O.drew;have k2:aN ((Z.alloc (aS #[.int .u8 (IntKind.u8.wrap n)] 5)).drew) w 2 (aB n):=aC I O.drew;have g:=ay (show bF ((Z.alloc (aS #[.int .u8 (IntKind.u8.wrap n)] 5)).drew) Z 5 #[.int .u8 (IntKind.u8.wrap n)]from bF.new Z 5 #[.int .u8 (IntKind.u8.wrap n)]);rw[U];clear U M L;go_enter func96,ntmps96;go_upto_region 1 with(fail)
  change Code.wp _ _ _ _ (w.alloc _);rw[←P];go_upto_region 7 with(fail)
  go_cut [2] (fun v2 wx=>∃B b,v2=aG B 5 b∧OwnB wx Z B 5 b (dY s++ [n])∧aP Z wx)
  case first=>
   go_region_held3(fun W=>aN W w 1 (aB s)∧aN W w 2 (aB n))
    (first|with_reducible exact⟨T,I⟩|with_reducible exact⟨x,d2⟩|with_reducible exact⟨k1,k2⟩|with_reducible exact⟨aC T Y,aC I Y⟩|with_reducible exact⟨aC T (E _),aC I (E _)⟩|fail)
    (first
      |(go_at_call 140;refine(HP Z.drew hd).mono ?_;rintro e z ⟨k,b2,rfl,X,V,D⟩;have Y:aP Z z:=((aU _ Z).drew).trans (V.below (bC _) (fun i F=>absurd F (JA i)));have E:=fun o=>Y.alloc Y.size o;have H:=X.alloc (.cells #[.int .u8 (IntKind.u8.wrap n)] 5);have G:=bF.new z 5 #[.int .u8 (IntKind.u8.wrap n)];have N:=E (.cells #[.int .u8 (IntKind.u8.wrap n)] 5);have t:=N.size)
      |(go_at_call 140;refine(HP (Z.alloc (.cells #[.int .u8 (IntKind.u8.wrap n)] 5)).drew O.size).mono ?_;rintro e z ⟨k,b2,rfl,X,V,D⟩;have Y:aP Z z:=(O.drew).trans (V.below O.size (fun i F=>absurd F (JA i)));have H:=X;have G:=g.dH V (JA _);have N:=Y;have t:=Y.size)
      |(refine RX PS (v:=IntKind.u8.wrap n) kE (.tmp 19) (.tmp 23) kE kE H.e kE G (by show(_+1)*1≤_;omega) t aj ?_;intro B3 b3 w3 o3 f qg qf;have Y:=N.trans f)
      |fail)
   all_goals(
    go_wp2_with fail;go_meet;exact⟨_,_,rfl,by have:=o3.ownB;rw[EU]at this;exact this,Y⟩)
  case rest=>
   obtain⟨B,b,rfl,o,M⟩:=hcut;go_wp2_with fail;go_ret;exact⟨_,_,rfl,o.lower K.size,K.trans (M.mono K.size)⟩
 |done s n l hs hn hl=>
  obtain⟨p,T,I,Q,m⟩:=gV L;have y:n%256=n:=aj
  have U:fQ ⟨49,s,n,l,0⟩=[n]++dY l++dY s:=by rw[U];show [n%256]++_++_=_;rw[y]
  have C:=aJ Z (aS #[.int .u8 n] 5);obtain⟨d,a⟩:=aV (bF.new Z 5 #[.int .u8 n]) (dX.nil (R:=PS) (Z.alloc (aS #[.int .u8 n] 5)) Z);rw[U];change Hid _ at C;clear U M;go_enter func96,ntmps96;go_upto_region 1 with(fail)
  change Code.wp _ _ _ _ (w.alloc _);rw[←P];go_upto_region 9 with(first|(at_builtin;refine BA PS (v:=n) rfl _ _ rfl rfl a rfl d (by show(_+1)*1≤_;omega) C.size aj ?_;intro B7 b7 u o7 q qa qe)|fail)
  have J:aP Z u:=C.trans q;have e3:=Q;have e9:=T;have Q:=aC Q J;have T:=aC T J;have j:aN u.drew w 3 (aB l):=Q;have x:aN u.drew w 1 (aB s):=T;have own:=o7.ownB.drew;have Y:aP Z u.drew:=J.drew;have S:Z.heap.size≤u.drew:=Y.size;have HX:=ay (gV L);clear q qa qe o7 L J
  go_region_held3(fun W=>aN W w 3 (aB l)∧aN W w 1 (aB s))
   (first|with_reducible exact⟨Q,T⟩|with_reducible exact⟨j,x⟩|with_reducible exact⟨aC e3 Y,aC e9 Y⟩|fail)
   (first
     |(go_at_call 140;refine(QT aj _ own S).mono ?_;rintro e z ⟨k,b2,rfl,X,V,D⟩;have Y:=Y.trans (V.below S (fun i F=>(own.e.dN F).1));have S:=Y.size;have own:=X)
     |fail)
  go_wp2_with fail;go_ret;exact⟨_,_,rfl,own.lower K.size,K.trans (Y.mono K.size)⟩
 |fin s l hs hl=>
  obtain⟨p,T,I,Q,m⟩:=gV L;have j:aN Z.drew w 3 (aB l):=Q;have x:aN Z.drew w 1 (aB s):=T;have U:fQ ⟨51,s,0,l,0⟩=[]++dY l++dY s:=U;have own:OwnB Z.drew Z none 0 0 []:=OwnB.nil _ _ [];have Y:aP Z Z.drew:=(aU _ Z).drew;have S:Z.heap.size≤Z.drew:=Y.size;rw[U];clear U M L;go_enter func96,ntmps96;go_upto_region 1 with(fail)
  change Code.wp _ _ _ _ (w.alloc _);rw[←P];go_upto_region 9 with(fail)
  go_region_held3(fun W=>aN W w 3 (aB l)∧aN W w 1 (aB s))
   (first|with_reducible exact⟨Q,T⟩|with_reducible exact⟨j,x⟩|with_reducible exact⟨aC Q Y,aC T Y⟩|fail)
   (first
     |(go_at_call 140;refine(QT aj _ own S).mono ?_;rintro e z ⟨k,b2,rfl,X,V,D⟩;have Y:=Y.trans (V.below S (fun i F=>(own.e.dN F).1));have S:=Y.size;have own:=X)
     |fail)
  go_wp2_with fail;go_ret;exact⟨_,_,rfl,own.lower K.size,K.trans (Y.mono K.size)⟩
theorem aem{b o:Nat}(h:Lb w (some (aH b o)) n l)(S:i≤j)(R:j≤n):Lb w (some (aH b (o+i))) (j-i) ((l.drop i).take (j-i)):=by
 have Q:=h.len;refine⟨by rw[xO,Hw];omega,bK,fun W=>⟨b,o+i,rfl,fun k u Z=>?_⟩⟩;rw[xO,Hw]at W;obtain⟨P,O,e,V⟩:=h.rd.2 aj;injection e with e
 injection e with U T
 subst U;subst T;rw[List.map_take,List.map_drop]at Z
 have Y:k<j-i:=by
  rcases Nat.lt_or_ge k (j-i)with X|X
  ·exact X
  ·rw[IU jy]at Z;cases Z
 rw[kW Y,Rx]at Z;have:=V (i+k) u Z;rwa[←iO]at this
theorem TY{b o:Nat}{I J:Int}(h:Lb w (some (aH b o)) n l)(S:n≤c)(X:i≤j)(W:j≤n)(hi:i<c)(V:I=i)(U:J=j):Lb w (some (aH b (o+i))) (j-i) ((l.drop i).take (j-i))∧
  (∀Z,(Instr.slice 24 (aG (some (aH b o)) n c) (some (aB I)) (some (aB J)) none).run prog Z= .ok (aG (some (aH b (o+i))) (j-i) (c-i)) Z)∧
  ∀Z,(Instr.sliceAt 24 (aG (some (aH b o)) n c) (some (aB I)) (some (aB J)) none).run prog Z= .ok (aG (some (aH b (o+i))) (j-i) (c-i)) Z:=by
 subst V U
 have Y:∀Z,(Instr.slice 24 (aG (some (aH b o)) n c) (some (aB (i:Int))) (some (aB (j:Int))) none).run prog Z= .ok (aG (some (aH b (o+i))) (j-i) (c-i)) Z:=fun Z=>by
  rw[run_slice_lh (P:=prog) (w:=Z) (t:=24) (a:=some (aH b o)) (len:=n) (cap:=c) (ht:=aW) (kl:=.i64) (kh:=.i64) (l:=i) (h:=j) (h0:=aj) (h1:=aj) (h2:=aj)];have T:(sizeOf (prog.elem 24)).run prog Z= .ok 1 Z:=aW
  rw[T];show Result.ok (sliced _ _ _ _ _) _=_;unfold sliced;rw[au jy];simp[Addr.add]
 refine⟨aem h X W,Y,fun Z=>?_⟩;rw[ng (P:=prog) (w:=Z) 24 _ _ _ _ aW];exact Y Z
theorem adh{b o:Nat}{J:Int}(h:Lb w (some (aH b o)) n l)(U:n≤c)(X:j≤n)(h0:0<c)(W:J=j):Lb w (some (aH b o)) j (l.take j)∧
  (∀Z,(Instr.slice 24 (aG (some (aH b o)) n c) none (some (aB J)) none).run prog Z= .ok (aG (some (aH b o)) j c) Z)∧
  ∀Z,(Instr.sliceAt 24 (aG (some (aH b o)) n c) none (some (aB J)) none).run prog Z= .ok (aG (some (aH b o)) j c) Z:=by
 subst W
 have Y:∀Z,(Instr.slice 24 (aG (some (aH b o)) n c) none (some (aB (j:Int))) none).run prog Z= .ok (aG (some (aH b o)) j c) Z:=fun Z=>by
  rw[run_slice_h (P:=prog) (w:=Z) (t:=24) (a:=some (aH b o)) (len:=n) (cap:=c) (ht:=aW) (kh:=.i64) (h:=j) (h0:=aj) (h2:=aj)];have V:(sizeOf (prog.elem 24)).run prog Z= .ok 1 Z:=aW
  rw[V];show Result.ok (sliced _ _ _ _ _) _=_;unfold sliced;rw[au aj];simp[Addr.add]
 have:=aem h (dS j) X;refine⟨this,Y,fun Z=>?_⟩;rw[ng (P:=prog) (w:=Z) 24 _ _ _ _ aW];exact Y Z
theorem blk4{a b c d:cO}(h:bF w g t #[V,U,Z,Y]):bF ((((w.setCell ⟨g,0,none⟩ a).setCell ⟨g,1,none⟩ b).setCell ⟨g,2,none⟩ c).setCell ⟨g,3,none⟩ d) g t #[a,b,c,d]:=(((h.store 0 a).store 1 b).store 2 c).store 3 d
theorem Fv{W W2:aK}{T a b c d:cO}(h:bF W2 g t #[V,U,X,T])(S:aP W W2)(Y:W≤g):∃Z,Z=(((W2.setCell ⟨g,0,none⟩ a).setCell ⟨g,1,none⟩ b).setCell ⟨g,2,none⟩ c).setCell ⟨g,3,none⟩ d∧
  (aN Z g 0 a∧aN Z g 1 b∧aN Z g 2 c∧aN Z g 3 d)∧aP W Z:=by
 have k:=blk4 (a:=a) (b:=b) (c:=c) (d:=d) h;exact⟨_,rfl,⟨k.at rfl,k.at rfl,k.at rfl,k.at rfl⟩,(((S.setCell Y _).setCell Y _).setCell Y _).setCell Y _⟩
theorem VW{v:aK}{a b c d:cO}(h:bF v g t #[a,b,c,d])(Y:aP w v)(Z:aP v u):aP w u∧bF u g t #[a,b,c,d]∧
  (aN u g 0 a∧aN u g 1 b∧aN u g 2 c∧aN u g 3 d)∧u.frozen? (aH g 0)=false∧u.frozen? (aH g 1)=false∧u.frozen? (aH g 2)=false∧u.frozen? (aH g 3)=false:=by
 have k:=h.keep Z;exact⟨Y.trans (Z.mono Y.size),k,⟨k.at rfl,k.at rfl,k.at rfl,k.at rfl⟩,k.frozen 0,k.frozen 1,k.frozen 2,k.frozen 3⟩
theorem or4{x y c d:Int}(Z:0≤x∧x≤255)(Y:0≤y∧y≤255)(X:0≤c∧c≤255)(W:0≤d∧d≤255):
  (IntKind.u32.wrap (x*16777216)=x*16777216∧IntKind.u32.wrap (y*65536)=y*65536∧IntKind.u32.wrap (c*256)=c*256)∧
  bits .or .u32 (x*16777216) (y*65536)=x*16777216+y*65536∧bits .or .u32 (x*16777216+y*65536) (c*256)=x*16777216+y*65536+c*256∧
  bits .or .u32 (x*16777216+y*65536+c*256) d=x*16777216+y*65536+c*256+d:=by
 refine⟨⟨IntWalk.u32_in _ aj,IntWalk.u32_in _ aj,IntWalk.u32_in _ aj⟩,?_,?_,?_⟩
 ·have:=adi (v:=x) (b:=y*65536) 24 aj aj aj aj
  rw[(aj:x*2^24=x*16777216)]at this;exact this
 ·have:=adi (v:=x*256+y) (b:=c*256) 16 aj aj aj aj
  rw[show(x*256+y)*2^16=x*16777216+y*65536 by omega]at this;exact this
 ·have:=adi (v:=x*65536+y*256+c) (b:=d) 8 aj aj aj aj
  rw[show(x*65536+y*256+c)*2^8=x*16777216+y*65536+c*256 by omega]at this;exact this
theorem or3{x y c:Int}(Z:0≤x∧x≤255)(Y:0≤y∧y≤255)(X:0≤c∧c≤255):
  (IntKind.i64.wrap (x*65536)=x*65536∧IntKind.i64.wrap (y*256)=y*256)∧
  bits .or .i64 (x*65536) (y*256)=x*65536+y*256∧bits .or .i64 (x*65536+y*256) c=x*65536+y*256+c:=by
 refine⟨⟨iE _ aj,iE _ aj⟩,?_,?_⟩
 ·have:=VU (v:=x) (b:=y*256) 16 aj aj aj aj
  simpa using this
 ·have:=VU (v:=x*256+y) (b:=c) 8 aj aj aj aj
  rw[show(x*256+y)*2^8=x*65536+y*256 by omega]at this;exact this
theorem JL(l:aO)(i j:Nat):(l.drop i).getD j 0=l.getD (i+j) 0:=by
 rw[dG,dG,Rx]
theorem VX(h1:0≤(l.drop i).getD 1 0)(h2:0≤(l.drop i).getD 2 0)(Z:0≤(l.drop i).getD 3 0):(iL l i:Int)=(l.drop i).getD 1 0*65536+(l.drop i).getD 2 0*256+(l.drop i).getD 3 0:=by
 rw[JL]at*;rw[JL]at*;rw[JL]at*;unfold iL nS;omega
def QU(l:aO)(i:Nat):Prop:=i+4≤l.length→¬nS l i=0→iL l i≤65536∧(i+iL l i+8≤l.length→jf ((l.drop i).take (4+iL l i))=yw l (i+4+iL l i))
theorem OV{u:Y8}(h:nH l i=some u):QU l i:=by
 intro X Z;unfold nH at h;rw[au aj,au Z,au aj]at h;split at h
 ·cases h
 ·rename_i W
  refine⟨aj,fun V=>?_⟩;rw[au aj]at h;split at h
  ·cases h
  ·rename_i Y
   exact xP.1 Y
theorem Ua{k:Int}(w:aK)(h:aN w g 0 (aB i)):
  Calls prog 93 #[k,aY g] w fun e U=>∃T x,e=bM (eP #[.agg #[aB 0,bU,aB 0,aB 0],.iface T x])∧aP w U:=by
 have S:=bF.new w 124 #[aB 0,bU,aB 0,aB 0];have Z:=aJ w (aS #[aB 0,bU,aB 0,aB 0] 124);have M:=aC h Z;go_enter func93,ntmps93;go_wp2_with(go_at_call 49;refine(xI _ _ _ _ _).aQ ?_;rintro L ⟨-,Y⟩;obtain⟨X,R,⟨K,J,I,H⟩,G,F,E,D⟩:=VW S Z Y);obtain⟨C,W,⟨Q,P,O,N⟩,V⟩:=Fv R X (bC _);rw[←W];refine aT (by simp[results,results93,go_sem,Q,P,O,N];rfl) rfl ?_;exact⟨_,_,rfl,V⟩
def ajW(w:aK)(i:Nat)(r:Option Y8)(e:Ending)(w':aK):Prop:=
 aP w w'∧match r with
  |some u=>∃B b,e= .returned (.tuple #[.agg #[.int .i64 u.kind,.slice B u.data.length b,.int .i64 i,.int .i64 u.fin],.nilIface])∧OwnB w' w.heap.size B u.data.length b u.data
  |none=>∃T x,e= .returned (.tuple #[.agg #[.int .i64 0,.slice none 0 0,.int .i64 0,.int .i64 0],.iface T x])
theorem abu(hn:n≤1000000000)(hb:Bd 0 255 l)(w:aK)(hA:Lb w A n l)(hc:n≤c)(hi:i≤n)
  (hU:QU l i):
  Calls prog 57 #[aG A n c,i] w (ajW w i (nH l i)):=by
 have qV:=hA.len;have HA:=ay (fun w' (h:aP w w')=>hA.keep h);change Hid _ at hb;clear hA;go_enter func57,ntmps57;have X0:=bF.new w 3 #[i];have G:=bF.new1 w (aS #[i] 3) 124 #[aB 0,bU,aB 0,aB 0];have qo:=gU w (aS #[i] 3) (aS #[aB 0,bU,aB 0,aB 0] 124);go_upto_region 1 with(fail)
 obtain⟨P,qa⟩:=kF ((w.alloc (aS #[i] 3)).alloc (aS #[aB 0,bU,aB 0,aB 0] 124));have qJ:P.heap.size=w+2:=by rw[qa];simp
 rw[←qa]at qo G ⊢;have X0:bF P w 3 #[i]:=by rw[qa];exact X0.alloc _
 have e0:∀w',aP P w'→aN w' w 0 (aB i):=fun w' h=>(X0.keep h).at rfl
 have x0:=e0 _ (aU _ _);obtain⟨y0,y1,y2,y3⟩:=G.s4;have f0:=G.frozen 0;have f1:=G.frozen 1;have f2:=G.frozen 2;have f3:=G.frozen 3;obtain⟨qZ,N,zE,U,za⟩:=rG e0 G X0 qo qJ;clear qa e0 X0 G qo qJ
 by_cases qq:i<n
 ·obtain⟨q,o,rfl,B⟩:=(HA P U).at_ qq
  have qK:q<w:=by
   obtain⟨b1,o1,e,k1⟩:=(HA w (aU _ _)).at_ qq;injection e with e
   injection e with F e2
   subst F;exact lt_of_cell k1
  have zb:=ay qK;clear qK
  by_cases h0:nS l i=0
  ·have t:nH l i=some ⟨0,[],i+1⟩:=by unfold nH;rw[au aj,aF h0]
   unfold nS at h0;rw[h0]at B;have qW:(i:Int)<(n:Int):=aj
   go_wp2_with fail;obtain⟨wx,Z,⟨s,g,f,z3⟩,V⟩:=Fv (d:=aB (i+1)) N U (iF _ 1);rw[←Z];refine aT (by simp[results,results57,go_sem,s,g,f,z3];rfl) rfl ?_;rw[t];exact⟨V,none,0,bK,OwnB.nil _ _ []⟩
  ·have qr:¬l.getD i 0=0:=h0
   obtain⟨hT,zF,zD⟩:=Lr (HA P U) hc qq;have zG:∀(fn:Fn) (first qL:Array cO) (w:aK),(Instr.makeFunc fn first qL).run prog w= .ok (.func fn first qL) w:=fun _ _ _ _=>rfl
   have qW:(i:Int)<(n:Int):=aj
   by_cases h4:n<i+4
   ·have t:nH l i=none:=by unfold nH;rw[au aj,au h0,aF aj]
    have zc:((n-i:Nat):Int)<4:=aj
    generalize l.getD i 0=M at B qr;have ze:=ay (fun k=>Ua (k:=k) P x0);go_wp2_with(refine(ze _).mono ?_;rintro e w3 ⟨T,x,rfl,qs⟩;obtain⟨qt,X3,⟨y0,y1,y2,y3⟩,f0,f1,f2,f3⟩:=VW N U qs);obtain⟨wx,Z,⟨s,g,f,z3⟩,V⟩:=Fv (a:=aB 0) (b:=bU) (c:=aB 0) (d:=aB 0) X3 qt (iF _ 1);rw[←Z];refine aT (by simp[results,results57,go_sem,s,g,f,z3];rfl) rfl ?_;rw[t];exact⟨V,_,_,rfl⟩
   ·have zc:¬((n-i:Nat):Int)<4:=aj
    have t1:=hT.at_ (i:=1) aj;have t2:=hT.at_ (i:=2) aj;have t3:=hT.at_ (i:=3) aj;obtain⟨_,_,F,t1⟩:=t1;obtain⟨_,_,e2,t2⟩:=t2;obtain⟨_,_,e3,t3⟩:=t3;injection F with F;injection F with qu qv;subst qu;subst qv
    injection e2 with e2;injection e2 with qw qy;subst qw;subst qy
    injection e3 with e3;injection e3 with qz qA;subst qz;subst qA
    have d1:=dO (l:=l.drop i) (fun v hv=>hb.out v (gZ hv)) aj aj 1;have d2:=dO (l:=l.drop i) (fun v hv=>hb.out v (gZ hv)) aj aj 2;have d3:=dO (l:=l.drop i) (fun v hv=>hb.out v (gZ hv)) aj aj 3;have hL:=VX (l:=l) (i:=i) d1.1 d2.1 d3.1;have qB:=ay (hU aj h0);have d0:=dO hb.out aj aj i;obtain⟨M,qC⟩:∃M,l.getD i 0=M:=⟨_,rfl⟩;have qD:=ay qC;rw[qC]at B qr d0;clear qC;generalize(l.drop i).getD 1 0=b1 at*;generalize(l.drop i).getD 2 0=b2 at*;generalize(l.drop i).getD 3 0=b3 at*;have g1:1<n-i:=aj
    have g2:2<n-i:=aj
    have g3:3<n-i:=aj
    obtain⟨qM,qe⟩:=qB.out
    have R:nH l i=if n<i+iL l i+8 then none else some ⟨nS l i,(l.drop (i+4)).take (iL l i),i+8+iL l i⟩:=by
     unfold nH;rw[au aj,au h0,au aj,au aj,qV];split
     ·rfl
     ·rename_i h8
      rw[au (by rw[qe aj];simp)]
    have zf:nS l i=M:=qD.out;rw[zf]at R h0;generalize iL l i=L at*;obtain⟨qX,E⟩:=aV (fun nq k=>Ua (k:=k) (P.drewN nq) (qZ.out _ (jM (aU _ _) nq))) (show wrap64 (((n-i:Nat):Int)-8)=((n-i:Nat):Int)-8 from U3 _ aj);have zH:(L:Int)≤65536:=aj
    have D:=ay hL
    by_cases h8:n<i+L+8
    ·have t:nH l i=none:=by rw[R,aF h8]
     have zg:((n-i:Nat):Int)-8<(L:Int):=aj
     clear qM qe R hL qB qD h8;obtain⟨⟨qi,qj⟩,qN,qf⟩:=or3 d1 d2 d3;rw[←D]at qf;have E:=E.out;go_upto_region 10 with(fail)
     go_quiet(fail)
     go_wp2_with(refine(qX _ _).mono ?_;rintro e w3 ⟨T,x,rfl,qs⟩;obtain⟨qt,X3,⟨y0,y1,y2,y3⟩,f0,f1,f2,f3⟩:=VW N U ((jM (aU _ _) nq).trans qs));obtain⟨wx,Z,⟨s,g,f,z3⟩,V⟩:=Fv (a:=aB 0) (b:=bU) (c:=aB 0) (d:=aB 0) X3 qt (iF _ 1);rw[←Z];refine aT (by simp[results,results57,go_sem,s,g,f,z3];rfl) rfl ?_;rw[t];exact⟨V,_,_,rfl⟩
    ·have t:nH l i=some ⟨M,(l.drop (i+4)).take L,i+8+L⟩:=by rw[R,au h8]
     have zg:(L:Int)≤((n-i:Nat):Int)-8:=aj
     have S:n-i≤c-i:=aj
     obtain⟨K,qO,qP⟩:=TY (i:=4+L) (j:=8+L) (I:=4+(L:Int)) (J:=8+(L:Int)) hT S aj aj aj aj aj;obtain⟨qE,zh,zi⟩:=adh (j:=4+L) (J:=4+(L:Int)) hT S aj aj aj;obtain⟨qF,zj,zk⟩:=TY (i:=4) (j:=4+L) (I:=4) (J:=4+(L:Int)) hT S aj aj aj aj aj;have e4:8+L-(4+L)=4:=aj
     have e5:4+L-4=L:=aj
     rw[e4]at K;rw[e5]at qF;simp only[e4,e5]at qO qP zj zk;clear e4 e5;have Q:=qe aj;have qg:=fun j=>dO hb.out aj aj (i+4+L+j)
     have zl:∀j,(((l.drop i).drop (4+L)).take 4).getD j 0=if j<4 then l.getD (i+4+L+j) 0 else 0:=fun j=>by
      rw[dG,List.getElem?_take];split
      ·rw[List.drop_drop,Rx,←dG]
       congr 1
       omega
      ·rfl
     have u0:=K.at_ (i:=0) aj;have u1:=K.at_ (i:=1) aj;have u2:=K.at_ (i:=2) aj;have u3:=K.at_ (i:=3) aj;obtain⟨_,_,e0,u0⟩:=u0;obtain⟨_,_,F,u1⟩:=u1;obtain⟨_,_,e2,u2⟩:=u2;obtain⟨_,_,e3,u3⟩:=u3;injection e0 with e0;injection e0 with zm zn;subst zm;subst zn
     injection F with F;injection F with qu qv;subst qu;subst qv
     injection e2 with e2;injection e2 with qw qy;subst qw;subst qy
     injection e3 with e3;injection e3 with qz qA;subst qz;subst qA
     rw[zl,aF aj]at u0 u1 u2 u3;rw[dW]at u0;have v0:=qg 0;have v1:=qg 1;have v2:=qg 2;have v3:=qg 3;have qk:yw l (i+4+L)=l.getD (i+4+L+0) 0*16777216+l.getD (i+4+L+1) 0*65536+l.getD (i+4+L+2) 0*256+l.getD (i+4+L+3) 0:=rfl;generalize l.getD (i+4+L+0) 0=s0 at*;generalize l.getD (i+4+L+1) 0=s1 at*;generalize l.getD (i+4+L+2) 0=s2 at*;generalize l.getD (i+4+L+3) 0=s3 at*;rw[qk]at Q;unfold jf at Q;rw[show((l.drop i).take (4+L)).length=4+L by have:=qE.len;exact this]at Q;obtain⟨C,qG,qH,H⟩:=jH (fun w' (hk:aP P w')=>Qj (c:=c-i) aj (fun v hv=>hb.out v (gZ (D7 hv))) w' (qE.keep hk)) (show wrap64 (4+(L:Int))=4+(L:Int)from U3 _ aj) (show wrap64 (8+(L:Int))=8+(L:Int)from U3 _ aj) (show IntKind.i64.wrap (4+(L:Int))=4+(L:Int)from iE _ aj);clear qM qe R hL qB qD h8;obtain⟨⟨qi,qj⟩,qN,qf⟩:=or3 d1 d2 d3;rw[←D]at qf;have E:=E.out;go_upto_region 10 with(fail)
     go_quiet(fail)
     revert nq
     intro na;go_upto_region 15 with(fail)
     rw[Q]at C
     have qh:∀q,Calls prog 94 #[aG (some (aH _ _)) (4+L) (c-i)] (P.drewN (na+q)) fun e zo=>e=bM (.int .u32 (s0*16777216+s1*65536+s2*256+s3))∧∃m,zo=P.drewN (na+m):=
      fun q=>(C (P.drewN (na+q)) (jM (aU _ _) _)).mono fun _ _ h=>⟨h.1,q,h.2.symm⟩
     have qh:=ay qh;obtain⟨⟨q1,q2,q3⟩,w1,w2,w3⟩:=or4 v0 v1 v2 v3;have qG:=qG.out;have qH:=qH.out;have H:=H.out
     go_quiet((go_at_call 94;exact qh.out _))
     revert nq
     intro nb;go_upto_region 17 with(fail)
     clear qG qH H w1 w2 w3 q1 q2 q3 E qi qj qN qf qk Q qh C;obtain⟨O,qI⟩:=kF ((P.drewN na).drewN nb);have X:aP P O:=by rw[qI];exact jM (jM (aU _ _) _) _
     rw[←qI];clear qI;have x0:=aC x0 X;have B:=aC B X;obtain⟨N,zq,qY⟩:=dB (N.out.keep X) (qF.keep X) (U.out.trans (X.mono U.out.size));have qQ:Hid (w.heap.size+2≤O.heap.size):=ay (by have:=za.out;have:=X.size;omega);have D:Hid (L≤65536):=ay aj;have zr:Hid (w.heap.size≤O):=ay (by have:=qQ.out;omega);obtain⟨qR,qS,qT,H⟩:=jH (show IntKind.i64.wrap M=M from iE _ aj) (show IntKind.i64.wrap ((i:Int)+8)=(i:Int)+8 from iE _ aj) (show IntKind.i64.wrap ((i:Int)+8+(L:Int))=(i:Int)+8+(L:Int)from iE _ aj) (show IntKind.i64.wrap (4+(L:Int))=4+(L:Int)from iE _ aj);have qS:=qS.out;have qT:=qT.out;have H:=H.out;have qR:=qR.out;have zI:0<n-i:=aj
     have zJ:(0:Int)<((n-i:Nat):Int):=aj
     clear hT K qE qF qO qP zh zi u0 u1 u2 u3 t1 t2 t3 v0 v1 v2 v3 d1 d2 d3;have zt:aN O.drew w 0 (aB i):=x0;have zu:aN O.drew q (o+i) (.int .u8 M):=B;have zv:∀o,aN ((O.alloc o).drew) w 0 (aB i):=fun o=>aC x0 (aJ O o).drew
     have zw:∀x,aN ((O.alloc x).drew) q (o+i) (.int .u8 M):=fun x=>aC B (aJ O x).drew
     go_region_held3(fun W=>aN W w 0 (aB i)∧aN W q (o+i) (.int .u8 M))
      (first|with_reducible exact⟨zt,zu⟩|with_reducible exact⟨x0,B⟩|with_reducible exact⟨zv _,zw _⟩|with_reducible exact⟨aC x0 hk,aC B hk⟩|with_reducible exact⟨bG (aC x0 hk) (S _ _ _ _) ql,bG (aC B hk) (S _ _ _ _) qm⟩|fail)
      (first
        |(refine Pq (base:=O.heap.size) (l:=[]) (r:=(l.drop i |>.drop 4).take L) kE (.tmp 115) (.tmp 119) kE kE ((OwnB.empty O O (bC _)).drew) kE (zq.out.keep (aJ O _).drew) (by have:=D.out;omega) bK ?_;intro B1 b1 w1 o1 zx zK;have hk:aP O w1:=((aJ O _).drew).trans (zx.mono (bC _));have Y:=N.out.keep hk;have y0:aN w1 (w.heap.size+1) 0 (.int .i64 0):=(Y.at rfl);have y1:aN w1 (w.heap.size+1) 1 (.slice none 0 0):=(Y.at rfl);have y2:aN w1 (w.heap.size+1) 2 (.int .i64 0):=(Y.at rfl);have y3:aN w1 (w.heap.size+1) 3 (.int .i64 0):=(Y.at rfl);have g0:=Y.frozen 0;have g1:=Y.frozen 1;have g2:=Y.frozen 2;have g3:=Y.frozen 3;have S:=fun u v z y=>((((bQ.refl (fun i=>i=w+1) w1).setCell (p:=⟨w.heap.size+1,0,none⟩) (fun _=>rfl) u).setCell (p:=⟨w.heap.size+1,1,none⟩) (fun _=>rfl) v).setCell (p:=⟨w.heap.size+1,2,none⟩) (fun _=>rfl) z).setCell (p:=⟨w.heap.size+1,3,none⟩) (fun _=>rfl) y;have ql:¬w.heap.size=w+1:=aj;have qm:¬q=w+1:=(by have:=zb.out;omega))
        |fail)
     obtain⟨wx,Z,⟨s,g,f,z3⟩,V⟩:=Fv (a:=aB M) (b:=aG B1 L b1) (c:=aB i) (d:=aB ((i:Int)+8+L)) Y (qY.out.trans (hk.mono zr.out)) (iF _ 1);have zy:=S (aB M) (aG B1 L b1) (aB i) (aB ((i:Int)+8+L));have zA:bQ (fun i=>i=w+1) w1 wx:=by rw[Z];exact zy
     have qr:=qQ.out;have zC:=D.out
     have zB:OwnB wx w B1 L b1 ((l.drop (i+4)).take L):=by
      have h1:=(o1.dH zA fun j hj e=>by have:=(o1.lt hj).1;omega).lower (b:=w.heap.size) aj;rw[dI,jI,List.drop_drop]at h1;exact h1
     clear y0 y1 y2 y3 g0 g1 g2 g3 Y hk S ql qm;go_wp2_with fail;rw[←Z];refine aT (by simp[results,results57,go_sem,s,g,f,z3];rfl) rfl ?_;rw[t];have qU:((l.drop (i+4)).take L)=L:=by rw[xO,Hw];omega
     refine⟨V,B1,b1,?_,?_⟩
     ·rw[qU]
      have F:((i+8+L:Nat):Int)=(i:Int)+8+L:=aj
      show _=Ending.returned (eP #[.agg #[aB M,aG B1 L b1,aB i,aB ((i+8+L:Nat):Int)],iI]);rw[F]
     ·rw[qU]
      exact zB
 ·have t:nH l i=none:=by unfold nH;rw[aF aj]
  obtain rfl:i=n:=aj
  go_wp2_with fail;obtain⟨wx,Z,⟨s,g,f,z3⟩,V⟩:=Fv (a:=aB 0) (b:=bU) (c:=aB 0) (d:=aB 0) N.out U.out (iF _ 1);rw[←Z];refine aT (by simp[results,results57,go_sem,s,g,f,z3];rfl) rfl ?_;rw[t];exact⟨V,_,_,rfl⟩
section
structure bI.ok(X:bI):Prop where
 ch:X.chunks≤16
 bad:X.bad=0∨(1≤X.bad∧X.bad≤15∧X.chunks=0)
 good:X.bad=0→1≤X.chunks
 key:0≤X.key∧X.key≤4294967295
 pk:∀n,n<X.chunks→(X.pk n).length≤16777216
 out:X.out.length≤16777216
inductive gq(X:bI):bV→Prop
 |start:gq X ⟨48,X.key,X.chunks,0,0⟩
 |done (n:Nat) (h:n<X.chunks):gq X (iJ 49 n (X.pk n))
 |fail (h:X.bad≠0):gq X ⟨50,0,0,0,X.bad⟩
 |fin (h:X.bad=0):gq X (iJ 51 0 X.out)
variable{X:bI}
theorem BZ{v a b:Int}(h:a≤v∧v≤b):Fb v a b=true:=su h
theorem gq.may(Z:X.ok){r:bV}(h:gq X r):jQ r=true:=by
 have W:=Z.ch;cases h with
 |start=>
  unfold jQ Aa Et;simp[FQ,bV.same,BZ Z.key,BZ (show(0:Int)≤(X.chunks:Int)∧(X.chunks:Int)≤16 by omega)]
 |done n h=>
  have Y:=Z.pk n h;unfold jQ Aa Et iJ;simp[FQ,bV.same,BZ (BJ (X.pk n)),BZ (show(0:Int)≤((X.pk n).length:Int)∧((X.pk n).length:Int)≤16777216 by omega),BZ (show(0:Int)≤(n:Int)∧(n:Int)≤15 by omega)]
 |fail h=>
  have V:=Z.bad;unfold jQ Aa Et;simp[FQ,bV.same,BZ (show(1:Int)≤X.bad∧X.bad≤15 by omega)]
 |fin h=>
  have Y:=Z.out;unfold jQ Aa Et iJ;simp[FQ,bV.same,BZ (BJ X.out),BZ (show(0:Int)≤(X.out.length:Int)∧(X.out.length:Int)≤16777216 by omega)]
def xU(X:bI)(b:aO):Prop:=∃l c m,(∀r∈l,gq X r)∧gq X c∧m<(bH c).length∧b=bD l++(bH c).take m
def Em(X:bI)(b:aO):Prop:=∃l,(∀r∈l,gq X r)∧b=bD l
theorem Em.jl(h:Em X b):xU X b:=by
 obtain⟨l,Z,rfl⟩:=h;exact⟨l,_,0,Z,.start,by rw[kN];omega,bK⟩
theorem Au(l m:List bV):bD (l++m)=bD l++bD m:=by simp[bD]
theorem Em.app{b:aO}(h:Em X b){r:bV}(hr:gq X r):Em X (b++bH r):=by
 obtain⟨l,h1,rfl⟩:=h;refine⟨l++ [r],?_,by rw[Au];simp[bD]⟩;intro x hx;rcases rH.1 hx with hx|hx
 ·exact h1 x hx
 ·grind
theorem Em.part(h:Em X b){r:bV}(Z:gq X r)(k:Nat):xU X (b++(bH r).take k):=by
 by_cases Y:k<(bH r)
 ·obtain⟨l,W,rfl⟩:=h
  exact⟨l,r,k,W,Z,Y,rfl⟩
 ·rw[wO aj]
  exact(h.app Z).jl
theorem xU.take{b:aO}(h:xU X b)(k:Nat):xU X (b.take k):=by
 obtain⟨l,c,m,h1,h2,h3,rfl⟩:=h
 induction l generalizing k with
 |nil=>
  simp only[bD,List.flatMap_nil,jI,List.take_take];exact⟨[],c,min k m,bK,h2,aj,by simp[bD]⟩
 |cons r l ih=>
  have e1:bD (r::l)++(bH c).take m=bH r++(bD l++(bH c).take m):=by simp[bD]
  rw[e1]
  by_cases hk:k<(bH r)
  ·rw[List.take_append_of_le_length aj]
   exact⟨[],r,k,bK,h1 r bK,hk,by simp[bD]⟩
  ·rw[List.take_append]
   obtain⟨l2,c2,m2,k1,k2,k3,k4⟩:=ih (k-(bH r)) (fun x hx=>h1 x (by simp[hx]));rw[k4,wO aj];refine⟨r::l2,c2,m2,?_,k2,k3,by simp[bD]⟩;intro x hx;rcases je.1 hx with rfl|hx
   ·grind
   ·exact k1 x hx
theorem xU.nil:xU X []:=⟨[],_,0,bK,.start,by rw[kN];omega,by simp[bD]⟩
theorem xU.scan(Z:X.ok)(h:xU X b):∃l,(∀r∈l,gq X r)∧(J3 b).1=l∧bD l=b.take (bD l)∧(bD l).length≤b:=by
 obtain⟨l,c,m,Y,W,V,rfl⟩:=h;refine⟨l,Y,by rw[OI (fun r U=>(Y r U).may Z) (W.may Z) V],by rw[pJ],bK⟩
theorem XH(l:List bV)(n:Nat):bD (l.take n)=(bD l).take (bD (l.take n)):=by
 conv=>rhs;rw[show l=l.take n++l.drop n from(kP n l).symm,Au]
 rw[show(List.take n l++List.drop n l)=l from kP n l,pJ]
structure lQ(X:bI)(j:bT):Prop where
 fresh:j.state=0→∀n,j.done n=none
 st:j.state≤3
 of:j.state≠0→j.sum=X.key∧j.chunks=X.chunks
 fail:j.state=2→j.code=X.bad∧X.bad≠0
 fin:j.state=3→X.bad=0
 done:∀n r,j.done n=some r→n<X.chunks∧r=iJ 49 n (X.pk n)
theorem lQ.new:lQ X bT.new:=⟨fun _ _=>rfl,by show 0≤3;omega,fun h=>absurd rfl h,(fun h=>by cases h),(fun h=>by cases h),fun n r h=>by cases h⟩
theorem lQ.apply(hX:X.ok){j:bT}(h:lQ X j){r:bV}(hr:gq X r):lQ X (j.apply r).1:=by
 have hm:=hr.may hX;unfold bT.apply;rw[au (by rw[hm];simp)];cases hr with
 |start=>
  split
  ·rename_i h0
   refine⟨(fun e=>by cases e),by show 1≤3;omega,fun _=>sD,(fun e=>by cases e),(fun e=>by cases e),fun n r hn=>?_⟩;have:=h.fresh h0.1 n;rw[this]at hn;cases hn
  ·grind
 |done n hn=>
  rw[au (by rintro⟨-,e⟩;cases e)];split
  ·exact h
  ·rename_i h1
   have hs:j.state=1:=aj
   rw[aF (show(iJ 49 n (X.pk n)).kind=49 from rfl)];split
   ·exact h
   ·refine⟨fun e=>by dsimp only at e;omega,h.st,h.of,fun e=>by dsimp only at e;omega,fun e=>by dsimp only at e;omega,fun k r hk=>?_⟩
    dsimp only at hk;split at hk
    ·rename_i e
     injection hk with hk
     have e2:k=n:=by rw[e];show(n:Int).toNat=n;omega
     subst e2;exact⟨hn,hk.symm⟩
    ·exact h.done k r hk
 |fail hb=>
  rw[au (by rintro⟨-,e⟩;cases e)];split
  ·exact h
  ·rename_i h1
   have hs:j.state=1:=aj
   rw[au (show¬(50:Int)=49 by decide),aF rfl];split
   ·exact h
   ·exact⟨(fun e=>by cases e),by show 2≤3;omega,fun _=>h.of aj,fun _=>⟨rfl,hb⟩,(fun e=>by cases e),h.done⟩
 |fin hb=>
  rw[au (by rintro⟨-,e⟩;cases e)];split
  ·exact h
  ·rename_i h1
   rw[au (show¬(iJ 51 0 X.out).kind=49 by show¬(51:Int)=49;decide),au (show¬(iJ 51 0 X.out).kind=50 by show¬(51:Int)=50;decide)];split
   ·exact h
   ·exact⟨(fun e=>by cases e),by show 3≤3;omega,fun _=>h.of aj,(fun e=>by cases e),fun _=>hb,h.done⟩
theorem lQ.run(Z:X.ok):∀(l:List bV) {j:bT},lQ X j→(∀r∈l,gq X r)→lQ X (j.run l).1
 | [],j,h,_=>h
 |r::l,j,h,Y=>by
  unfold bT.run;split
  ·exact h
  ·exact lQ.run Z l (h.apply Z (Y r bK)) (fun x W=>Y x (by simp[W]))
theorem lQ.forget{j:bT}(h:lQ X j)(n:Nat):lQ X (j.forget n):=by
 unfold bT.forget;split
 ·refine⟨fun e k=>?_,h.st,h.of,h.fail,h.fin,fun k r hk=>?_⟩
  ·grind
  ·dsimp only at hk
   split at hk
   ·cases hk
   ·exact h.done k r hk
 ·exact h
end
section
def bI.cont(X:bI)(x:Nat):aO:=if x=2 then X.out else X.pk ((x-4)/2)
def dh(Z:List iD)(n:Nat):iD:=Z.getD n ⟨[],0⟩
structure DX(X:bI)(ρ:Nat→Nat)(all:List iD)(v:lD):Prop where
 lt:∀x n,v x=some n→n<all.length
 role:∀x n,v x=some n→ρ n=x/2
 inj:∀x y n,v x=some n→v y=some n→x=y
 ok:∀x n,v x=some n→x<4+2*X.chunks
 job:∀n,v 0=some n→xU X (dh all n).data
 shut:∀x n,v x=some n→x%2=0→x≠0→X.bad=0∧(dh all n).data=X.cont x∧(dh all n).safe=(dh all n).data.length
structure bY(X:bI)(ρ:Nat→Nat)(d:aI):Prop where
 last:d.names=d.view d.steps.length
 vs:∀k,k≤d.steps.length→DX X ρ d.all (d.view k)
 apart:∀k,k≤d.steps.length→∀x y n,d.names x=some n→x%2=1→y%2=0→d.view k y≠some n
variable{X:bI}{ρ:Nat→Nat}{d:aI}
theorem bY.cur(h:bY X ρ d):DX X ρ d.all d.names:=by rw[h.last];exact h.vs _ (bC _)
theorem bY.same{e:aI}(h:bY X ρ d)(h1:e.all=d.all)(h2:e.names=d.names)(V:e.safe=d.safe)(Z:e.steps=d.steps):bY X ρ e:=by
 have Y:∀k,e.view k=d.view k:=fun k=>by unfold aI.view;rw[V,Z]
 refine⟨by rw[h2,Z,Y];exact h.last,fun k W=>?_,fun k W x y n=>?_⟩
 ·rw[Y,h1];exact h.vs k (by rwa[Z]at W)
 ·rw[Y,h2];exact h.apart k (by rwa[Z]at W) x y n
theorem wX(d:aI):d.fall.all=d.all∧d.fall.names=d.names∧d.fall.safe=d.safe∧d.fall.steps=d.steps∧d.fall.room=d.room:=by
 unfold aI.fall;split<;>exact⟨rfl,rfl,rfl,rfl,rfl⟩
theorem bY.fall(h:bY X ρ d):bY X ρ d.fall:=by
 obtain⟨Z,Y,W,V,-⟩:=wX d;exact h.same Z Y W V
theorem mP(d:aI)(e:Int):(d.goes e).1.all=d.all∧(d.goes e).1.names=d.names∧(d.goes e).1.safe=d.safe∧(d.goes e).1.steps=d.steps∧(d.goes e).1.room=d.room:=by
 unfold aI.goes;split
 ·grind
 ·split
  ·grind
  ·exact wX d
theorem bY.goes(h:bY X ρ d)(e:Int):bY X ρ (d.goes e).1:=by
 obtain⟨Z,Y,W,V,-⟩:=mP d e;exact h.same Z Y W V
theorem DX.all{all all':List iD}{v:lD}(h:DX X ρ all v)(hl:all.length≤all'.length)(hs:∀n,n<all.length→(∀x,v x=some n→x%2=1)∨(v 0=some n∧xU X (dh all' n).data)∨dh all' n=dh all n):DX X ρ all' v:=by
 refine⟨fun x n e=>wP (h.lt x n e) hl,h.role,h.inj,h.ok,fun n e=>?_,fun x n e h2 h0=>?_⟩
 ·rcases hs n (h.lt 0 n e)with h1|⟨-,h1⟩|h1
  ·grind
  ·exact h1
  ·rw[h1];exact h.job n e
 ·rcases hs n (h.lt x n e)with h1|⟨h1,-⟩|h1
  ·grind
  ·exact absurd (h.inj x 0 n e h1) h0
  ·rw[h1];exact h.shut x n e h2 h0
theorem DX.rho{ρ':Nat→Nat}{Z:List iD}{v:lD}(h:DX X ρ Z v)(Y:∀n,n<Z.length→ρ' n=ρ n):DX X ρ' Z v:=
 ⟨h.lt,fun x n e=>by rw[Y n (h.lt x n e)];exact h.role x n e,h.inj,h.ok,h.job,h.shut⟩
theorem JM(d:aI)(s:DU)(k:Nat):(d.does s).view k=if k≤d.steps then d.view k else(d.steps++ [s]).foldl uO d.safe:=by
 unfold aI.view aI.does;dsimp only;split
 ·grind
 ·rw[wO jy]
theorem bY.does(h:bY X ρ d)(s:DU)(hv:DX X ρ d.all (uO d.names s))(ha:∀x n,uO d.names s x=some n→x%2=1→∀y,y%2=0→(∀k,k≤d.steps.length→d.view k y≠some n)∧uO d.names s y≠some n):bY X ρ (d.does s):=by
 have hl:(d.steps++ [s]).foldl uO d.safe=uO d.names s:=by
  rw[List.foldl_append];show uO (d.steps.foldl uO d.safe) s=_;rw[h.last];unfold aI.view;rw[uM]
 have hlen:(d.does s).steps.length=d.steps+1:=by simp[aI.does]
 refine⟨?_,fun k hk=>?_,fun k hk x y n hn hx hy=>?_⟩
 ·rw[hlen,JM,au aj,hl];rfl
 ·rw[JM,hl]
  split
  ·exact h.vs k ‹_›
  ·exact hv
 ·rw[JM,hl]
  have:=ha x n hn hx y hy;split
  ·grind
  ·exact this.2
theorem yR(f:lD)(x n y:Nat):uO f ⟨0,x,0,n⟩ y=if y=x then some n else f y:=rfl
theorem Cb(f:lD)(x z y:Nat):uO f ⟨1,x,z,0⟩ y=if y=z then some ((f x).getD 0)else if y=x then none else f y:=rfl
theorem NH(f:lD)(x y:Nat):uO f ⟨2,x,0,0⟩ y=if y=x then none else f y:=rfl
theorem bY.create(h:bY X ρ d){x:Nat}(hx:x<4+2*X.chunks)(ho:x%2=1∨x=0):∃ρ',bY X ρ' (d.create x).1:=by
 have hi:=h.goes (if(d.names x).isSome then 8 else 0);unfold aI.create;dsimp only;generalize(if(d.names x).isSome=true then(8:Int)else 0)=E at*;split
 ·exact⟨ρ,hi⟩
 ·generalize d.goes E=r at*
  have hf:∀n,n<r.1.all.length→dh (r.1.all++ [⟨[],0⟩]) n=dh r.1.all n:=fun n hn=>by
   unfold dh;rw[dG,dG,JD hn]
  have hnew:(dh (r.1.all++ [⟨[],0⟩]) r.1.all).data=[]:=by
   unfold dh;rw[dG,ET (bC _)];simp
  refine⟨fun n=>if n=r.1.all then x/2 else ρ n,?_⟩
  have hup:∀v,DX X ρ r.1.all v→DX X (fun n=>if n=r.1.all then x/2 else ρ n) (r.1.all++ [⟨[],0⟩]) v:=fun v hv=>
   (hv.rho (ρ':=fun n=>if n=r.1.all.length then x/2 else ρ n) (fun n hn=>au aj)).all bK (fun n hn=>.inr (.inr (hf n hn)))
  have hbase:bY X (fun n=>if n=r.1.all then x/2 else ρ n) {r.1 with all:=r.1.all++ [⟨[],0⟩]}:=
   ⟨hi.last,fun k hk=>hup _ (hi.vs k hk),hi.apart⟩
  refine hbase.does _ ?_ ?_
  ·have hc:=hup _ hi.cur
   have hlt:=hi.cur.lt;dsimp only;refine⟨fun y n e=>?_,fun y n e=>?_,fun y z n e e2=>?_,fun y n e=>?_,fun n e=>?_,fun y n e h2 h0=>?_⟩
   all_goals(rw[yR]at e)
   ·grind
   ·split at e
    ·grind
    ·exact hc.role y n e
   ·rw[yR]at e2
    split at e
    ·grind
    ·split at e2
     ·grind
     ·exact hc.inj y z n e e2
   ·split at e
    ·omega
    ·exact hc.ok y n e
   ·split at e
    ·injection e with e;subst e;rw[hnew];exact xU.nil
    ·exact hc.job n e
   ·split at e
    ·omega
    ·exact hc.shut y n e h2 h0
  ·dsimp only
   intro y n e hy z hz;rw[yR]at e;have hlast:=hi.last;split at e
   ·injection e with e
    subst e;refine⟨fun k hk e2=>?_,fun e2=>?_⟩
    ·have:=(hi.vs k hk).lt z _ e2;omega
    ·rw[yR]at e2
     split at e2
     ·omega
     ·have:=hi.cur.lt z _ e2;omega
   ·refine⟨fun k hk=>hi.apart k hk y z n e hy hz,fun e2=>?_⟩
    rw[yR]at e2;split at e2
    ·injection e2 with e2
     have:=hi.cur.lt y n e;omega
    ·have:=hi.apart _ (bC _) y z n e hy hz
     rw[←hlast]at this;exact this e2
theorem bY.data(h:bY X ρ d){x n:Nat}(hn:d.names x=some n)(f:iD→iD)(hf:x%2=1∨(x=0∧xU X (f (dh d.all n)).data)):bY X ρ (d.yO n f):=by
 have hlt:=h.cur.lt x n hn
 have hat:∀m,dh (d.all.modify n f) m=if n=m then f (dh d.all m)else dh d.all m:=by
  intro m;unfold dh;rw[dG,dG,List.getElem?_modify]
  by_cases e:n=m
  ·grind
  ·simp[e]
 refine⟨h.last,fun k hk=>(h.vs k hk).all (by simp[aI.yO]) fun m hm=>?_,h.apart⟩;show _∨(_∧xU X (dh (d.all.modify n f) m).data)∨dh (d.all.modify n f) m=_;rw[hat]
 by_cases e:n=m
 ·subst e
  rw[aF rfl];rcases hf with ho|⟨rfl,hj⟩
  ·refine .inl fun y hy=>?_
   by_cases h2:y%2=1
   ·exact h2
   ·exact absurd hy (h.apart k hk x y n hn ho aj)
  ·by_cases h0:d.view k 0=some n
   ·grind
   ·refine .inl fun y hy=>?_
    have h1:=(h.vs k hk).role y n hy;have h2:=h.cur.role 0 n hn;have h3:y≠0:=Ht
    omega
 ·grind
theorem F9(h:d.names x=some n):d.at_ x=n:=by unfold aI.at_;rw[h];rfl
theorem vT(h:d.there x=0):∃n,d.names x=some n:=by
 unfold aI.there at h;split at h
 ·rename_i Z;exact Hu.1 Z
 ·cases h
theorem bY.append(h:bY X ρ d){x:Nat}{b:aO}(hx:x%2=1∨(x=0∧∀n,d.names 0=some n→xU X ((dh d.all n).data++b)∧xU X ((dh d.all n).data++b.take (b.length/2)))):bY X ρ (d.append x b).1:=by
 unfold aI.append;split
 ·exact h
 ·split
  ·exact h
  ·rename_i ht
   obtain⟨n,hn⟩:=vT (xP.1 ht);split
   ·exact h
   ·obtain⟨f1,f2,-⟩:=wX d
    split
    ·rw[F9 hn]
     refine h.fall.data (x:=x) (by rw[f2];exact hn) _ ?_;rcases hx with hx|⟨rfl,hx⟩
     ·exact .inl hx
     ·grind
    ·rw[F9 hn]
     refine h.fall.data (x:=x) (by rw[f2];exact hn) _ ?_;rcases hx with hx|⟨rfl,hx⟩
     ·exact .inl hx
     ·grind
theorem JO{e:Int}(h:¬(d.goes e).2≠0):e=0:=by
 unfold aI.goes at h;split at h
 ·omega
 ·grind
theorem bY.sync(h:bY X ρ d){x:Nat}(hx:x%2=1∨x=0):bY X ρ (d.sync x).1:=by
 obtain⟨Y,W,-⟩:=mP d (d.there x);unfold aI.sync;dsimp only;split
 ·exact h.goes _
 ·rename_i V
  obtain⟨n,Z⟩:=vT (JO V);rw[F9 Z];refine(h.goes _).data (x:=x) (by rw[W];exact Z) _ ?_;rcases hx with hx|rfl
  ·exact .inl hx
  ·exact .inr ⟨rfl,by rw[Y];exact h.cur.job n Z⟩
theorem bY.rename(h:bY X ρ d){x z:Nat}(hx:x=z+1)(hz:z%2=0)(hc:∀n,d.names x=some n→(z=0→xU X (dh d.all n).data)∧(z≠0→X.bad=0∧(dh d.all n).data=X.cont z∧(dh d.all n).safe=(dh d.all n).data)):bY X ρ (d.rename x z).1:=by
 obtain⟨g1,g2,g3,g4,-⟩:=mP d (d.there x);have hi:=h.goes (d.there x);unfold aI.rename;dsimp only;split
 ·exact hi
 ·rename_i hr
  obtain⟨m,hm⟩:=vT (JO hr);generalize d.goes (d.there x)=r at*;have hm':r.1.names x=some m:=Ht
  have hcur:=hi.cur;have hlast:=hi.last;have hc:=hc m hm;refine hi.does _ ?_ ?_
  ·refine⟨fun y n e=>?_,fun y n e=>?_,fun y y2 n e e2=>?_,fun y n e=>?_,fun n e=>?_,fun y n e h2 h0=>?_⟩
   all_goals(rw[Cb,hm',jV]at e)
   ·split at e
    ·injection e with e;subst e;exact hcur.lt x m hm'
    ·split at e
     ·cases e
     ·exact hcur.lt y n e
   ·split at e
    ·injection e with e;subst e;rename_i e3;rw[hcur.role x m hm'];omega
    ·split at e
     ·cases e
     ·exact hcur.role y n e
   ·rw[Cb,hm',jV]at e2
    split at e
    ·injection e with e;subst e
     split at e2
     ·omega
     ·split at e2
      ·cases e2
      ·rename_i k3;exact absurd (hcur.inj y2 x m e2 hm') k3
    ·split at e
     ·cases e
     ·split at e2
      ·injection e2 with e2;subst e2
       rename_i k3 _;exact absurd (hcur.inj y x m e hm') k3
      ·split at e2
       ·cases e2
       ·exact hcur.inj y y2 n e e2
   ·split at e
    ·have:=hcur.ok x m hm';omega
    ·split at e
     ·cases e
     ·exact hcur.ok y n e
   ·split at e
    ·grind
    ·split at e
     ·cases e
     ·exact hcur.job n e
   ·split at e
    ·grind
    ·split at e
     ·cases e
     ·exact hcur.shut y n e h2 h0
  ·intro y n e hy w hw
   rw[Cb,hm',jV]at e;split at e
   ·omega
   ·split at e
    ·cases e
    ·rename_i k1 k2
     refine⟨fun k hk=>hi.apart k hk y w n e hy hw,fun e2=>?_⟩;rw[Cb,hm',jV]at e2;split at e2
     ·injection e2 with e2;subst e2
      exact k2 (hcur.inj y x m e hm')
     ·split at e2
      ·cases e2
      ·have:=hi.apart _ (bC _) y w n e hy hw
       rw[←hlast]at this;exact this e2
theorem bY.remove(h:bY X ρ d)(x:Nat):bY X ρ (d.remove x).1:=by
 have V:=h.goes (d.there x);unfold aI.remove;dsimp only;split
 ·exact V
 ·generalize d.goes (d.there x)=r at*
  have Y:=V.cur;have W:=V.last
  have Z:∀y n,uO r.1.names ⟨2,x,0,0⟩ y=some n→r.1.names y=some n:=fun y n e=>by
   rw[NH]at e;split at e
   ·cases e
   ·exact e
  refine V.does _ ⟨fun y n e=>Y.lt y n (Z y n e),fun y n e=>Y.role y n (Z y n e),fun y z n e U=>Y.inj y z n (Z y n e) (Z z n U),fun y n e=>Y.ok y n (Z y n e),
   fun n e=>Y.job n (Z 0 n e),fun y n e=>Y.shut y n (Z y n e)⟩ fun y n e T z S=>⟨fun k R=>V.apart k R y z n (Z y n e) T S,fun U=>?_⟩
  have:=V.apart _ (bC _) y z n (Z y n e) T S;rw[←W]at this;exact this (Z z n U)
theorem bY.one{e:aI}(h:e.names=e.safe)(V:e.steps=[])(Y:DX X ρ e.all e.names):bY X ρ e:=by
 have Z:∀k,e.view k=e.names:=fun k=>by unfold aI.view;rw[V,h];simp
 refine⟨(Z _).symm,fun k _=>by rw[Z];exact Y,fun k _ x y n U T S W=>?_⟩;rw[Z]at W;have:=Y.inj x y n U W;omega
theorem bY.ji(h:bY X ρ d):bY X ρ d.ji.1:=by
 unfold aI.ji;dsimp only;split
 ·exact h.goes 0
 ·exact bY.one rfl rfl (h.goes 0).cur
theorem bY.arm(h:bY X ρ d)(n:Int):bY X ρ (d.arm n):=by
 unfold aI.arm;split
 ·exact h
 ·exact h.same rfl rfl rfl rfl
theorem bY.grow(h:bY X ρ d)(n:Int):bY X ρ (d.grow n).1:=by
 unfold aI.grow;split
 ·exact h
 ·split
  ·exact h
  ·exact h.same rfl rfl rfl rfl
theorem bY.crash{e:aI}(h:bY X ρ d)(hc:FM d e):bY X ρ e:=by
 obtain⟨k,hk,hn⟩:=hc.names;have hv:=h.vs k hk;refine bY.one hc.safe.symm hc.steps ?_;rw[hn];refine⟨fun x n e=>by rw[hc.len];exact hv.lt x n e,hv.role,hv.inj,hv.ok,fun n e=>?_,fun x n e h2 h0=>?_⟩
 ·rcases hc.cut n (hv.lt 0 n e)with h1|⟨m,-,-,h1⟩
  ·unfold dh;rw[h1];exact hv.job n e
  ·unfold dh;rw[h1];exact(hv.job n e).take m
 ·have hs:=hv.shut x n e h2 h0
  rcases hc.cut n (hv.lt x n e)with h1|⟨m,k1,k2,h1⟩
  ·unfold dh;rw[h1];exact hs
  ·unfold dh at hs ⊢
   have:m=(d.all.getD n ⟨[],0⟩).data:=aj
   rw[h1];refine⟨hs.1,?_,?_⟩
   ·grind
   ·grind
theorem bY.new(r:Int)(ρ:Nat→Nat):bY X ρ (aI.new r):=by
 refine bY.one rfl rfl ⟨?_,?_,?_,?_,?_,?_⟩
 ·intro x n h;cases h
 ·intro x n h;cases h
 ·intro x y n h;cases h
 ·intro x n h;cases h
 ·intro n h;cases h
 ·intro x n h;cases h
end
section
def aI.see(d:aI)(x:Nat):Option iD:=(d.names x).map (dh d.all)
structure vU(d:aI)(r:aI × Int)(f:Nat→Option iD):Prop where
 ok:r.2=0→r.1.down=false∧∀x,r.1.see x=f x
 no:r.2≠0→(r.2=10∧r.1.down=true)∨(r.2≠10∧r.1.down=false∧∀x,r.1.see x=d.see x)
variable{X:bI}{ρ:Nat→Nat}{d:aI}
theorem QV{d e:aI}(h1:e.all=d.all)(h2:e.names=d.names)(x:Nat):e.see x=d.see x:=by unfold aI.see;rw[h1,h2]
theorem uo{v:iD}(h:d.see x=some v):∃n,d.names x=some n∧dh d.all n=v:=by
 unfold aI.see at h;cases e:d.names x with
 |none=>rw[e]at h;cases h
 |some n=>rw[e]at h;exact⟨n,rfl,by simpa using h⟩
theorem Gf(x:Nat):(d.see x).isSome=(d.names x).isSome:=by unfold aI.see;simp
theorem Gu(h:d.names x=some n):d.see x=some (dh d.all n):=by unfold aI.see;rw[h];rfl
theorem Aw{v:iD}(h:d.see x=some v):d.file x=v:=by
 obtain⟨n,Z,Y⟩:=uo h;unfold aI.file;rw[F9 Z];exact Y
theorem VY(d:aI)(e:Int)(he:e≠10)(hd:d.down=false):((d.goes e).2=0∧e=0∧(d.goes e).1.down=false)∨((d.goes e).2≠0∧(((d.goes e).2=10∧(d.goes e).1.down=true)∨((d.goes e).2≠10∧(d.goes e).1.down=false))):=by
 unfold aI.goes;rw[hd,au bK]
 by_cases h:e=0
 ·grind
 ·grind
theorem vU.QW{e:Int}(he:e≠10)(hd:d.down=false){r:aI × Int}{f:Nat→Option iD}(h1:(d.goes e).2≠0→r=d.goes e)(h2:(d.goes e).2=0→e=0→(d.goes e).1.down=false→r.2=0∧r.1.down=false∧∀x,r.1.see x=f x):vU d r f:=by
 rcases VY d e he hd with⟨g1,g2,g3⟩|⟨g1,g2⟩
 ·obtain⟨k1,k2,k3⟩:=h2 g1 g2 g3
  exact⟨fun _=>⟨k2,k3⟩,fun h=>absurd k1 h⟩
 ·have hr:=h1 g1
  obtain⟨s1,s2,-⟩:=mP d e;refine⟨fun h=>?_,fun _=>?_⟩
  ·grind
  ·rcases g2 with g2|g2
   ·grind
   ·exact .inr ⟨by rw[hr];exact g2.1,by rw[hr];exact g2.2,fun x=>by rw[hr];exact QV s1 s2 x⟩
theorem Iz{d:aI}(x:Nat):d.there x≠10:=by unfold aI.there;split<;>decide
theorem Dj(h:d.names x=some n):d.there x=0:=by unfold aI.there;rw[h];rfl
theorem DY(h:bY X ρ d)(hd:d.down=false)(x:Nat):vU d (d.create x) fun y=>if y=x then some ⟨[],0⟩else d.see y:=by
 have Z:=h.cur.lt;refine vU.QW (e:=if(d.names x).isSome then 8 else 0) (by split<;>decide) hd (fun g=>?_) fun g _ Y=>?_
 ·unfold aI.create
  rw[aF g]
 ·obtain⟨W,V,-⟩:=mP d (if(d.names x).isSome then 8 else 0)
  unfold aI.create;rw[au (by rw[g];simp)];refine⟨rfl,Y,fun y=>?_⟩;unfold aI.see aI.does;dsimp only;rw[yR,V,W]
  by_cases e:y=x
  ·rw[aF e,aF e]
   simp[dh]
  ·rw[au e,au e]
   cases U:d.names y with
   |none=>rfl
   |some n=>
    have:=Z y n U;simp[dh,JD this]
theorem NI(h:bY X ρ d)(Z:d.names x=some n)(f:iD→iD)(e:aI)(h1:e.all=d.all.modify n f)(h2:e.names=d.names)(y:Nat):e.see y=if y=x then(d.see x).map f else d.see y:=by
 have Y:=h.cur.lt x n Z;unfold aI.see;rw[h1,h2]
 by_cases e:y=x
 ·subst e
  rw[aF rfl,Z];simp[dh,Y]
 ·rw[au e]
  cases V:d.names y with
  |none=>rfl
  |some m=>
   have W:n≠m:=fun U=>e (h.cur.inj y x m V (by rw[←U];exact Z))
   simp[dh,W]
theorem AY(h:bY X ρ d)(hd:d.down=false)(x:Nat)(b:aO):vU d (d.append x b) fun y=>if y=x then(d.see x).map fun f=>{f with data:=f.data++b}else d.see y:=by
 unfold aI.append;rw[hd,au bK]
 by_cases Z:d.there x=0
 ·rw[au (by simpa using Z)]
  obtain⟨n,Y⟩:=vT Z
  by_cases W:0<b.length∧d.room-d.used<b
  ·rw[aF W]
   exact⟨(fun e=>by cases e),fun _=>.inr ⟨by show(9:Int)≠10;decide,hd,fun _=>rfl⟩⟩
  ·rw[au W]
   obtain⟨U,T,-⟩:=wX d;cases V:d.fall.down
   ·rw[au bK]
    rw[F9 Y];refine⟨fun _=>⟨V,fun y=>?_⟩,fun e=>absurd rfl e⟩;exact NI h Y (fun f=>{f with data:=f.data++b}) (d.fall.yO n fun f=>{f with data:=f.data++b}) (by show List.modify _ _ _=_;rw[U]) T y
   ·rw[aF rfl]
    exact⟨(fun e=>by cases e),fun _=>.inl ⟨rfl,V⟩⟩
 ·rw[aF Z]
  exact⟨fun e=>absurd e Z,fun _=>.inr ⟨Iz x,hd,fun _=>rfl⟩⟩
theorem DL(h:bY X ρ d)(hd:d.down=false)(x:Nat):vU d (d.sync x) fun y=>if y=x then(d.see x).map fun f=>{f with safe:=f.data.length}else d.see y:=by
 refine vU.QW (Iz (d:=d) x) hd (fun g=>?_) fun g Y W=>?_
 ·unfold aI.sync
  rw[aF g]
 ·obtain⟨V,U,-⟩:=mP d (d.there x)
  obtain⟨n,Z⟩:=vT Y;unfold aI.sync;rw[au (by rw[g];simp),F9 Z];refine⟨rfl,W,fun y=>?_⟩;exact NI h Z (fun f=>{f with safe:=f.data.length}) ((d.goes (d.there x)).1.yO n fun f=>{f with safe:=f.data.length}) (by show List.modify _ _ _=_;rw[V]) U y
theorem Ie(hd:d.down=false)(x z:Nat):vU d (d.rename x z) fun y=>if y=z then d.see x else if y=x then none else d.see y:=by
 refine vU.QW (Iz (d:=d) x) hd (fun g=>?_) fun g Z Y=>?_
 ·unfold aI.rename
  rw[aF g]
 ·obtain⟨W,V,-⟩:=mP d (d.there x)
  obtain⟨n,U⟩:=vT Z;unfold aI.rename;rw[au (by rw[g];simp)];refine⟨rfl,Y,fun y=>?_⟩;unfold aI.see aI.does;dsimp only;rw[Cb,V,W,U,jV];split
  ·rfl
  ·split<;>rfl
theorem Ig(hd:d.down=false)(x:Nat):vU d (d.remove x) fun y=>if y=x then none else d.see y:=by
 refine vU.QW (Iz (d:=d) x) hd (fun g=>?_) fun g V Z=>?_
 ·unfold aI.remove
  rw[aF g]
 ·obtain⟨Y,W,-⟩:=mP d (d.there x)
  unfold aI.remove;rw[au (by rw[g];simp)];refine⟨rfl,Z,fun y=>?_⟩;unfold aI.see aI.does;dsimp only;rw[NH,W,Y];split<;>rfl
theorem xw(hd:d.down=false):vU d d.ji d.see:=by
 refine vU.QW (e:=0) bn hd (fun g=>?_) fun g V Z=>?_
 ·unfold aI.ji
  rw[aF g]
 ·obtain⟨Y,W,-⟩:=mP d 0
  unfold aI.ji;rw[au (by rw[g];simp)];exact⟨rfl,Z,fun y=>QV Y W y⟩
theorem Kv(h:(d.rename x z).2=0):(d.see x).isSome=true:=by
 unfold aI.rename at h;dsimp only at h;split at h
 ·omega
 ·rename_i g
  obtain⟨n,Z⟩:=vT (JO g);rw[Gf,Z];rfl
theorem VZ(hd:d.down=false)(hx:(d.names x).isSome=true)(h:(d.remove x).2≠0):(d.remove x).2=10:=by
 rcases(Ig hd x).no h with Z|⟨Z,-,-⟩
 ·exact Z.1
 ·exfalso
  obtain⟨n,Y⟩:=Hu.1 hx;unfold aI.remove aI.goes at Z h;rw[Dj Y,hd]at Z h;cases W:d.fall.down<;>simp[W]at Z h
end
theorem ait{at_:Nat}(y:n≤100000000)(hd:dV l)(w:aK)(R:Lb w A n l):
  Calls prog 160 #[aG A n c,at_] w (ag8 w 8 (dY at_++dY (jf l))):=by
 obtain⟨Q,L⟩:=aV (put_any (k:=4) aj (n:=0) (c:=0) (A:=none) (l:=[]) (v:=at_) aj w (OwnB.nil w w []) (bC _)) (fun P (h:aP w P)=>Qj (c:=c) aj hd P (R.keep h));have X:=R.len;obtain⟨D,B⟩:=BJ l;obtain⟨K,O⟩:=aV (show jf l=bits .xor .u32 IntKind.u32.max (yN l n) by unfold jf;rw[X]) (fun W N M (o:OwnB W w N (0+4) M ([]++jr at_ 4)) (h:w.heap.size≤W)=>put_any (k:=4) aj (v:=jf l) aj W o h);simp only[EI,jI,dI]at Q O;generalize jf l=C at*;go_enter func160,ntmps160;go_wp2_with fail;refine Q.mono ?_;intro e W J;obtain⟨N,M,rfl,I,V⟩:=J.fresh;obtain⟨Y,Z⟩:=aV I V;go_wp2_with fail;refine(L _ Z).aQ ?_;rintro x rfl;rw[←K];go_wp2_with fail;refine(O _ _ _ Y Z.size).mono ?_;rintro e u ⟨H,G,rfl,F,U,z⟩;obtain⟨T,S⟩:=aV F (Z.trans (U.below Z.size (fun i E=>(Y.e.dN E).1)));go_wp2;go_ret;exact⟨H,G,rfl,T,S⟩
end Go.Proofs.YtiaeohgghaaciaaGreatDoor
