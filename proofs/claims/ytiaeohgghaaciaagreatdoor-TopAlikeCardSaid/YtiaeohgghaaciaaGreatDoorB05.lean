import Derived.BigRegion
import Derived.Deep.AppendLies
import Derived.Deep.LoopGhost
import Derived.Deep.RegionHeld3
import Derived.Laws.CopyOwn
import Derived.Lib.MinMax
import Derived.Lib.SliceRun
import Derived.Lib.Walk
import Derived.Outline
import Derived.OwnWalk
import Derived.Shelf.Abstract
import Derived.Shelf.Lay
import Derived.Shelf.Small.Bits
import Derived.Test.YtiaeohgghaaciaaGreatDoorB02
import Derived.Test.YtiaeohgghaaciaaGreatDoorB04
namespace Go.Proofs.YtiaeohgghaaciaaGreatDoor
open Go Go.Maps Go.RowKit Go.Extern.Stop Go.Stop Go.Extern Go.Proofs.Tryz
set_option linter.all false
set_option maxRecDepth 100000
set_option maxHeartbeats 4000000
variable{a:Act}{cb:Array Value}{Q:Exit→Act→World→Prop}{mode most:Int}{b l p:List Int}{rest:List Oper}{H K W base c c' c2 d g i k lo m n qp x y:Nat}{o:Oper}{A B L:Option Addr}{E:Prop}{w w':World}
structure Ls(w:World)(A:Option Addr)(n:Nat)(l:List Int):Prop where
 len:l.length=n
 rd:yK .i64 w A l
structure Own(w:World)(base:Nat)(A:Option Addr)(n c:Nat)(l:List Int):Prop where
 len:l.length=n
 row:w.ownsRow base 3 1 (aG A n c) n (l.map (Value.int .i64))
abbrev Bd(a b:Int)(l:aO):Prop:=∀v∈l,a≤v∧v≤b
section
variable{w w':aK}{A:dK}{n c base:Nat}{l:aO}
theorem Ls.keep(h:Ls w A n l)(Z:aP w w'):Ls w' A n l:=⟨h.len,h.rd.keep Z⟩
theorem Ls.at_(h:Ls w A n l){i:Nat}(hi:i<n):∃b o,A=some (aH b o)∧aN w b (o+i) (aB (l.getD i 0)):=by
 have Z:i<l:=by rw[h.len];exact hi
 obtain⟨b,o,Y,X⟩:=h.rd.at_ Z;exact⟨b,o,Y,by rw[dG,fP Z];exact X⟩
theorem Own.ls(h:Own w base A n c l):Ls w A n l:=⟨h.len,(yK.ER h.row).1⟩
theorem Own.keep(h:Own w base A n c l)(Z:aP w w'):Own w' base A n c l:=⟨h.len,oH h.row Z⟩
theorem Own.alloc(h:Own w base A n c l)(o:Obj):Own (w.alloc o) base A n c l:=⟨h.len,h.row.alloc o⟩
theorem Own.drew(h:Own w base A n c l):Own w.drew base A n c l:=h.keep (aU _ _).drew
theorem Own.drewN(h:Own w base A n c l)(k:Nat):Own (w.drewN k) base A n c l:=h.keep (jM (aU _ _) k)
theorem Own.lower(h:Own w base A n c l){b:Nat}(Z:b≤base):Own w b A n c l:=⟨h.len,own_base h.row Z⟩
theorem Own.nil(w:aK)(base:Nat)(l:aO):Own w base none 0 0 (l.take 0):=⟨rfl,iM _ _ _ _⟩
theorem Own.full(h:Own w base A n c (l.take n))(Z:l=n):Own w base A n c l:=by rwa[wO aj]at h
theorem aJ(w:aK)(o:Obj):aP w (w.alloc o):=(aU _ _).alloc (bC _) _
end
def Ve(w:aK)(n:Nat)(l:aO)(e:Ending)(w':aK):Prop:=∃A c,e=bM (aG A n c)∧Own w' w.heap.size A n c l∧aP w w'
def aaK(w:aK)(n:Nat)(l:aO)(e:Ending)(w':aK):Prop:=∃A c,e=bM (eP #[aG A n c,iI])∧Own w' w.heap.size A n c l∧aP w w'
def Val(w:aK)(v:cO)(e:Ending)(w':aK):Prop:=e=bM v∧aP w w'
theorem app1{W:Array Oper}(U:o.guard=none)(s x:Operand)
  (O:o.op= .call {callee:=.builtin .append,args:=#[s,x],argTypes:=#[34,34]})
 {v:Int} (N:a.eval s=aG A n c) (Z:Own w base A n c l)
   (hx:a.eval x=aG g 1 c') (M:w.heap[g]? =some (.cells #[v] 3 (0,0))) (I:n≤1000000) (P:base≤w)
   (h:∀B Y w',Own w' base B (n+1) Y (l++ [v])→Below base w w'→wpList prog W Q rest (a.put o.dst (aG B (n+1) Y)) w'):
   wpList prog W Q (o::rest) a w:=by
  obtain⟨L,K,T,S,R⟩:=iq Ij
  refine iy _ U s x _ O base 3 L _ 1 8 underlying34 K T S R rfl aj _ n _ N Z.row (aH g 0) 1 c' [v] hx rfl
   (fH (cs:=#[v]) (t:=3) (fr:=(0,0)) M) (by simp[Value.oneCell']) aj (by unfold maxLen;omega) aj P _ rfl ?_
  intro H Y G V X _ _;exact h _ _ _ ⟨by simp[Z.len],by simpa using V⟩ ((aU base w).grown X P (fun k J=>(Z.row.lt k J).1))
theorem ajB{L:aO}(h:i<L):L.getD i 0=L[i]:=by rw[dG,fP h];rfl
theorem aaL{X:Array Oper}(V:o.guard=none)(s x:Operand)(P:o.op= .makeSlice 34 s x)
 {L:Int} (O:a.eval s=L) (hx:a.eval x=L) (R:L=n) (J:n≤1000000)
   (h:∀Y,Own Y w w n n (jK n fun _=>0)→aP w Y→wpList prog X Q rest (a.put o.dst (aG w n n)) Y):
   wpList prog X Q (o::rest) a w:=by
  obtain⟨N,M,U,T,S⟩:=iq Ij;refine uJ w V s x _ P w 3 N _ 1 underlying34 M U T .i64 .i64 _ _ n O hx R R (by rw[S];omega) (by unfold maxLen;omega) (bC _) fun Y W Z=>?_
  refine h Y ⟨fB _ _,?_⟩ ((aU _ _).grown Z (bC _) fun k K=>by cases K)
  have e:(madeCells (Value.int .i64 0).cells (n*1)).toList=(jK n fun _=>0).map (Value.int .i64):=by
   rw[lC,jK,List.map_map];refine(uG _ _).trans ?_;rw[show(Value.int IntKind.i64 ∘ fun _:Nat=>(0:Int))=fun _=>Value.int .i64 0 from rfl,List.map_const',jG]
  rw[←e];exact W
theorem amC{X:Array Oper}(V:o.guard=none)(s x:Operand)(R:o.op= .makeSlice 34 s x)
 {L:Int} (P:a.eval s= aB 0) (hx:a.eval x=L) (O:L=n) (J:n≤1000000)
   (h:∀Y,Own Y w w 0 n []→aP w Y→wpList prog X Q rest (a.put o.dst (aG w 0 n)) Y):
   wpList prog X Q (o::rest) a w:=by
  obtain⟨N,M,U,T,S⟩:=iq Ij
  exact wpList_make_own w V s x _ R w 3 N _ 1 underlying34 M U T .i64 .i64 _ n P hx O (by rw[S];omega) (by unfold maxLen;omega) (bC _) fun Y W Z=>
   h Y ⟨rfl,W⟩ ((aU _ _).grown Z (bC _) fun k K=>by cases K)
def Apart(A B:dK):Prop:=∀p q,A=some p→B=some q→p.block≠q.block
theorem Apart.symm{A B:dK}(h:Apart A B):Apart B A:=fun p q Z Y e=>h q p Y Z e.symm
theorem Apart.none(B:dK):Apart none B:=fun p q h=>by cases h
theorem ae3{P:Array Oper}(I:o.guard=none)(s x:Operand)
  (z:o.op= .call {callee:=.builtin .append,args:=#[s,x],argTypes:=#[34,34]})
 {v:Int} (y:a.eval s=aG A n c) (U:Own w base A n c l)
   (hx:a.eval x=aG g 1 c') (u:w.heap[g]? =some (.cells #[v] 3 (0,0))) (f:n≤1000000) (D:base≤w)
   (h:∀B T w',Own w' base B (n+1) T (l++ [v])→Below base w w'→(∀Z W M c' L,Own w Z W M c' L→Apart W A→Own w' Z W M c' L∧Apart W B)→wpList prog P Q rest (a.put o.dst (aG B (n+1) T)) w'):
   wpList prog P Q (o::rest) a w:=by
  obtain⟨m,V,H,G,F⟩:=iq Ij
  refine iy _ I s x _ z base 3 m _ 1 8 underlying34 V H G F rfl aj _ n _ y U.row ⟨g,0,Option.none⟩ 1 c' [v] hx rfl
   (fH (cs:=#[v]) (t:=3) (fr:=(0,0)) u) (by simp[Value.oneCell']) aj (by unfold maxLen;omega) aj D _ rfl ?_
  intro e T d N Y X _;refine h _ _ _ ⟨by simp[U.len],by simpa using N⟩ ((aU base w).grown Y D (fun k j=>(U.row.lt k j).1)) fun Z W M c' L K O=>?_
  have E:∀q,W=some q→q.block<w:=fun q R=>(K.row.lt q.block (by subst R;rfl)).2
  refine⟨⟨K.len,mO K.row (bQ.xB (S:=fun i=>some i=(Value.slice A n c).ownBlock) Y (fun i _ V=>V)) fun i V J=>?_⟩,fun p q C R=>?_⟩
  ·rcases A with _|p
   ·simp[Value.ownBlock]at J
   ·rcases W with _|q
    ·simp[Value.ownBlock]at V
    ·simp only[Value.ownBlock,fD]at V J
     exact O q p rfl rfl (by rw[V,J])
  ·injection R with R
   subst R;have b:=E p C;rcases X with X|rfl
   ·rcases A with _|r
    ·simp[Value.ownBlock]at X
    ·simp only[Value.ownBlock,fD]at X
     have:=O p r C rfl;simp;omega
   ·simp;omega
theorem anJ{W:Array Oper}(U:o.guard=none)(s x:Operand)
  (N:o.op= .call {callee:=.builtin .append,args:=#[s,x],argTypes:=#[34,34]})
 {r:aO} (M:a.eval s=aG A n c) (Z:Own w base A n c l)
   (hx:a.eval x=aG B m c') (L:Ls w B m r) (H:n+m≤1000000) (O:base≤w)
   (h:∀B Y w',Own w' base B (n+m) Y (l++r)→Below base w w'→wpList prog W Q rest (a.put o.dst (aG B (n+m) Y)) w'):
   wpList prog W Q (o::rest) a w:=by
  obtain⟨K,J,T,S,R⟩:=iq Ij;obtain⟨rfl,P⟩:=L;refine yL _ U s x _ N base 3 K _ 1 8 underlying34 J T S R rfl aj _ n _ M Z.row B r c' _ hx P (MR _ _) (by unfold maxLen;omega) aj O ?_;intro G Y F V X _;exact h _ _ _ ⟨by simp[Z.len],by simpa using V⟩ ((aU base w).grown X O (fun k I=>(Z.row.lt k I).1))
theorem Own.empty(w:aK)(base:Nat)(Z:base≤w):Own (w.alloc (aS #[] 3)) base w 0 0 []:=⟨rfl,Ob w _ 1 base Z⟩
theorem Own.form(h:Own w base A n c l)(Y:0<n):∃g,A=some (aH g 0)∧base≤g∧g<w.heap.size∧(∀j,j<n→aN w g j (aB (l.getD j 0)))∧∀j,w.frozen? (aH g j)=false:=by
 obtain⟨g,Q,X,W,V,_,U,T⟩:=Qh h.row Y;injection X with S P O
 refine⟨g,S,W,V,fun j R=>U j _ ?_,T⟩;have Z:j<l.length:=by rw[h.len];exact R
 rw[gX,fP Z,dG,fP Z];rfl
theorem Own.store(h:Own w base g n c l)(j:Nat)(v:Int):Own (w.setCell ⟨g,j,none⟩ v) base g n c (l.set j v):=
 ⟨by rw[pG];exact h.len,by rw[List.map_set];exact Ry h.row j _⟩
abbrev uf(W H:Nat)(A:dK)(n c:Nat):cO:=.agg #[aB W,aB H,aG A n c]
abbrev dA(W H:Nat)(A:dK)(n c:Nat):Obj:=.cells #[aB W,aB H,aG A n c] 90
structure Fr(w:World)(W H n:Nat)(A:Option Addr)(p:List Int):Prop where
 wd:1≤W∧W≤32
 ht:1≤H∧H≤32
 n1:n≤1024
 size:n=W*H
 may:GK W H p=true
 ls:Ls w A n p
theorem Fr.keep{w w':aK}{W H n:Nat}{A:dK}{p:aO}(h:Fr w W H n A p)(Z:aP w w'):Fr w' W H n A p:=⟨h.wd,h.ht,h.n1,h.size,h.may,h.ls.keep Z⟩
theorem Fr.bd(h:Fr w W H n A p):Bd 0 255 p:=by
 have:=h.may;unfold GK at this;simp only[jU]at this;exact(oG 0 255 p).1 this.2
theorem FI(h:Fr w W H n A p):Calls prog 210 #[uf W H A n c] w (Val w (.bool true)):=by
 obtain⟨_,_,X,_,Z,rfl,Y⟩:=h;refine(ajA (c:=c) aj w Y).mono ?_;rw[Z];rintro e V ⟨rfl,rfl⟩;exact⟨rfl,aJ _ _⟩
def Tests(g:FuncId)(cb:Array cO)(q:Int→Bool)(l:aO)(W:aK):Prop:=
 (∀Z w,(callFunc g Z).run prog w= .ok (.enter g Z) w)∧∀v∈l,∀w,aP W w→Calls prog g (#[aB v]++cb) w fun e Y=>e=bM (.bool (q v))∧aP w Y
theorem aaQ{g:FuncId}{q:Int→Bool}(E:n≤1000000)(w:aK)(U:Tests g cb q l w)(N:Ls w A n l):
  Calls prog 269 #[aG A n c,.func (.func g) #[] cb] w fun e T=>(∃r:Int,e=bM r∧decide (0≤r)=l.any q)∧aP w T:=by
 obtain⟨M,H⟩:=aV N.len N;obtain⟨D,U⟩:=U;have G:=ay U;go_enter func269,ntmps269;go_wp2
 go_loopg [8] n (fun k i wr=>∃j:Nat,j+k=n∧i=j∧aP w wr∧∀v∈l.take j,q v=false)
 case atStart=>exact⟨0,aj,rfl,aU _ _,bK⟩
 case round=>
  obtain⟨j,C,rfl,Z,O⟩:=hrel;have L:=ay O
  by_cases X:j<n
  ·obtain⟨b2,B,rfl,z⟩:=(H.keep Z).at_ X
   have I:(j:Int)<(n:Int):=aj
   have Y:j<l:=by rw[M];exact X
   have K:=Z.size;have J:=ay (BH Y);have S:=lS Y;rw[←ajB Y]at J S;have W:=ay (G _ S wr Z);generalize l.getD j 0=x at*;cases V:q x with
   |true=>
    rw[V]at W;have R:=ay (show l.any q=true from lT.2 ⟨_,S,V⟩);go_wp2_with(go_at_fn g;refine W.aQ ?_;rintro T Q);go_ret;exact⟨⟨j,rfl,by rw[R.out];simp⟩,Z.trans (Q.mono K)⟩
   |false=>
    rw[V]at W;have F:=ay V;go_wp2_with(go_at_fn g;refine W.aQ ?_;rintro T Q);go_roundg(gk-1)
    case measure=>omega
    case rel=>
     refine⟨j+1,aj,fA,Z.trans (Q.mono K),fun v P=>?_⟩;rw[J]at P;rcases rH.1 P with h|h
     ·exact L v h
     ·simp at h;subst h;exact F
  ·have R:=ay (show l.any q=false from Tj fun v P=>L v (by rwa[wO (by rw[M];omega)]))
   go_wp2;go_ret;exact⟨⟨-1,rfl,by rw[R.out];rfl⟩,Z⟩
theorem Nc{g:FuncId}{q:Int→Bool}(Z:n≤1000000)(w:aK)(Y:Tests g cb q l w)(X:Ls w A n l):
  Calls prog 252 #[aG A n c,.func (.func g) #[] cb] w (Val w (.bool (l.any q))):=by
 have H:=ay (aaQ (c:=c) Z w Y X);go_enter func252,ntmps252;go_wp2_with(go_at_call 269;refine H.mono ?_;rintro e U ⟨⟨r,rfl,W⟩,V⟩);go_ret;exact⟨by rw[←W];rfl,V⟩
theorem Ez{g:FuncId}(Z:n≤1000000)(w:aK)(Y:Tests g cb (fun _=>false) l w)(X:Ls w A n l):
  Calls prog 252 #[aG A n c,.func (.func g) #[] cb] w (Val w (.bool false)):=by
 have h:=Nc (c:=c) Z w Y X;rwa[Tj fun _ _=>rfl]at h
theorem Vs(h:Bd (-1048576) 1048576 l)(w:aK):Tests 267 #[] (fun _=>false) l w:=by
 refine⟨enters_of func267 aW rfl,fun v Z Y _=>?_⟩;have X:=h v Z;have W:¬v< -1048576:=aj
 have V:¬v>1048576:=aj
 go_enter func267,ntmps267;go_wp2;go_ret;exact⟨rfl,aU _ _⟩
theorem aaR{a:aO}(W:n≤1000000)(V:Bd (-1048576) 1048576 a)(U:Bd (-1048576) 1048576 b)(w:aK)(T:Ls w A n a)(S:Ls w B n b):
  Calls prog 248 #[aG A n c,aG B n d] w (Val w iI):=by
 obtain⟨R,Q⟩:=aV (Ez (c:=c) W w (Vs V w) T) (fun Y (P:aP w Y)=>Ez (c:=d) W Y (Vs U Y) (S.keep P));go_enter func248,ntmps248;go_wp2_with fail;refine R.aQ ?_;rintro O Z;go_wp2_with fail;refine(Q _ Z).aQ ?_;rintro N X;go_wp2;go_ret;exact⟨rfl,Z.trans (X.mono Z.size)⟩
theorem ajC{a:aO}(t:n≤100000)(Q:Bd (-1048576) 1048576 a)(P:Bd (-1048576) 1048576 b)(w:aK)(O:Ls w A n a)(N:Ls w B n b):
  Calls prog 298 #[aG A n c,aG B n d] w (aaK w n (GR n a b)):=by
 obtain⟨H,K,J,I,G,F⟩:=MP (aaR (c:=c) (d:=d) aj Q P w O N) O N (dO Q aj aj) (dO P aj aj) (show(GR n a b)=n from fB _ _);go_enter func298,ntmps298;go_wp2_with(go_at_call 248;refine H.aQ ?_;rintro U T);have Y:=ay T
 go_loopg [7,8,9,18] n (fun k E s r D wr=>∃(j c:Nat) (L:dK),j+k=n∧D=j∧E=aG L j c∧Own wr U L j c ((GR n a b).take j)∧aP U wr)
 case atStart=>exact⟨0,0,none,aj,rfl,rfl,Own.nil _ _ _,aU _ _⟩
 case round=>
  obtain⟨j,q,L,p,rfl,rfl,own,Z⟩:=hrel;have X:=Y.trans (Z.mono Y.size)
  by_cases W:j<n
  ·obtain⟨b2,o,rfl,m⟩:=(K.keep X).at_ W
   obtain⟨l,i,rfl,h⟩:=(J.keep X).at_ W;have M:(j:Int)<(n:Int):=aj
   have v:=I.out j;have u:=G.out j;have S:=ay (show(GR n a b).take (j+1)=_ from y7 _ W);generalize a.getD j 0=x at*;generalize b.getD j 0=y at*;have C:=Z.size;go_wp2_with(at_builtin;refine app1 rfl _ _ rfl rfl (own.alloc _) rfl (lV _ _) aj jy ?_;intro g f e V R);go_roundg(gk-1)
   case measure=>omega
   case rel=>exact⟨j+1,_,_,aj,fA,rfl,by rw[S.out];exact V,(Z.trans ((aJ _ _).mono C)).trans R⟩
  ·obtain rfl:j=n:=aj
   have z:=ay (own.full F);go_wp2;go_ret2;exact⟨_,_,rfl,z.lower Y.size,X⟩
theorem Ze{a:aO}(E:n≤100000)(V:Bd (-1048576) 1048576 a)(U:Bd (-1048576) 1048576 b)(w:aK)(T:Ls w A n a)(R:Ls w B n b):
  Calls prog 213 #[aG A n c,aG B n d] w (Val w (eP #[(vN n a b),iI])):=by
 obtain⟨H,O,N,Q,P⟩:=rG (aaR (c:=c) (d:=d) aj V U w T R) T R (dO V aj aj) (dO U aj aj);have M:=ay (fun j=>oI (f:=yM a b) (a:=0) (b:=2097152) (j:=j) fun i _=>by have:=Q.out i;have:=P.out i;unfold yM;omega);go_enter func213,ntmps213;go_wp2_with(go_at_call 248;refine H.aQ ?_;rintro L X);have Z:=ay X
 go_loopg [7,8,9,18] n (fun k K D C J wr=>∃(j q:Nat),j+k=n∧J=j∧K=(fO (yM a b) j)∧wr=L.drewN q)
 case atStart=>exact⟨0,0,aj,rfl,rfl,rfl⟩
 case round=>
  obtain⟨j,q,z,rfl,rfl,rfl⟩:=hrel
  by_cases Y:j<n
  ·obtain⟨b2,v,rfl,u⟩:=(O.keep Z).at_ Y
   obtain⟨t,s,rfl,r⟩:=(N.keep Z).at_ Y;have I:=Q.out j;have G:=P.out j;have F:=M.out j;have W:=ay (show fO (yM a b) (j+1)=fO (yM a b) j+max (a.getD j 0-b.getD j 0) (b.getD j 0-a.getD j 0)from rfl);generalize a.getD j 0=x at*;generalize b.getD j 0=y at*;generalize fO (yM a b) j=S at*;go_wp2
   go_quiet(fail)
   go_wp2;go_roundg(gk-1)
   case measure=>omega
   case rel=>exact⟨j+1,q+nq,aj,fA,by rw[W.out],rfl⟩
  ·obtain rfl:j=n:=aj
   go_wp2;go_ret2;exact⟨rfl,Z.trans (jM (aU _ _) q)⟩
def cla(n:Nat)(x:Int):Nat:=(min (max x 0) (n-1)).toNat
theorem Zf(h:1≤n)(x:Int):min (max x 0) ((n:Int)-1)=cla n x:=by unfold cla;omega
theorem Zg(h:1≤n)(x:Int):cla n x<n:=by unfold cla;omega
theorem ad8{X Y:Nat}(V:X<W)(Z:Y<H):Y*W+X<W*H:=by
 have:(Y+1)*W≤H*W:=uH _ Z;rw[Nat.mul_comm W H];rw[sO]at this;omega
def atF(W H:Nat)(p:aO)(x y:Int):Int:=p.getD (cla H y*W+cla W x) 0
theorem alD(x y:Int)(w:aK)(S:Fr w W H n A p):
  Calls prog 266 #[uf W H A n c,x,y] w (Val w (atF W H p x y)):=by
 obtain⟨Z,V,Q,U,_,T⟩:=S;have O:=Zf Z.1 x;have N:=Zf V.1 y;have R:cla H y*W+cla W x<n:=by rw[U];exact ad8 (Zg Z.1 x) (Zg V.1 y)
 obtain⟨b,o,rfl,M⟩:=(T.keep (aJ w (dA W H A n c))).at_ R;unfold atF;generalize cla W x=X at*;generalize cla H y=Y at*;have L:(Y:Int)*(W:Int)=((Y*W:Nat):Int):=bK
 generalize Y*W=P at*;generalize p.getD (P+X) 0=v at*;clear U T;go_enter func266,ntmps266;go_wp2;go_ret;exact⟨rfl,aJ _ _⟩
def sW(W H:Nat)(p:aO)(x y:Nat):aO:=jK 64 fun k=>atF W H p (x+(k%8:Nat)) (y+(k/8:Nat))
theorem afa(W H:Nat)(p:aO)(x y i j:Nat)(hi:i<8)(Z:j<8):(sW W H p x y).take (8*j+i+1)=(sW W H p x y).take (8*j+i)++ [atF W H p (x+i) (y+j)]:=by
 have h:=y7 (n:=64) (i:=8*j+i) (fun k=>atF W H p (x+(k%8:Nat)) (y+(k/8:Nat))) aj;simp only[show(8*j+i)%8=i by omega,show(8*j+i)/8=j by omega]at h;exact h
theorem Zh(x y:Nat)(hx:x≤32)(hy:y≤32)(w:aK)(t:Fr w W H n A p):
  Calls prog 247 #[uf W H A n c,x,y,aB 8] w (Ve w 64 (sW W H p x y)):=by
 have U:=aJ w (dA W H A n c);obtain⟨E,s,r,q,o⟩:=rG (t.keep U) (afa W H p x y) U (bF.new w 90 #[W,H,aG A n c]) (show(sW W H p x y).length=64 from fB _ _);go_enter func247,ntmps247;go_wp2_with(go_at_call 210;refine(FI E).aQ ?_;rintro V R);obtain⟨N,M,Y⟩:=dB (E.keep R) (q.keep R) (r.trans (R.mono bK))
 go_loopg [9,10,11,40] (8:Nat) (fun k Q h L P wr=>∃(j c:Nat) (B:dK),j+k=8∧P=j∧Q=aG B (8*j) c∧
  Own wr V B (8*j) c ((sW W H p x y).take (8*j))∧aP V wr)
 case atStart=>exact⟨0,0,none,aj,rfl,rfl,Own.nil _ _ _,aU _ _⟩
 case round=>
  obtain⟨j,g,B,f,rfl,rfl,own,Z⟩:=hrel
  by_cases K:j<8
  ·have z:(j:Int)<8:=aj
   go_wp2
   go_loopg [9,11,44] (8:Nat) (fun k Q L P D=>∃(i c:Nat) (B:dK),i+k=8∧P=i∧Q=aG B (8*j+i) c∧
    Own D V B (8*j+i) c ((sW W H p x y).take (8*j+i))∧aP V D)
   case atStart=>exact⟨0,_,_,aj,rfl,rfl,own,Z⟩
   case round=>
    obtain⟨i,e,Bi,d,rfl,rfl,own,Z⟩:=hrel
    by_cases J:i<8
    ·have u:(i:Int)<8:=aj
     obtain⟨I,O⟩:=aV (s i j J K) (M.keep Z);obtain⟨b,a,h2⟩:=O.out.s3;have m:=ay (alD (c:=c) (x+i) (y+j) _ (N.keep Z));generalize atF W H p (x+i) (y+j)=v at*;have C:=Z.size
     go_wp2_with(first
      |(go_at_call 266;refine m.aQ ?_;rintro w2 X;have T:=own.keep X;have G:=dD C X.size)
      |(at_builtin;refine app1 rfl _ _ rfl rfl (T.alloc _) rfl (lV _ _) aj jy ?_;intro B3 c3 w3 S F))
     go_roundg(gk-1)
     case measure=>omega
     case rel=>exact⟨i+1,_,_,aj,fA,rfl,by rw[←iO,I.out];exact S,((Z.trans (X.mono C)).trans ((aJ _ _).mono G)).trans F⟩
    ·obtain rfl:i=8:=aj
     go_wp2;go_roundg(8-j-1)
     case measure=>omega
     case rel=>exact⟨j+1,_,_,aj,fA,rfl,own,Z⟩
  ·obtain rfl:j=8:=aj
   have l:=ay (own.full o);go_wp2;go_ret;exact⟨_,_,rfl,l.lower Y.size,Y.trans (Z.mono Y.size)⟩
theorem alb{m:Int}(Z:W≤32)(Y:H≤32)(X:0≤m∧m≤8)(hx:x+m≤W)(hy:y+m≤H)(w:aK):
  Calls prog 303 #[uf W H A n c,x,y,m] w (Val w (.bool true)):=by
 go_enter func303,ntmps303;have V:(y:Int)≤(H:Int)-m:=aj
 go_wp2;go_ret;exact⟨rfl,aJ _ _⟩
def Gt(W:Nat)(p:aO)(x y:Int):Int:=if x<0∨y<0 then 128 else p.getD (y.toNat*W+x.toNat) 0
def uQ(W:Nat)(p:aO)(x y n:Nat):aO:=jK n fun i=>Gt W p (x+i) (y-1)
def rC(W:Nat)(p:aO)(x y n:Nat):aO:=jK n fun i=>Gt W p (x-1) (y+i)
def yP(W:Nat)(p:aO)(x y:Nat):Int:=Gt W p (x-1) (y-1)
theorem Vt{x y:Int}(hx:x<W)(hy:y<H)(w:aK)(T:Fr w W H n A p)(V:bF w m 90 #[W,H,aG A n c])(h1: -1≤x)(h2: -1≤y):
  Calls prog 323 #[x,y,aY m] w (Val w (Gt W p x y)):=by
 unfold Gt;obtain⟨O,N,M,U,_,S⟩:=T
 by_cases Z:x<0∨y<0
 ·rw[aF Z]
  go_enter func323,ntmps323
  by_cases R:x<0
  ·go_wp2
   go_ret;exact⟨rfl,aU _ _⟩
  ·have Q:y<0:=aj
   go_wp2;go_ret;exact⟨rfl,aU _ _⟩
 ·rw[au Z]
  obtain⟨X,rfl⟩:=D6 (aj:0≤x);obtain⟨Y,rfl⟩:=D6 (aj:0≤y);simp only[Int.toNat_natCast];obtain⟨b,o,rfl,L⟩:=S.at_ (i:=Y*W+X) (by rw[U];exact ad8 aj aj);have K:Y*W+X<n:=by rw[U];exact ad8 aj aj
  have J:=V.c0;have I:=V.c2;have G:(Y:Int)*(W:Int)=((Y*W:Nat):Int):=bK
  generalize Y*W=P at*;generalize p.getD (P+X) 0=v at*;go_enter func323,ntmps323;go_wp2;go_ret;exact⟨rfl,aU _ _⟩
theorem Ye(hm:m=4∨m=8)(hx:x+m≤W)(hy:y+m≤H)(w:aK)(C:Fr w W H n A p):
  Calls prog 306 #[uf W H A n c,x,y,m] w fun e z=>∃B b D d,e=bM (eP #[aG B m b,aG D m d,(yP W p x y)])∧
   Ls z B m (uQ W p x y m)∧Ls z D m (rC W p x y m)∧aP w z:=by
 have Q:=aJ w (dA W H A n c);obtain⟨HR,HB,K,o,l⟩:=rG (C.keep Q) Q (bF.new w 90 #[W,H,aG A n c]) (show(uQ W p x y m)=m from fB _ _) (show(rC W p x y m)=m from fB _ _);have hW:=C.wd.2;have hH:=C.ht.2;have qg:m≤8∧4≤m:=aj
 obtain⟨c0,J,I⟩:=K.s3;go_enter func306,ntmps306;go_wp2_with fail;refine(FI HR).aQ ?_;rintro w1 t;obtain⟨i,U,P⟩:=dB (HR.keep t) (K.keep t) (HB.trans (t.mono bK));obtain⟨d0,d1,d2⟩:=U.s3;have h:=P.size;have g:(((m:Int)!= 4)=false)∨(((m:Int)!= 4)=true∧((m:Int)!= 8)=false):=by rcases hm with rfl|rfl<;>decide
 rcases g with b4|⟨b4,b8⟩
 all_goals(
  go_wp2_with fail;refine(alb hW hH aj aj aj _).aQ ?_;rintro G T;obtain⟨O,N,S⟩:=dB (U.keep T) (i.keep T) (P.trans (T.mono h));go_wp2
  go_loopg [12,13,14,36] m (fun k vt vl qh vi wr=>∃(j J I:Nat) (B D:dK),j+k=m∧vi=j∧vt=aG B j J∧vl=aG D j I∧
   Own wr G B j J ((uQ W p x y m).take j)∧Own wr G D j I ((rC W p x y m).take j)∧Apart B D∧Apart D B∧aP G wr)
  case atStart=>exact⟨0,0,0,none,none,aj,rfl,rfl,rfl,Own.nil _ _ _,Own.nil _ _ _,Apart.none _,Apart.none _,aU _ _⟩
  case round=>
   obtain⟨j,J,I,B,D,hj,rfl,rfl,rfl,F,E,a1,a2,Y⟩:=hrel;obtain⟨hF,hR⟩:=aV (O.keep Y) (N.keep Y);have s:=Y.size
   by_cases M:j<m
   ·have qf:(j:Int)<m:=aj
    obtain⟨t1,t2⟩:=aV (show(uQ W p x y m).take (j+1)=_ from y7 _ M) (show(rC W p x y m).take (j+1)=_ from y7 _ M);go_wp2_with fail;refine(Vt aj aj _ hR.out hF.out aj aj).aQ ?_;rintro w3 Z;generalize Gt W p (x+j) (y-1)=v at*;have F:=F.keep Z;have E:=E.keep Z;have f:=dD s Z.size;have Z:=Y.trans (Z.mono s);go_wp2_with(at_builtin;refine ae3 rfl _ _ rfl rfl (F.alloc _) rfl (lV _ _) aj jy ?_;intro B3 c3 w4 r X a);obtain⟨q,a4⟩:=a _ _ _ _ _ (E.alloc _) a2;have X:=(Z.trans ((aJ _ _).mono f)).trans X;have L:=X.size;refine(Vt aj aj _ (N.keep X) (O.keep X) aj aj).aQ ?_;rintro w5 V;generalize Gt W p (x-1) (y+j)=u at*;have r:=r.keep V;have q:=q.keep V;have qa:=dD L V.size;have V:=X.trans (V.mono L);go_wp2_with(at_builtin;refine ae3 rfl _ _ rfl rfl (q.alloc _) rfl (lV _ _) aj jy ?_;intro B5 c5 w6 o5 R qe);obtain⟨o6,a6⟩:=qe _ _ _ _ _ (r.alloc _) a4.symm;have R:=(V.trans ((aJ _ _).mono qa)).trans R;go_roundg(gk-1)
    case measure=>omega
    case rel=>exact⟨j+1,_,_,_,_,aj,fA,rfl,rfl,by rw[t1.out];exact o6,by rw[t2.out];exact o5,a6,a6.symm,R⟩
   ·obtain rfl:j=m:=aj
    obtain⟨l1,l2⟩:=aV ((F.full o).ls) ((E.full l).ls);go_wp2_with fail;refine(Vt aj aj _ hR.out hF.out aj aj).aQ ?_;rintro w3 Z;go_wp2;go_ret3;exact⟨_,_,_,_,rfl,l1.out.keep Z,l2.out.keep Z,(S.trans (Y.mono S.size)).trans (Z.mono (dD S.size s))⟩)
theorem KU(W:n≤1000000)(Z:Bd 0 255 l)(w:aK)(Y:Ls w A n l):Calls prog 246 #[aG A n c] w (Val w (.bool true)):=by
 obtain⟨rfl,X⟩:=Y;refine(Ti aj w X).mono ?_;rw[(oG 0 255 l).2 Z];rintro e V ⟨rfl,rfl⟩;exact⟨rfl,aU _ _⟩
def Bj(t l:aO)(i:Nat):Int:=t.getD i 0+l.getD i 0
def IL(mode:Int)(n:Nat)(t l:aO)(c:Int)(i:Nat):Int:=
 if mode=0 then(n+fO (Bj t l) n)/(2*n)else if mode=1 then t.getD (i%n) 0 else if mode=2 then l.getD (i/n) 0 else So.clip (l.getD (i/n) 0+t.getD (i%n) 0-c)
def vZ(mode:Int)(n:Nat)(t l:aO)(c:Int):aO:=jK (n*n) (IL mode n t l c)
structure Eds(w:World)(n:Nat)(T L:Option Addr)(t l:List Int)(c:Int):Prop where
 n48:n=4∨n=8
 lt:Ls w T n t
 ll:Ls w L n l
 bt:Bd 0 255 t
 bl:Bd 0 255 l
 c:0≤c∧c≤255
theorem Eds.keep{w w':aK}{n:Nat}{T L:dK}{t l:aO}{c:Int}(h:Eds w n T L t l c)(Z:aP w w'):Eds w' n T L t l c:=⟨h.n48,h.lt.keep Z,h.ll.keep Z,h.bt,h.bl,h.c⟩
theorem ald(h:n=4∨n=8):(((n:Int)!= 4)=false)∨(((n:Int)!= 4)=true∧((n:Int)!= 8)=false):=by rcases h with rfl|rfl<;>decide
theorem Yf{T:dK}{t:aO}{k:Int}(w:aK)(h:Eds w n T L t l k):Calls prog 324 #[aG T n c,aG L n d,k] w (Val w iI):=by
 have R:n≤8:=by have:=h.n48;omega
 obtain⟨V,U⟩:=aV (KU (c:=c) (n:=n) aj h.bt w h.lt) (fun W (S:aP w W)=>KU (c:=d) (n:=n) aj h.bl W (h.ll.keep S));have Q:=h.c;have Y:=ald h.n48;rcases Y with b4|⟨b4,P⟩
 all_goals(
  go_enter func324,ntmps324;go_wp2_with fail;refine V.aQ ?_;rintro O Z;go_wp2_with fail;refine(U _ Z).aQ ?_;rintro N X;go_wp2;go_ret;exact⟨rfl,Z.trans (X.mono Z.size)⟩)
theorem Qm{T:dK}{t:aO}{k:Int}(r:0≤mode∧mode≤3)(w:aK)(h:Eds w n T L t l k):
  Calls prog 325 #[mode,aG T n c,aG L n d,k] w (Ve w (n*n) (vZ mode n t l k)):=by
 have q:4≤n∧n≤8:=by have:=h.n48;omega
 obtain⟨H,b2⟩:=aV (dO h.bt aj aj) (dO h.bl aj aj);have o:=ay (fun j=>oI (f:=Bj t l) (a:=0) (b:=510) (j:=j) fun i _=>by have:=H.out i;have:=b2.out i;unfold Bj;omega);have hk:=h.c;obtain⟨N,P⟩:∃N,n*n=N:=⟨_,rfl⟩;obtain⟨F,G⟩:∃F,IL mode n t l k=F:=⟨_,rfl⟩;have qg:n≤N∧N≤64:=by rw[←P];exact⟨lJ n aj,fC q.2 q.2⟩
 have qh:(n:Int)*n=(N:Int):=by rw[←P];simp
 unfold vZ;rw[P,G];change Hid _ at h P G;go_enter func325,ntmps325;go_wp2
 go_loopg [10,11,20] n (fun k vs qi E wr=>∃(j m:Nat),j+k=n∧E=j∧vs= aB (n+fO (Bj t l) j)∧wr=w.drewN m)
 case atStart=>exact⟨0,0,aj,rfl,by simp[fO],rfl⟩
 case round=>
  obtain⟨j,m,hj,rfl,rfl,rfl⟩:=hrel
  by_cases Z:j<n
  ·obtain⟨p2,o2,rfl,k2⟩:=h.lt.at_ Z
   obtain⟨p3,o3,rfl,k3⟩:=h.ll.at_ Z;have M:(j:Int)<(n:Int):=aj
   have D:=ay (show fO (Bj t l) (j+1)=fO (Bj t l) j+(t.getD j 0+l.getD j 0)from rfl);have v1:=H.out j;have v2:=b2.out j;have v3:=o.out j;generalize t.getD j 0=x at*;generalize l.getD j 0=y at*;generalize fO (Bj t l) j=S at*;go_wp2
   go_quiet(fail)
   go_wp2;go_roundg(gk-1)
   case measure=>omega
   case rel=>exact⟨j+1,m+nq,aj,fA,by rw[D.out];congr 1;omega,rfl⟩
  ·obtain rfl:j=n:=aj
   have v3:=o.out j;go_wp2_with(at_make;refine aaL rfl _ _ rfl rfl rfl rfl aj ?_;intro w1 K C);have B:=ay ((jM (aU w w) m).trans C);generalize g:fO (Bj t l) j=S at*;change Hid _ at g
   go_loopg [13,14,15,41] N (fun k qj qk ql E wr=>∃i:Nat,i+k=N∧E=i∧Own wr w w N N (rV N F (fun _=>0) i)∧aP w wr)
   case atStart=>exact⟨0,aj,rfl,by rw[Dv];exact K,B⟩
   case round=>
    obtain⟨i,hi,rfl,own,Y⟩:=hrel
    by_cases Z:i<N
    ·have M:(i:Int)<(N:Int):=aj
     obtain⟨R,J⟩:∃R,i%j=R:=⟨_,rfl⟩;obtain⟨Q,I⟩:∃Q,i/j=Q:=⟨_,rfl⟩;have A:R<j:=by rw[←J];exact Nat.mod_lt _ aj
     have z:Q<j:=by rw[←I];exact Nat.div_lt_of_lt_mul (by rw[P];exact Z)
     have qa:Int.tmod (i:Int) (j:Int)=(R:Int):=by rw[←J];rfl
     have qe:IntKind.i64.wrap ((i:Int)/(j:Int))=(Q:Int):=by rw[show(i:Int)/(j:Int)=(Q:Int) by rw[←I];rfl];exact iE _ aj
     have z1:¬j=0:=aj
     have z2:¬(j:Int)=0:=aj
     have z3:((j:Int)==0)=false:=by simpa using z2
     obtain⟨p2,o2,rfl,k2⟩:=(h.lt.keep Y).at_ A;obtain⟨p3,o3,rfl,k3⟩:=(h.ll.keep Y).at_ z;have v1:=H.out R;have v2:=b2.out Q;have W:=congrFun G i;unfold IL at W;rw[J,I,g]at W;generalize t.getD R 0=x at*;generalize l.getD Q 0=y at*;obtain⟨g',O,_,qf,X,U⟩:=own.form aj;obtain rfl:w=g':=by injection O with e;injection e
     have f1:=U i;have k4:=X i Z;rw[GU _ _ Z (bC i)]at k4;obtain⟨v,HO,u⟩:=dB (Dx F (fun _=>0) Z) (own.store i (F i)) (Y.setCell (p:=(aH w i)) bK (F i));generalize F i=V at*;have d1:¬(2*(j:Int))=0:=aj
     have d2:((2*(j:Int))==0)=false:=by simpa using d1
     have d3:=kJ (a:=(j:Int)+S) (b:=2*j) aj aj;have d4:=uK (a:=(j:Int)+S) (2*j) aj;have e5:IntKind.i64.wrap (((j:Int)+S)/(2*j))=((j:Int)+S)/(2*j):=iE _ aj;have e6:IntKind.i64.wrap (y+x-k)=y+x-k:=iE _ aj;have s:mode=0∨mode=1∨mode=2∨mode=3:=aj
     clear J I O U X own;rcases s with rfl|rfl|rfl|rfl
     all_goals(
      simp at W;subst W;go_wp2
      go_quiet(fail)
      go_wp2_with(go_at_call 208;refine(MV _ _).aQ ?_;rintro w' rfl);go_roundg(gk-1)
      case measure=>omega
      case rel=>exact⟨i+1,aj,fA,by rw[v.out];exact HO.drewN _,(jM u _)⟩)
    ·obtain rfl:i=N:=aj
     rw[E8]at own;change Hid _ at own;go_wp2;go_ret;exact⟨_,_,rfl,own,Y⟩
def GV(s k:Nat):Nat:=if s%2=0 then s-k else k
def rD(n s:Nat)(l:aO):Nat→aO
 |0=>l
 |k+1=>if s-GV s k<n∧GV s k<n then rD n s l k++ [((GV s k*n+(s-GV s k):Nat):Int)]else rD n s l k
def mZ(n:Nat):Nat→aO
 |0=>[]
 |s+1=>rD n s (mZ n s) (s+1)
def uh(n:Nat):aO:=mZ n (2*n-1)
theorem JI(n s:Nat)(l:aO):∀k,(rD n s l k).length≤l+k
 |0=>bC _
 |k+1=>by
  have Z:=JI n s l k;unfold rD;split
  ·simp;omega
  ·omega
theorem OJ(n:Nat):∀s,s≤15→(mZ n s).length≤16*s
 |0,_=>by simp[mZ]
 |s+1,h=>by
  have Z:=OJ n s aj;have:=JI n s (mZ n s) (s+1);unfold mZ;omega
def nJ(b:aO):Int:=(32+fO (fun i=>b.getD i 0) 64)/64
def nO(b:aO):Int:=fO (fun i=>max (b.getD i 0-nJ b) (nJ b-b.getD i 0)) 64
theorem Yg(P:Bd 0 255 b)(w:aK)(V:Ls w B 64 b):Calls prog 212 #[aG B 64 c] w (Val w (nO b)):=by
 have W:=ay (dO P aj aj);have O:=ay (fun j=>oI (f:=fun i=>b.getD i 0) (a:=0) (b:=255) (j:=j) fun i _=>W.out i);have L:0≤nJ b∧nJ b≤300:=by have:=O.out 64;unfold nJ;omega
 obtain⟨K,X⟩:=aV (fun j=>oI (f:=fun i=>max (b.getD i 0-nJ b) (nJ b-b.getD i 0)) (a:=0) (b:=300) (j:=j) fun i _=>by have:=W.out i;omega) (show nJ b=(32+fO (fun i=>b.getD i 0) 64)/64 from rfl);change Hid _ at V;clear P;go_enter func212,ntmps212;go_wp2
 go_loopg [3,5,11] (64:Nat) (fun k U E R wr=>∃j:Nat,j+k=64∧R=j∧U= aB (32+fO (fun i=>b.getD i 0) j)∧wr=w)
 case atStart=>exact⟨0,aj,rfl,rfl,rfl⟩
 case round=>
  obtain⟨j,J,rfl,rfl,rfl⟩:=hrel;have D:=O.out j
  by_cases Y:j<64
  ·obtain⟨b2,I,rfl,H⟩:=V.at_ Y
   have N:(j:Int)<64:=aj
   have G:=W.out j;have Z:=ay (show fO (fun i=>b.getD i 0) (j+1)=fO (fun i=>b.getD i 0) j+b.getD j 0 from rfl);generalize b.getD j 0=x at*;generalize fO (fun i=>b.getD i 0) j=S at*;go_wp2;go_roundg(gk-1)
   case measure=>omega
   case rel=>exact⟨j+1,aj,fA,by rw[Z.out];congr 1;omega,rfl⟩
  ·obtain rfl:j=64:=aj
   have C:0≤(32+fO (fun i=>b.getD i 0) 64)/64∧(32+fO (fun i=>b.getD i 0) 64)/64≤300:=by rw[←X.out];exact L
   have Q:=X;generalize fO (fun i=>b.getD i 0) 64=S at*;go_wp2
   go_loopg [6,8,23] (64:Nat) (fun k U A R F=>∃j q:Nat,j+k=64∧R=j∧U=(fO (fun i=>max (b.getD i 0-nJ b) (nJ b-b.getD i 0)) j)∧F=wr.drewN q)
   case atStart=>exact⟨0,0,aj,rfl,rfl,rfl⟩
   case round=>
    obtain⟨j,q,J,rfl,rfl,rfl⟩:=hrel
    by_cases Y:j<64
    ·obtain⟨b2,I,rfl,H⟩:=V.at_ Y
     have G:=W.out j;have z:=K.out j;have Z:=ay (show fO (fun i=>max (b.getD i 0-nJ b) (nJ b-b.getD i 0)) (j+1)=fO (fun i=>max (b.getD i 0-nJ b) (nJ b-b.getD i 0)) j+max (b.getD j 0-(32+S)/64) ((32+S)/64-b.getD j 0) by rw[←Q];rfl);generalize fO (fun i=>max (b.getD i 0-nJ b) (nJ b-b.getD i 0)) j=T at*;generalize b.getD j 0=x at*;generalize(32+S)/64=M at*;have y:IntKind.i64.wrap (x-M)=x-M:=iE _ aj;have v:IntKind.i64.wrap (M-x)=M-x:=iE _ aj;have u:IntKind.i64.wrap (T+max (x-M) (M-x))=T+max (x-M) (M-x):=iE _ aj;go_wp2
     first
      |(go_roundg(gk-1)
        case measure=>omega
        case rel=>exact⟨j+1,q,aj,fA,by rw[Z.out],rfl⟩)
      |(go_quiet(fail)
        go_wp2;go_roundg(gk-1)
        case measure=>omega
        case rel=>exact⟨j+1,q+nq,aj,fA,by rw[Z.out],rfl⟩)
    ·obtain rfl:j=64:=aj
     go_wp2;go_ret;exact⟨rfl,jM (aU _ _) q⟩
theorem aaS(E:n=4∨n=8)(w:aK):Calls prog 331 #[n] w (Ve w (uh n) (uh n)):=by
 have f:4≤n∧n≤8:=aj
 have G:=ald E;obtain⟨y,x,D⟩:=dB (fun s (h:s≤15)=>OJ n s h) (fun s k=>JI n s (mZ n s) k) (show uh n=mZ n (2*n-1)from rfl);clear E;rcases G with b4|⟨b4,a⟩
 all_goals(
  go_enter func331,ntmps331;go_wp2
  go_loopg [3,4,5,6,7,17] (2*n-1) (fun k J v4 v u t I wr=>∃(s c:Nat) (B:dK),s+k=2*n-1∧I=s∧J=aG B (mZ n s) c∧Own wr w B (mZ n s) c (mZ n s)∧aP w wr)
  case atStart=>exact⟨0,0,none,aj,rfl,rfl,⟨rfl,iM _ _ _ _⟩,aU _ _⟩
  case round=>
   obtain⟨s,cs,B,hs,rfl,rfl,own,W⟩:=hrel
   by_cases e:s<2*n-1
   ·have A:(s:Int)<2*(n:Int)-1:=aj
    have hl:=y s aj;go_wp2
    go_loopg [3,5,6,7,22] (s+1) (fun k J v u t I C=>∃(i c:Nat) (B:dK),i+k=s+1∧I=i∧J=aG B (rD n s (mZ n s) i) c∧Own C w B (rD n s (mZ n s) i) c (rD n s (mZ n s) i)∧aP w C)
    case atStart=>exact⟨0,_,_,aj,rfl,rfl,own,W⟩
    case round=>
     obtain⟨i,ci,Bi,hi,rfl,rfl,own,W⟩:=hrel
     by_cases d:i<s+1
     ·have z:(i:Int)<(s:Int)+1:=aj
      have b:=x s i;have N:=W.size
      by_cases M:s%2=0
      ·obtain⟨Y,K⟩:∃Y,s-i=Y:=⟨_,rfl⟩
       obtain⟨X,H⟩:∃X,s-Y=X:=⟨_,rfl⟩;have R:GV s i=Y:=by unfold GV;rw[aF M,K]
       have eY:(s:Int)-(i:Int)=(Y:Int):=aj
       have r:(s:Int)-(Y:Int)=(X:Int):=aj
       have F:((s:Int)%2==0)=true:=by rw[beq_iff_eq];omega
       have Z:=ay (show rD n s (mZ n s) (i+1)=if X<n∧Y<n then rD n s (mZ n s) i++ [((Y*n+X:Nat):Int)]else rD n s (mZ n s) i by rw[rD,R,H]);generalize rD n s (mZ n s) i=L at*;clear M R
       by_cases Q:X<n
       ·have U:(X:Int)<(n:Int):=aj
        by_cases O:Y<n
        ·have T:(Y:Int)<(n:Int):=aj
         rw[aF ⟨Q,O⟩]at Z;have q:=fC (by omega:Y≤8) (by omega:n≤8);have p:(Y:Int)*(n:Int)=((Y*n:Nat):Int):=bK
         generalize Y*n=P at*;have o:IntKind.i64.wrap (P:Int)=P:=iE _ aj;have m:IntKind.i64.wrap ((P:Int)+X)=((P+X:Nat):Int):=iE _ aj;go_wp2_with(at_builtin;refine app1 rfl _ _ rfl rfl (own.alloc _) rfl (lV _ _) aj jy ?_;intro l j g V S);go_roundg(gk-1)
         case measure=>omega
         case rel=>exact⟨i+1,_,_,aj,fA,by rw[Z.out,mG];rfl,by rw[Z.out,mG];exact V,(W.trans ((aJ _ _).mono N)).trans S⟩
        ·have T:¬(Y:Int)<(n:Int):=aj
         rw[au (fun h=>O h.2)]at Z;go_wp2;go_roundg(gk-1)
         case measure=>omega
         case rel=>exact⟨i+1,_,_,aj,fA,by rw[Z.out],by rw[Z.out];exact own,W⟩
       ·have U:¬(X:Int)<(n:Int):=aj
        rw[au (fun h=>Q h.1)]at Z;go_wp2;go_roundg(gk-1)
        case measure=>omega
        case rel=>exact⟨i+1,_,_,aj,fA,by rw[Z.out],by rw[Z.out];exact own,W⟩
      ·obtain⟨Y,K⟩:∃Y,i=Y:=⟨_,rfl⟩
       obtain⟨X,H⟩:∃X,s-Y=X:=⟨_,rfl⟩;have R:GV s i=Y:=by unfold GV;rw[au M,K]
       subst K;have r:(s:Int)-(i:Int)=(X:Int):=aj
       have F:((s:Int)%2==0)=false:=by rw[oO];omega
       have Z:=ay (show rD n s (mZ n s) (i+1)=if X<n∧i<n then rD n s (mZ n s) i++ [((i*n+X:Nat):Int)]else rD n s (mZ n s) i by rw[rD,R,H]);generalize rD n s (mZ n s) i=L at*;clear M R
       by_cases Q:X<n
       ·have U:(X:Int)<(n:Int):=aj
        by_cases O:i<n
        ·have T:(i:Int)<(n:Int):=aj
         rw[aF ⟨Q,O⟩]at Z;have q:i*n≤64:=fC (by omega:i≤8) (by omega:n≤8);have p:(i:Int)*(n:Int)=((i*n:Nat):Int):=bK
         generalize i*n=P at*;have o:IntKind.i64.wrap (P:Int)=P:=iE _ aj;have m:IntKind.i64.wrap ((P:Int)+X)=((P+X:Nat):Int):=iE _ aj;go_wp2_with(at_builtin;refine app1 rfl _ _ rfl rfl (own.alloc _) rfl (lV _ _) aj jy ?_;intro l j g V S);go_roundg(gk-1)
         case measure=>omega
         case rel=>exact⟨i+1,_,_,aj,fA,by rw[Z.out,mG];rfl,by rw[Z.out,mG];exact V,(W.trans ((aJ _ _).mono N)).trans S⟩
        ·have T:¬(i:Int)<(n:Int):=aj
         rw[au (fun h=>O h.2)]at Z;go_wp2;go_roundg(gk-1)
         case measure=>omega
         case rel=>exact⟨i+1,_,_,aj,fA,by rw[Z.out],by rw[Z.out];exact own,W⟩
       ·have U:¬(X:Int)<(n:Int):=aj
        rw[au (fun h=>Q h.1)]at Z;go_wp2;go_roundg(gk-1)
        case measure=>omega
        case rel=>exact⟨i+1,_,_,aj,fA,by rw[Z.out],by rw[Z.out];exact own,W⟩
     ·obtain rfl:i=s+1:=aj
      go_wp2;go_roundg(2*n-1-s-1)
      case measure=>omega
      case rel=>exact⟨s+1,_,_,aj,fA,rfl,own,W⟩
   ·obtain rfl:s=2*n-1:=aj
    go_wp2;go_ret;exact⟨_,_,by rw[D];rfl,by rw[D];exact own,W⟩)
theorem gU(w:aK)(Z Y:Obj):aP w ((w.alloc Z).alloc Y):=(aJ w Z).trans ((aJ (w.alloc Z) Y).mono bK)
theorem I8(h:Below ((w.alloc (dA W H A n c)).alloc (dA W H B i c2)) ((w.alloc (dA W H A n c)).alloc (dA W H B i c2)) w'):
  (w'.cell? (aH w 0)=some (aB W)∧w'.cell? (aH w 1)=some (aB H)∧w'.cell? (aH w 2)=some (aG A n c))∧
  (w'.cell? (aH (w.heap.size+1) 0)=some (aB W)∧w'.cell? (aH (w.heap.size+1) 1)=some (aB H)∧w'.cell? (aH (w.heap.size+1) 2)=some (aG B i c2)):=by
 have Z:=((bF.new w 90 #[W,H,aG A n c]).alloc (dA W H B i c2)).keep h;have Y:=(bF.new1 w (dA W H A n c) 90 #[W,H,aG B i c2]).keep h;refine⟨⟨?_,?_,?_⟩,?_,?_,?_⟩<;>first|(rw[Z.cell];rfl)|(rw[Y.cell];rfl)
theorem aha{q:aO}(w:aK)(V:Fr w W H n A p)(U:Fr w W H i B q):
  Calls prog 244 #[uf W H A n c,uf W H B i c2] w (Val w iI):=by
 have X:=gU w (dA W H A n c) (dA W H B i c2);obtain⟨T,S,P⟩:=dB (FI (c:=c) (V.keep X)) (fun R (Q:Below ((w.alloc (dA W H A n c)).alloc (dA W H B i c2)) ((w.alloc (dA W H A n c)).alloc (dA W H B i c2)) R)=>FI (c:=c2) ((U.keep X).keep Q)) X;go_enter func244,ntmps244;go_wp2_with fail;refine T.aQ ?_;rintro K Z;obtain⟨_,O,N,M⟩:=I8 Z;go_wp2_with fail;refine(S _ Z).aQ ?_;rintro J Y;have Y:=Z.trans (Y.mono Z.size);obtain⟨⟨I,G,L⟩,O,N,M⟩:=I8 Y;go_wp2;go_ret;exact⟨rfl,P.trans (Y.mono jy)⟩
theorem afb{v:Int}(h: -1000≤v∧v≤1000)(w:aK):Calls prog 245 #[aB v] w (Val w (aB (max v (-v)))):=by
 go_enter func245,ntmps245;go_wp2;go_ret;exact⟨rfl,aU _ _⟩
def CZ(p q:aO)(i:Nat):Int:=max (p.getD i 0-q.getD i 0) (-(p.getD i 0-q.getD i 0))
def FU(n:Nat)(p q:aO):Int:=fO (CZ p q) n
theorem ahb{q:aO}(Z:Bd 0 255 p)(Y:Bd 0 255 q)(j:Nat):0≤fO (CZ p q) j∧fO (CZ p q) j≤j*255:=by
 have h:=oI (f:=CZ p q) (a:=0) (b:=255) (j:=j) fun i _=>by
  have:=dO Z aj aj i;have:=dO Y aj aj i;unfold CZ;omega
 simpa using h
theorem ajD{q:aO}(w:aK)(X:Fr w W H n A p)(U:Fr w W H n B q):
  Calls prog 209 #[uf W H A n c,uf W H B n c2] w (Val w (eP #[(FU n p q),iI])):=by
 have V:=gU w (dA W H A n c) (dA W H B n c2);have I:=ay (aha (c:=c) (c2:=c2) _ (X.keep V) (U.keep V));have o:=X.n1;obtain⟨G,F,E,D,C⟩:=rG (dO X.bd aj aj) (dO U.bd aj aj) (ahb X.bd U.bd) (X.ls.keep V) (U.ls.keep V);change Hid _ at V;clear X U;go_enter func209,ntmps209;go_wp2_with fail;refine I.aQ ?_;rintro m T;obtain⟨⟨N,M,R⟩,L,K,J⟩:=I8 T;have P:=ay T;go_wp2;clear N M R L K J
 go_loopg [7,8,9,19] n (fun k z l i u wr=>∃j:Nat,j+k=n∧u=j∧z=(fO (CZ p q) j)∧Below ((w.alloc (dA W H A n c)).alloc (dA W H B n c2)) ((w.alloc (dA W H A n c)).alloc (dA W H B n c2)) wr)
 case atStart=>exact⟨0,aj,rfl,rfl,P⟩
 case round=>
  obtain⟨j,h,rfl,rfl,Z⟩:=hrel;obtain⟨⟨N,M,R⟩,L,K,J⟩:=I8 Z
  by_cases Q:j<n
  ·obtain⟨b2,g,rfl,f⟩:=(D.keep Z).at_ Q
   obtain⟨e,d,rfl,b⟩:=(C.keep Z).at_ Q;have a:=G.out j;have v2:=F.out j;have v3:=E.out j;have O:=ay (show fO (CZ p q) (j+1)=fO (CZ p q) j+max (p.getD j 0-q.getD j 0) (-(p.getD j 0-q.getD j 0))from rfl);generalize p.getD j 0=x at*;generalize q.getD j 0=y at*;generalize fO (CZ p q) j=S at*;have e1:IntKind.i64.wrap (x-y)=x-y:=iE _ aj;have t:=ay (fun s=>afb (v:=x-y) aj s);have r:=Z.size;go_wp2_with fail;refine(t _).aQ ?_;rintro w3 Y;have Y:=Z.trans (Y.mono r);have e2:IntKind.i64.wrap (S+max (x-y) (-(x-y)))=S+max (x-y) (-(x-y)):=iE _ aj;go_wp2;go_roundg(gk-1)
   case measure=>omega
   case rel=>exact⟨j+1,aj,fA,by rw[O.out],Y⟩
  ·obtain rfl:j=n:=aj
   go_wp2;go_ret2;exact⟨rfl,V.trans (Z.mono jy)⟩
theorem afc{q:aO}(w:aK)(Z:Fr w W H n A p)(V:Fr w W H n B q):
  Calls prog 148 #[uf W H A n c,uf W H B n c2] w (Val w (eP #[aB (64*FU n p q/n),iI])):=by
 have X:=gU w (dA W H A n c) (dA W H B n c2);have U:=ay (ajD (c:=c) (c2:=c2) _ (Z.keep X) (V.keep X));have P:=Z.n1;have R:1≤n:=by rw[Z.size];exact Nat.mul_pos Z.wd.1 Z.ht.1
 have O:0≤FU n p q∧FU n p q≤n*255:=ahb Z.bd V.bd n;have T:=ay X;generalize FU n p q=S at*;have N:¬(n:Int)=0:=aj
 go_enter func148,ntmps148;go_wp2_with fail;refine U.aQ ?_;rintro M Y;obtain⟨⟨L,K,Q⟩,J,I,G⟩:=I8 Y;go_wp2;go_ret2;exact⟨rfl,T.trans (Y.mono jy)⟩
def Ir(p:aO)(Z:Nat)(cs:aO):aO:=p.take Z++(cs++p.drop (Z+cs.length))
theorem acD{cs:aO}(h:i+cs≤p):(Ir p i cs).length=p:=by simp[Ir];omega
theorem Ai(w:aK)(g:Nat)(cs:Array cO):bQ (fun i=>i=g) w (w.setRow g cs):=⟨rfl,rfl,rfl,by simp[World.setRow],fun k _ Z=>setRow_other w g k cs Z⟩
theorem Own.cap(h:Own w base A n c l):n≤c:=by
 rcases h.row.2 with⟨e,rfl⟩|⟨g,Z,Y,e,_,_,X,_⟩
 ·exact dS _
 ·injection e with _ _ e;omega
theorem amE{R:Array Oper}{K:Act→aK→Prop}(H:o.guard=none)(d s:Operand)
  (y:o.op= .call {callee:=.builtin .copy,args:=#[d,s],argTypes:=#[34,34]})
 {Z X:Nat} {S:dK} {cs:aO} (hd:a.eval d=aG (some (aH g k)) Z X) (x:a.eval s=aG S m W) (O:Own w base g n c p) (u:Ls w S m cs)
    (t:0<m) (G:m≤Z) (z:k+m≤n)
    (h:∀w',Own w' base g n c (Ir p k cs)→bQ (fun i=>i=g) w w'→K (a.put o.dst (goInt m)) w'):
    if Region.wanted o (yielded R a.tmps)=true then Oper.wp prog o a w K Q else E:=by
  have r:Region.wanted o (yielded R a.tmps)=true:=by simp[Region.wanted,H]
  rw[aF r];rcases O.row.2 with⟨e,_⟩|⟨q,F,U,e,D,N,C,B,Y,M⟩
  ·cases e
  obtain⟨rfl,rfl⟩:g=q∧c=F:=by injection e with T h6 l;injection T with T;injection T with T;exact⟨T,l⟩
  obtain⟨rfl,f⟩:=u;obtain⟨b,o',rfl,J⟩:=f.2 t;simp only[lC]at M Y;have I:(cs.map (Value.int .i64))=Nat.min cs Z:=by rw[fJ];exact(Nat.min_eq_left G).symm
  have V:=run_copy_row (P:=prog) w 34 34 o.type 3 g k Z X (aH b o') cs W U 3 (cs.map (Value.int .i64)) underlying34 aW N I
   (fun j v hv=>by rw[add_lit];exact J j v hv) (by rw[fJ,Y];omega) (MR _ _)
  rw[fJ]at V;unfold Oper.wp;simp only[execOp,y,resolve,invoke,builtin,mJ,Sem.run_pure,Result.andThen_ok,List.map_toArray,oq,List.map_nil,hd,x,V];have A:=O.len;refine h _ ⟨by rw[acD aj];exact A,by simp[Ir];omega,.inr ⟨g,c,_,rfl,D,setRow_heap w g _ _ _ _ N,C,B,?_,?_⟩⟩ (Ai _ _ _)
  ·have L:U.toList=c:=by simpa using Y
   simp;omega
  ·have L:U.toList=c:=by simpa using Y
   rw[lC,Ir,gG,gG,List.map_take,List.map_drop,←M,List.take_take,Nat.min_eq_left aj,List.drop_take];rw[wQ,List.take_append,xO,L,Nat.min_eq_left (by omega:k≤c),List.take_take,Nat.min_eq_right (by omega:k≤n),List.take_append,fJ,wO (by rw[fJ];omega:(List.map (Value.int IntKind.i64) cs)≤n-k)];rw[(aj:n-k-cs.length=n-(k+cs))]
theorem Ls.cut{b o:Nat}(h:Ls w (some (aH b o)) n l)(Q:lo+m≤n):Ls w (some (aH b (o+lo))) m ((l.drop lo).take m):=by
 have P:=h.len;refine⟨jy,bK,fun O=>⟨b,o+lo,rfl,fun j u Z=>?_⟩⟩
 have X:j<m:=by
  rcases Nat.lt_or_ge j m with Y|Y
  ·exact Y
  ·rw[IU jy]at Z;cases Z
 obtain⟨W,V,U,T⟩:=h.at_ (i:=lo+j) aj;obtain⟨rfl,rfl⟩:b=W∧o=V:=by injection U with e;injection e with S R;exact⟨S,R⟩
 rw[gX,List.getElem?_take,aF X,Rx,fP aj]at Z;rw[iO,T,dG,fP aj,←Z];rfl
def IQ(W x y m:Nat)(b p:aO):Nat→aO
 |0=>p
 |j+1=>Ir (IQ W x y m b p j) ((y+j)*W+x) ((b.drop (j*m)).take m)
def DI(W x y m:Nat)(b p:aO):aO:=IQ W x y m b p m
theorem acE{o:Nat}(C:4≤m∧m≤8)(X:o=m*m)(h:W≤32)(f:H≤32)(hx:x+m≤W)(hy:y+m≤H)(J:n=W*H)(w:aK)
  (Z:Own w base g n c p) (I:Ls w B o b) (hd:o≤d) (L:∀q,B=some q→q.block≠g):
  Calls prog 293 #[uf W H g n c,x,y,m,aG B o d] w fun e A=>e=bM (eP #[])∧Own A base g n c (DI W x y m b p)∧bQ (fun i=>i=g) w A:=by
 have V:=aJ w (dA W H g n c);have hg:g<w:=(Z.row.lt g rfl).2;have s:=Z.cap;have a:=Z.keep V;obtain⟨z,HF,HC⟩:=dB (I.keep V) (bF.new w 90 #[W,H,aG g n c]) (bQ.of_below (S:=fun i=>i=g) V);have N:w≠g:=aj
 obtain⟨bB,oB,rfl,_⟩:=I.at_ (by rw[X];exact Nat.mul_pos aj aj);have E:=L _ rfl;change Hid _ at X J;clear I V Z L;go_enter func293,ntmps293;go_wp2
 go_loopg [10,12] m (fun k qa vi wr=>∃j:Nat,j+k=m∧vi=j∧Own wr base g n c (IQ W x y m b p j)∧bQ (fun i=>i=g) (w.alloc (dA W H g n c)) wr)
 case atStart=>exact⟨0,aj,rfl,a,bQ.refl _ _⟩
 case round=>
  obtain⟨j,hj,rfl,Z,U⟩:=hrel
  by_cases qe:j<m
  ·have r:(j:Int)<(m:Int):=aj
   have G:=HF.dH U N;have v:=G.c0;have u:=G.c2;have K:Ls wr (some (aH bB oB)) o b:=⟨z.len,z.rd.dH U (fun q F=>by injection F with F;subst F;exact E)⟩
   have hP:(y+j)*W+W≤n:=by
    rw[J,Nat.mul_comm W H,←Nat.succ_mul];exact uH _ aj
   have hQ:j*m+m≤o:=by
    rw[X,←Nat.succ_mul];exact uH _ aj
   have qf:n≤1024:=by rw[J];exact fC h f
   have l:o≤64:=by rw[X];exact fC C.2 C.2
   have M:IQ W x y m b p (j+1)=Ir (IQ W x y m b p j) ((y+j)*W+x) ((b.drop (j*m)).take m):=rfl;have e2:((y:Int)+j)*(W:Int)=(((y+j)*W:Nat):Int):=bK
   have e4:(j:Int)*(m:Int)=((j*m:Nat):Int):=bK
   generalize(y+j)*W=P at*;generalize j*m=Q at*;have e1:IntKind.i64.wrap ((y:Int)+j)=(y:Int)+j:=iE _ aj;have qg:IntKind.i64.wrap (P:Int)=P:=iE _ aj;have e3:IntKind.i64.wrap ((P:Int)+x)=(P+x:Nat):=iE _ aj;have qh:IntKind.i64.wrap (Q:Int)=Q:=iE _ aj;have e5:IntKind.i64.wrap ((Q:Int)+m)=(Q+m:Nat):=iE _ aj;have hcut:=K.cut (lo:=Q) (m:=m) aj;obtain⟨O,hO⟩:∃O,P+x=O:=⟨_,rfl⟩;obtain⟨R,hR⟩:∃R,Q+m=R:=⟨_,rfl⟩;rw[hO]at e3 M;rw[hR]at e5;have i1:(0:Int)≤(O:Int):=aj
   have i2:(O:Int)≤(n:Int):=aj
   have i3:(n:Int)≤(c:Int):=aj
   have i4:¬c=O:=aj
   have i5:(0:Int)≤(Q:Int):=aj
   have i6:(Q:Int)≤(R:Int):=aj
   have i7:(R:Int)≤(d:Int):=aj
   have i8:¬d=Q:=aj
   have i9:R-Q=m:=aj
   change Hid _ at M;clear G K;go_wp2
   go_region_held3(fun t=>aN t w 0 (aB W)∧aN t w 2 (aG g n c))
    (first
      |(exact⟨v,u⟩)
      |(exact⟨bG (w:=wr.drew) v Y N,bG (w:=wr.drew) u Y N⟩)|fail)
    (first
      |(refine amE rfl (.tmp 25) (.tmp 35) rfl rfl rfl Z.drew (hcut.keep (aU _ _).drew) aj aj aj ?_;intro w5 T Y)
      |fail)
   have D:=ay (U.drew.trans Y);change Hid _ at T;clear Y Z;go_wp2;go_roundg(gk-1)
   case measure=>omega
   case rel=>exact⟨j+1,aj,fA,by rw[M];exact T,D⟩
  ·obtain rfl:j=m:=aj
   go_wp2;exact eU (by simp[results,results293,go_sem]) rfl ⟨rfl,Z,HC.trans U⟩
theorem RD(h0:0<n)(R:n≤100000)(w:aK)(X:Ls w A n l):Calls prog 255 #[aG A n c] w (Ve w n l):=by
 have V:=ay (X.keep (aJ w (aS #[] 3)));obtain⟨b,o,rfl,_⟩:=X.at_ h0;have U:=ay (Own.empty w w (bC _));have W:=fun w=>Lib.run_eql_slice_nil w 34 3 (some (aH b o)) n c 0 0 underlying34
 go_enter func255,ntmps255;go_wp2_with(at_builtin;refine anJ rfl _ _ rfl rfl U rfl V aj bK ?_;intro T S Q Z Y);go_ret;refine⟨T,S,bK,by simpa using Z,(aJ _ _).trans Y⟩
theorem ahc:∀h∈[1,2,4,8,16,32],∀j,j<64→bits .and .i64 (j:Nat) (h:Nat)=((j&&& h:Nat):Int)∧bits .or .i64 (j:Nat) (h:Nat)=((j|||h:Nat):Int):=by decide+kernel
theorem aaT(J:K=4∨K=6)(a:Bd (-33554432) 33554432 l)(w:aK)(s:Ls w A (2^K) l):Calls prog 318 #[aG A (2^K:Nat) c] w (Ve w (2^K) (nR (2^K) l K)):=by
 have O:2^K≤64∧0<2^K:=by rcases J with rfl|rfl<;>decide
 have L:2^K∈[16,64]:=by rcases J with rfl|rfl<;>decide
 have qa:K≤6:=aj
 obtain⟨HC,r⟩:=aV (RD (c:=c) O.2 aj w s) (Gm (n:=2^K) aj a);have N:∀t,t<K→2^t<2^K:=fun t q=>Nat.pow_lt_pow_right aj q
 generalize o:2^K=n at*;change Hid _ at o N;clear s J;go_enter func318,ntmps318;go_wp2_with(go_at_call 255;refine HC.mono ?_;rintro e w1 ⟨B,m,rfl,Q,H⟩);obtain⟨g,rfl,_⟩:=Q.form O.2
 go_loopg [4,5] K (fun k vh v5 wr=>∃t h:Nat,t+k=K∧vh=h∧Hid (h=2^t)∧Own wr w g n m (nR n l t)∧aP w wr)
 case atStart=>exact⟨0,1,aj,rfl,rfl,Q,H⟩
 case round=>
  obtain⟨t,h,q,rfl,U,own,Z⟩:=hrel
  by_cases G:t<K
  ·have F:h<n:=by rw[U.out];exact N t G
   have f:(h:Int)<(n:Int):=aj
   go_wp2
   go_loopg [5,16] n (fun k v5 vi wr=>∃j:Nat,j+k=n∧vi=j∧Own wr w g n m (pV n h (nR n l t) j)∧aP w wr)
   case atStart=>exact⟨0,aj,rfl,by rw[Xu own.len];exact own,Z⟩
   case round=>
    obtain⟨j,hj,rfl,own,Z⟩:=hrel
    by_cases P:j<n
    ·have d:(j:Int)<(n:Int):=aj
     have Y:=acu (t:=t) aj;have hp:0<h:=by rw[U.out];exact Nat.pow_pos aj
     rw[←U.out]at Y;have X:=ahc h Y j aj;have I:=Oc h Y j aj
     by_cases R:j&&& h=0
     ·have V:=X.1
      have E:=X.2;rw[R]at V
      have D:j|||h=j+h:=by
       rcases I with⟨_,i,_⟩|⟨i,h2,_⟩
       ·exact i
       ·omega
      rw[D]at E;have T:=acv n L h Y F j P R;have C:=ay (Xw (nR n l t) Y O.1 R T);obtain⟨g',M,_,b,W,S⟩:=own.form O.2;obtain rfl:g=g':=by injection M with e;injection e
      have k1:=W j P;have k2:=W (j+h) T;rw[Qi _ P aj]at k1;rw[Qi _ T aj]at k2;have f1:=S j;have f2:=S (j+h);have v1:=dO (r t) (by rw[←U.out];omega) (by rw[←U.out];omega) j;have v2:=dO (r t) (by rw[←U.out];omega) (by rw[←U.out];omega) (j+h);rw[←U.out]at v1 v2;generalize(nR n l t).getD j 0=x at*;generalize(nR n l t).getD (j+h) 0=y at*;have e1:IntKind.i64.wrap (x+y)=x+y:=iE _ aj;have e2:IntKind.i64.wrap (x-y)=x-y:=iE _ aj;obtain⟨HO,z⟩:=aV ((own.store j (x+y)).store (j+h) (x-y)) ((Z.setCell (p:=(aH g j)) jy (aB (x+y))).setCell (p:=(aH g (j+h))) jy (aB (x-y)));clear X I Y own W S M;go_wp2
      go_region
      go_wp2;go_roundg(gk-1)
      case measure=>omega
      case rel=>exact⟨j+1,aj,fA,by rw[C.out];exact HO.drew,z.drew⟩
     ·have V:=X.1
      have u:(bits .and .i64 (j:Int) (h:Int)==0)=false:=by rw[V,oO];omega
      have v:=ay (Xv (nR n l t) Y O.1 R);clear V X I Y;go_wp2;go_roundg(gk-1)
      case measure=>omega
      case rel=>exact⟨j+1,aj,fA,by rw[v.out];exact own,Z⟩
    ·obtain rfl:j=n:=aj
     have hw:IntKind.i64.wrap ((h:Int)*2)=(h*2:Nat):=iE _ aj;go_wp2;go_roundg(K-t-1)
     case measure=>omega
     case rel=>exact⟨t+1,h*2,aj,fA,ay (by rw[U.out,tV]),by unfold nR;rw[←U.out];exact own,Z⟩
  ·obtain rfl:t=K:=aj
   have e:h=n:=by rw[U.out,o]
   subst e;go_wp2;go_ret;exact⟨_,_,rfl,own,Z⟩
section
open Go.Shelf
def aay:Go.Shelf.Ren:=⟨fun|125=>131|128=>183|129=>184|n=>n,fun|46=>175|3=>3|51=>176|53=>286|4=>4|5=>5|9=>9|n=>n,fun|n=>n⟩
theorem lays125:Go.Proofs.Lays.n125 prog aay:={
 mixed:=aW
 f125:=func131.trans (bf some aW)
 f128:=func183.trans (bf some aW)
 f129:=func184.trans (bf some aW)
 t3:=underlying3
 a3:=Tryz.isAgg3
 z3:=Tryz.sizeOf3
 v3:=Tryz.zeroValue3
 t4:=underlying4
 a4:=Tryz.isAgg4
 z4:=Tryz.sizeOf4
 v4:=Tryz.zeroValue4
 t5:=underlying5
 a5:=Tryz.isAgg5
 z5:=Tryz.sizeOf5
 v5:=Tryz.zeroValue5
 t9:=underlying9
 a9:=Tryz.isAgg9
 z9:=Tryz.sizeOf9
 v9:=Tryz.zeroValue9
 t46:=underlying175
 a46:=Tryz.isAgg175
 z46:=Tryz.sizeOf175
 v46:=Tryz.zeroValue175
 t51:=underlying176
 a51:=Tryz.isAgg176
 z51:=Tryz.sizeOf176
 v51:=Tryz.zeroValue176
 t53:=underlying286
 a53:=Tryz.isAgg286
 z53:=Tryz.sizeOf286
 v53:=Tryz.zeroValue286}
theorem aaU:∀(n x:Nat),x<2^n→Lib.bitLenAux n x=Co.MS (x:Int):=by
 intro n
 induction n with
 |zero=>intro x Z;have:x=0:=by simpa using Z
        subst this;rfl
 |succ n X=>
  intro x Z;simp only[Lib.bitLenAux]
  by_cases Y:x=0
  ·subst Y;rfl
  ·rw[au Y,X (x/2) (by rw[tV]at Z;omega),Co.aeY (u:=(x:Int)) aj,show((x/2:Nat):Int)=(x:Int)/2 by omega]
   omega
theorem ajG{x:Int}(h0:0≤x)(h1:x≤18446744073709551615)(w:aK):
  Calls prog 131 #[.int .u64 x] w fun e Z=>e=bM (aB (Co.MS x))∧w=Z:=by
 refine(Any.bits_Len lays125 x w h0 h1).mono ?_;rintro e Z ⟨rfl,rfl⟩;have:=aaU 64 x.toNat aj;refine⟨?_,rfl⟩;unfold Lib.bitLen;rw[this,rM h0]
theorem acF(v:Int)(Y: -9223372036854775808≤v∧v≤9223372036854775807)(w:aK):Calls prog 207 #[aB v] w fun e X=>e=bM (aB (Co.unfold' v))∧w=X:=by
 unfold Co.unfold';obtain⟨T,S⟩:=Y
 by_cases W:v<0
 ·rw[aF (.inl W)]
  go_enter func207,ntmps207;go_wp2;go_ret;exact sD
 ·by_cases V:v>4611686018427387904
  ·rw[aF (.inr V)]
   go_enter func207,ntmps207;go_wp2;go_ret;exact sD
  ·rw[au aj]
   by_cases Z:v%2=1
   ·rw[aF Z]
    have U:(v%2==1)=true:=by rw[beq_iff_eq];exact Z
    go_enter func207,ntmps207;go_wp2;go_ret;exact sD
   ·rw[au Z]
    go_enter func207,ntmps207;go_wp2;go_ret;exact sD
theorem aaV(v:Int)(Y: -9223372036854775808≤v∧v≤9223372036854775807)(w:aK):Calls prog 113 #[aB v] w fun e X=>e=bM (aB (Co.unfold' v))∧w=X:=by
 unfold Co.unfold';obtain⟨S,R⟩:=Y
 by_cases W:v<0
 ·rw[aF (.inl W)]
  go_enter func113,ntmps113;go_wp2;go_ret;exact sD
 ·by_cases V:v>4611686018427387904
  ·rw[aF (.inr V)]
   go_enter func113,ntmps113;go_wp2;go_ret;exact sD
  ·rw[au aj]
   by_cases Z:v%2=1
   ·rw[aF Z]
    have T:(v%2==1)=true:=by rw[beq_iff_eq];exact Z
    have U:(v+1)/2=v/2+1:=aj
    rw[←U];go_enter func113,ntmps113;go_wp2;go_ret;exact sD
   ·rw[au Z]
    go_enter func113,ntmps113;go_wp2;go_ret;exact sD
end
theorem acG(h:Bd (-most) most l)(U:0≤most∧most≤1099511627776)(W:aK)(Z:aN W m 0 (aB most)):Tests 335 #[aY m] (fun _=>false) l W:=by
 refine⟨enters_of func335 aW rfl,fun v Y T X=>?_⟩;have S:=h v Y;have R:¬v< -most:=aj
 have Q:¬v>most:=aj
 have V:=aC Z X;go_enter func335,ntmps335;go_wp2;go_ret;exact⟨rfl,aU _ _⟩
theorem Yh(X:n=16∨n=64)(h:Bd (-most) most l)(W:0≤most∧most≤1099511627776)(w:aK)(V:Ls w A n l):
  Calls prog 317 #[aG A n c,most] w (Val w iI):=by
 have Y:=aJ w (aS #[most] 3);obtain⟨H,U⟩:=aV (Ez (c:=c) aj _ (acG (m:=w.heap.size) h W _ ((bF.new w 3 #[most]).at rfl)) (V.keep Y)) Y;rcases X with rfl|rfl
 all_goals(
  go_enter func317,ntmps317;go_wp2_with fail;refine H.aQ ?_;rintro T Z;go_wp2;go_ret;exact⟨rfl,U.trans (Z.mono bK)⟩)
theorem acH(X:K=4∨K=6)(h:Bd (-65536) 65536 l)(w:aK)(W:Ls w A (2^K) l):
  Calls prog 299 #[aG A (2^K:Nat) c] w (aaK w (2^K) (nR (2^K) l K)):=by
 obtain⟨U,T⟩:=aV (Yh (c:=c) (most:=65536) (by rcases X with rfl|rfl<;>decide) h aj w W) (fun V (S:aP w V)=>aaT (c:=c) X (fun v R=>by have:=h v R;omega) V (W.keep S));generalize 2^K=n at*;go_enter func299,ntmps299;go_wp2_with fail;refine U.aQ ?_;rintro Q Z;go_wp2_with fail;refine(T _ Z).mono ?_;rintro e P ⟨B,O,rfl,own,Y⟩;go_wp2;go_ret2;exact⟨_,_,rfl,own.lower Z.size,Z.trans (Y.mono Z.size)⟩
def RF(n K:Nat)(l:aO):aO:=jK n fun i=>((nR n l K).getD i 0+n/2)/2^K
theorem acI(V:K=4∨K=6)(h:Bd (-16777216) 16777216 l)(w:aK)(O:Ls w A (2^K) l):
  Calls prog 334 #[aG A (2^K:Nat) c] w (aaK w (2^K) (RF (2^K) K l)):=by
 obtain⟨D,C,I⟩:=dB (Yh (c:=c) (most:=16777216) (by rcases V with rfl|rfl<;>decide) h aj w O) (fun P (z:aP w P)=>aaT (c:=c) V (fun v y=>by have:=h v y;omega) P (O.keep z)) (fun P=>ajG (x:=(2^K:Nat)) (Int.natCast_nonneg _) (by rcases V with rfl|rfl<;>decide) P);have H:Co.MS (2^K:Nat)=(K+1:Nat):=by rcases V with rfl|rfl<;>decide
 rw[H]at I;clear H;have G:2^K≤64∧0<2^K:=by rcases V with rfl|rfl<;>decide
 have u:=ay (Gm (n:=2^K) aj h K);generalize t:2^K=n at*;change Hid _ at V;clear O h t;unfold RF at*;generalize nR n l K=T at*;go_enter func334,ntmps334;go_wp2_with fail;refine D.aQ ?_;rintro s Y;go_wp2_with fail;refine(C _ Y).mono ?_;rintro e w2 ⟨B,r,rfl,own,N⟩;go_wp2_with fail;refine(I _).aQ ?_;rintro w3 rfl;obtain⟨M,q⟩:=aV (dO u aj aj) (aaJ own.len);obtain⟨g,rfl,b,a,_⟩:=own.form G.2;have R:=ay (Y.trans (N.mono Y.size));have Q:=Y.size;have qa:K≤6:=by have:=V.out;omega
 have qe:wrap64 (K:Int)=K:=U3 _ aj;go_wp2
 go_loopg [7,8,23] n (fun k v7 v8 o wr=>∃j:Nat,j+k=n∧o=j∧Own wr s g n r (rV n (fun i=>(T.getD i 0+n/2)/2^K) (fun i=>T.getD i 0) j)∧aP w wr)
 case atStart=>exact⟨0,aj,rfl,by rw[Dv,q];exact own,R.out⟩
 case round=>
  obtain⟨j,hj,rfl,own,X⟩:=hrel
  by_cases U:j<n
  ·have F:(j:Int)<(n:Int):=aj
   obtain⟨m,S,_,E,Z,W⟩:=own.form G.2;obtain rfl:g=m:=by injection S with e;injection e
   have f:=Z j U;rw[GU _ _ U aj]at f;have f1:=W j;have L:=ay (Dx (fun i=>(T.getD i 0+n/2)/2^K) (fun i=>T.getD i 0) U);have v1:=M j;generalize T.getD j 0=x at*;clear Z W S;obtain⟨d,J⟩:=aV (own.store j ((x+n/2)/2^K)) (X.setCell (p:=(aH g j)) jy (aB ((x+n/2)/2^K)));clear own;go_wp2;go_roundg(gk-1)
   case measure=>omega
   case rel=>exact⟨j+1,aj,fA,by rw[L.out];exact d,J⟩
  ·obtain rfl:j=n:=aj
   rw[E8]at own;change Hid _ at own;go_wp2;go_ret2;exact⟨_,_,rfl,own.lower Q,X⟩
theorem acJ(l:aO)(w:aK):Tests 297 #[] (fun v=>!(v==0)) l w:=by
 refine⟨enters_of func297 aW rfl,fun v Z Y _=>?_⟩;go_enter func297,ntmps297;go_wp2;go_ret;exact⟨rfl,aU _ _⟩
def Bl(l:aO):Bool:=!l.any fun v=>!(v==0)
theorem Vu(X:n≤100000)(w:aK)(Z:Ls w A n l):Calls prog 282 #[aG A n c] w (Val w (.bool (Bl l))):=by
 have H:=ay (Nc (c:=c) aj w (acJ l w) Z);unfold Bl;generalize l.any _=r at*;go_enter func282,ntmps282;go_wp2_with(go_at_call 252;refine H.aQ ?_;rintro W Y);go_ret;exact⟨rfl,Y⟩
def Yi:aO:=[1,2,4,6,8,12,16,24,32,48,64,96,128,192,256,384]
def rE(qp:Nat):Int:=Yi.getD qp 1
theorem Iu(qp:Nat):1≤rE qp∧rE qp≤384:=by
 by_cases h:qp<16
 ·have:∀q,q<16→1≤rE q∧rE q≤384:=bn
  exact this qp h
 ·have:rE qp=1:=by unfold rE;rw[dG,IU (by simp[Yi];omega)];rfl
  omega
def Ec(qp:Nat)(v:Int):Int:=if v<0 then-((rE qp/2-v)/rE qp)else(v+rE qp/2)/rE qp
def GX(n qp:Nat)(l:aO):aO:=jK n fun i=>Ec qp (l.getD i 0)
def BM(n qp:Nat)(l:aO):aO:=jK n fun i=>l.getD i 0*rE qp
abbrev ale:Array cO:=#[aB 1,aB 2,aB 4,aB 6,aB 8,aB 12,aB 16,aB 24,aB 32,aB 48,aB 64,aB 96,aB 128,aB 192,aB 256,aB 384]
theorem afd(w:aK):Calls prog 336 #[] w (Val w (.agg ale)):=by
 go_enter func336,ntmps336;go_wp2;exact aT (by simp[results,results336,go_sem]) rfl ⟨rfl,aJ _ _⟩
theorem acK:∀q:Nat,q≤15→∀w,(Instr.index 433 (.agg ale) q).run prog w= .ok (rE q) w
 |0,_,w=>aW
 |1,_,w=>aW
 |2,_,w=>aW
 |3,_,w=>aW
 |4,_,w=>aW
 |5,_,w=>aW
 |6,_,w=>aW
 |7,_,w=>aW
 |8,_,w=>aW
 |9,_,w=>aW
 |10,_,w=>aW
 |11,_,w=>aW
 |12,_,w=>aW
 |13,_,w=>aW
 |14,_,w=>aW
 |15,_,w=>aW
 |q+16,h,_=>aj
theorem UH(h:qp≤15)(w:aK):Calls prog 319 #[qp] w (Val w (eP #[(rE qp),iI])):=by
 have Z:=ay (afd w);have X:=acK qp h;go_enter func319,ntmps319;go_wp2_with(go_at_call 336;refine Z.aQ ?_;rintro W Y);go_ret2;exact⟨rfl,Y⟩
theorem ahd{v:Int}(h:qp≤15)(V: -16777216≤v∧v≤16777216)(w:aK):Calls prog 320 #[v,qp] w (Val w (eP #[(Ec qp v),iI])):=by
 have Y:=ay (UH h w);have U:=Iu qp;unfold Ec;generalize rE qp=s at*
 by_cases X:v<0
 ·rw[aF X]
  go_enter func320,ntmps320;go_wp2_with(go_at_call 319;refine Y.aQ ?_;rintro W Z);go_ret2;refine⟨?_,Z⟩;have T:=kJ (a:=s/2-v) (b:=s) aj aj;have S:=uK (a:=s/2-v) s aj;simp;exact U3 _ aj
 ·rw[au X]
  go_enter func320,ntmps320;go_wp2_with(go_at_call 319;refine Y.aQ ?_;rintro W Z);go_ret2;refine⟨?_,Z⟩;simp
theorem afe(h:qp≤15)(t:n≤100000)(K:Bd (-16777216) 16777216 l)(w:aK)(J:Ls w A n l):Calls prog 300 #[aG A n c,qp] w (aaK w n (GX n qp l)):=by
 obtain⟨H,I,G,F⟩:=jH (UH h w) J (dO K aj aj) (show(GX n qp l)=n from fB _ _);go_enter func300,ntmps300;go_wp2_with(go_at_call 319;refine H.aQ ?_;rintro S R);have Y:=ay R
 go_loopg [8,10,11,12,23] n (fun k E z v u D wr=>∃(j c:Nat) (L:dK),j+k=n∧D=j∧E=aG L j c∧Own wr S L j c ((GX n qp l).take j)∧aP S wr)
 case atStart=>exact⟨0,0,none,aj,rfl,rfl,Own.nil _ _ _,aU _ _⟩
 case round=>
  obtain⟨j,s,L,r,rfl,rfl,own,Z⟩:=hrel;have W:=Y.trans (Z.mono Y.size)
  by_cases V:j<n
  ·obtain⟨b2,q,rfl,p⟩:=(I.keep W).at_ V
   have M:(j:Int)<(n:Int):=aj
   obtain⟨Q,C⟩:=aV (show(GX n qp l).take (j+1)=_ from y7 _ V) (ahd h (G.out j) wr);generalize Ec qp (l.getD j 0)=y at*;generalize l.getD j 0=x at*;have N:=Z.size
   go_wp2_with(first
    |(go_at_call 320;refine C.aQ ?_;rintro o X;have U:=own.keep X;have P:=dD N X.size)
    |(at_builtin;refine app1 rfl _ _ rfl rfl (U.alloc _) rfl (lV _ _) aj jy ?_;intro m i g T O))
   go_roundg(gk-1)
   case measure=>omega
   case rel=>exact⟨j+1,_,_,aj,fA,rfl,by rw[Q.out];exact T,((Z.trans (X.mono N)).trans ((aJ _ _).mono P)).trans O⟩
  ·obtain rfl:j=n:=aj
   have B:=ay (own.full F);go_wp2;go_ret2;exact⟨_,_,rfl,B.lower Y.size,W⟩
theorem ahe{l s:Int}(h1: -16320≤l∧l≤16320)(h2:1≤s∧s≤384): -6266880≤l*s∧l*s≤6266880:=by
 have Z:=mM h1.1 (aj:0≤s);have Y:=mM h1.2 (aj:0≤s);omega
theorem ahf{v:Int}(h:qp≤15)(Z: -16320≤v∧v≤16320)(w:aK):Calls prog 340 #[v,qp] w (Val w (eP #[aB (v*rE qp),iI])):=by
 have Y:=ay (UH h w);have W:=ahe Z (Iu qp);generalize rE qp=s at*;go_enter func340,ntmps340;go_wp2_with(go_at_call 319;refine Y.aQ ?_;rintro V X);go_ret2;refine⟨?_,X⟩;simp
theorem aff(h:qp≤15)(t:n≤100000)(K:Bd (-16320) 16320 l)(w:aK)(J:Ls w A n l):Calls prog 333 #[aG A n c,qp] w (aaK w n (BM n qp l)):=by
 obtain⟨H,I,G,F⟩:=jH (UH h w) J (dO K aj aj) (show(BM n qp l)=n from fB _ _);go_enter func333,ntmps333;go_wp2_with(go_at_call 319;refine H.aQ ?_;rintro S R);have Y:=ay R
 go_loopg [8,10,11,12,23] n (fun k E z v u D wr=>∃(j c:Nat) (L:dK),j+k=n∧D=j∧E=aG L j c∧Own wr S L j c ((BM n qp l).take j)∧aP S wr)
 case atStart=>exact⟨0,0,none,aj,rfl,rfl,Own.nil _ _ _,aU _ _⟩
 case round=>
  obtain⟨j,s,L,r,rfl,rfl,own,Z⟩:=hrel;have W:=Y.trans (Z.mono Y.size)
  by_cases V:j<n
  ·obtain⟨b2,q,rfl,p⟩:=(I.keep W).at_ V
   have M:(j:Int)<(n:Int):=aj
   obtain⟨Q,C⟩:=aV (show(BM n qp l).take (j+1)=_ from y7 _ V) (ahf h (G.out j) wr);generalize l.getD j 0*rE qp=y at*;generalize l.getD j 0=x at*;have N:=Z.size
   go_wp2_with(first
    |(go_at_call 340;refine C.aQ ?_;rintro o X;have U:=own.keep X;have P:=dD N X.size)
    |(at_builtin;refine app1 rfl _ _ rfl rfl (U.alloc _) rfl (lV _ _) aj jy ?_;intro m i g T O))
   go_roundg(gk-1)
   case measure=>omega
   case rel=>exact⟨j+1,_,_,aj,fA,rfl,by rw[Q.out];exact T,((Z.trans (X.mono N)).trans ((aJ _ _).mono P)).trans O⟩
  ·obtain rfl:j=n:=aj
   have B:=ay (own.full F);go_wp2;go_ret2;exact⟨_,_,rfl,B.lower Y.size,W⟩
def xY(K qp:Nat)(b p:aO):aO:=GX (2^K) qp (nR (2^K) (GR (2^K) b p) K)
def J5(K qp:Nat)(l:aO):aO:=RF (2^K) K (BM (2^K) qp l)
def GY(K qp:Nat)(p l:aO):aO:=jK (2^K) fun i=>So.clip (p.getD i 0+(J5 K qp l).getD i 0)
theorem K46(h:K=4∨K=6):(2^K:Nat)≤64∧16≤(2^K:Nat):=by rcases h with rfl|rfl<;>decide
theorem ahg{a:aO}(Z:Bd 0 255 a)(Y:Bd 0 255 b):Bd (-255) 255 (GR n a b):=lK fun i _=>by
 have:=dO Z aj aj i;have:=dO Y aj aj i;omega
theorem Zi{M:Int}(Z:K=4∨K=6)(h0:0≤M)(h:Bd (-M) M l):Bd (-(64*M)) (64*M) (nR (2^K) l K):=fun v Y=>by
 have:=Gm (n:=2^K) h0 h K v Y;rcases Z with rfl|rfl<;>simp at this<;>omega
theorem ahh{v:Int}(h: -16320≤v∧v≤16320): -16320≤Ec qp v∧Ec qp v≤16320:=by
 have X:=Iu qp;unfold Ec;generalize rE qp=s at*;split
 ·have Z:=kJ (a:=s/2-v) (b:=s) aj aj
  have Y:(s/2-v)/s<16321:=Int.ediv_lt_of_lt_mul aj aj;omega
 ·have Z:=kJ (a:=v+s/2) (b:=s) aj aj
  have Y:(v+s/2)/s<16321:=Int.ediv_lt_of_lt_mul aj aj;omega
theorem UJ(Z:K=4∨K=6)(Y:Bd 0 255 b)(X:Bd 0 255 p):Bd (-16320) 16320 (xY K qp b p):=
 lK fun i _=>ahh (dO (Zi Z aj (ahg Y X)) aj aj i)
theorem ad9{P:dK}(U:K=4∨K=6)(L:qp≤15)(O:Bd 0 255 b)(N:Bd 0 255 p)(w:aK)(J:Ls w B (2^K) b)(I:Ls w P (2^K) p):
  Calls prog 283 #[aG B (2^K:Nat) c,aG P (2^K:Nat) d,qp] w (Ve w (2^K) (xY K qp b p)):=by
 have A:=K46 U;have W:=ahg (n:=2^K) O N;obtain⟨H,G,F⟩:=dB (ajC (c:=c) (d:=d) aj (fun v Y=>by have:=O v Y;omega) (fun v Y=>by have:=N v Y;omega) w J I) (fun X T S (R:Ls X T (2^K) (GR (2^K) b p))=>acH (c:=S) U (fun v Y=>by have:=W v Y;omega) X R) (fun X T S (R:Ls X T (2^K) (nR (2^K) (GR (2^K) b p) K))=>afe (c:=S) L aj (fun v Y=>by have:=Zi (M:=255) U aj W v Y;omega) X R);unfold xY;generalize 2^K=n at*;go_enter func283,ntmps283;go_wp2_with fail;refine H.mono ?_;rintro e z ⟨y,x,rfl,E,V⟩;go_wp2_with fail;refine(G _ _ _ E.ls).mono ?_;rintro e u ⟨t,s,rfl,D,Z⟩;have Z:=V.trans (Z.mono V.size);go_wp2_with fail;refine(F _ _ _ D.ls).mono ?_;rintro e r ⟨q,o,rfl,C,Q⟩;go_wp2;go_ret;exact⟨_,_,rfl,C.lower Z.size,Z.trans (Q.mono Z.size)⟩
theorem Yj(h:Bd (-16320) 16320 l):Bd (-6266880) 6266880 (BM n qp l):=lK fun i _=>ahe (dO h aj aj i) (Iu qp)
theorem ajH(Z:K=4∨K=6)(h:Bd (-16320) 16320 l):Bd (-401080322) 401080322 (J5 K qp l):=lK fun i _=>by
 have:=dO (Zi (M:=6266880) Z aj (Yj (n:=2^K) (qp:=qp) h)) aj aj i;rcases Z with rfl|rfl
 ·simp at this ⊢;omega
 ·simp at this ⊢;omega
theorem ajI(V:K=4∨K=6)(T:qp≤15)(Y:Bd (-16320) 16320 l)(w:aK)(S:Ls w L (2^K) l):
  Calls prog 316 #[aG L (2^K:Nat) c,qp] w (Ve w (2^K) (J5 K qp l)):=by
 have I:=K46 V;have X:=Yj (n:=2^K) (qp:=qp) Y;obtain⟨R,Q⟩:=aV (aff (c:=c) T aj Y w S) (fun U P O (Y:Ls U P (2^K) (BM (2^K) qp l))=>acI (c:=O) V (fun v N=>by have:=X v N;omega) U Y);unfold J5;generalize H:2^K=n at*;go_enter func316,ntmps316;go_wp2_with fail;refine R.mono ?_;rintro e G ⟨F,E,rfl,M,Z⟩;go_wp2_with fail;refine(Q _ _ _ M.ls).mono ?_;rintro e D ⟨C,B,rfl,J,W⟩;go_wp2;go_ret;exact⟨_,_,rfl,J.lower Z.size,Z.trans (W.mono Z.size)⟩
theorem ahi{P:dK}(D:K=4∨K=6)(Q:qp≤15)(u:Bd 0 255 p)(C:Bd (-16320) 16320 l)(w:aK)(t:Ls w P (2^K) p)(s:Ls w L (2^K) l):
  Calls prog 294 #[aG P (2^K:Nat) c,aG L (2^K:Nat) d,qp] w (Ve w (2^K) (GY K qp p l)):=by
 have hn:=K46 D;obtain⟨f,b,a⟩:=dB (dO u aj aj) (dO (ajH (qp:=qp) D C) aj aj) (fun B (hw:aP w B)=>ajI (c:=d) D Q C B (s.keep hw));unfold GY;generalize J5 K qp l=R at*;generalize 2^K=n at*;obtain⟨F,A⟩:∃F:Nat→Int,(fun i=>So.clip (p.getD i 0+R.getD i 0))=F:=⟨_,rfl⟩;rw[A];change Hid _ at t A;clear s u C;go_enter func294,ntmps294;go_wp2_with(at_make;refine aaL rfl _ _ rfl rfl rfl rfl aj ?_;intro w1 X T);refine(a _ T).mono ?_;rintro e w2 ⟨r,c2,rfl,G,S⟩;have H:=X.keep S;have Z:=T.trans (S.mono T.size);have o:=ay G.ls;have qa:w.heap.size<w1:=by obtain⟨g,E,_,Y,_⟩:=X.form aj;injection E with E;injection E with E;omega
 have z:=ay (fun q (Q:r=some q)=>(G.row.lt q.block (by subst Q;rfl)).1);change Hid _ at Z;clear S G X;go_wp2
 go_loopg [8,9,17] n (fun k v8 v9 vi wr=>∃j:Nat,j+k=n∧vi=j∧Own wr w w n n (rV n F (fun _=>0) j)∧bQ (fun i=>i=w) w2 wr)
 case atStart=>exact⟨0,aj,rfl,by rw[Dv];exact H,bQ.refl _ _⟩
 case round=>
  obtain⟨j,hj,rfl,own,V⟩:=hrel
  by_cases Y:j<n
  ·have m:(j:Int)<(n:Int):=aj
   have O:=Z.trans (V.below Z.size (fun i hi=>aj));have N:Ls wr r n R:=⟨o.len,o.rd.dH V (fun q Q=>by have:=z.out q Q;omega)⟩;obtain⟨b2,G,rfl,k2⟩:=(t.keep O).at_ Y;obtain⟨b3,o3,rfl,k3⟩:=N.at_ Y;obtain⟨g',M,_,h,W,U⟩:=own.form aj;obtain rfl:w=g':=by injection M with e;injection e
   have f1:=U j;have k4:=W j Y;rw[GU _ _ Y (bC j)]at k4;have J:=ay (Dx F (fun _=>0) Y);have I:=congrFun A j;have v1:=f.out j;have v2:=b.out j;generalize p.getD j 0=x at*;generalize R.getD j 0=y at*;have e1:IntKind.i64.wrap (x+y)=x+y:=iE _ aj;rw[←I]at J;obtain⟨HO,v⟩:=aV (own.store j (So.clip (x+y))) (V.setCell (p:=(aH w j)) (fun _=>rfl) (So.clip (x+y)));clear I own W U M O N;go_wp2_with(go_at_call 208;refine(MV _ _).aQ ?_;rintro B rfl);go_roundg(gk-1)
   case measure=>omega
   case rel=>exact⟨j+1,aj,fA,by rw[J.out];exact HO,v⟩
  ·obtain rfl:j=n:=aj
   rw[E8]at own;change Hid _ at own;go_wp2;go_ret;exact⟨_,_,rfl,own,Z.trans (V.below Z.size (fun i hi=>aj))⟩
theorem Ja(h:Bd 0 255 p)(x y:Int):0≤Gt W p x y∧Gt W p x y≤255:=by
 unfold Gt;split
 ·omega
 ·exact dO h aj aj _
theorem ahj{t:aO}{c:Int}(Y:n=4∨n=8)(ht:Bd 0 255 t)(X:Bd 0 255 l)(i:Nat):0≤IL mode n t l c i∧IL mode n t l c i≤255:=by
 have Z:=dO ht aj aj;have b2:=dO X aj aj;have W:=oI (f:=Bj t l) (a:=0) (b:=510) (j:=n) fun i _=>by have:=Z i;have:=b2 i;unfold Bj;omega
 unfold IL;split
 ·rcases Y with rfl|rfl<;>simp at W ⊢<;>omega
 ·split
  ·exact Z _
  ·split
   ·exact b2 _
   ·unfold So.clip;omega
theorem Nh{t:aO}{c:Int}(Z:n=4∨n=8)(ht:Bd 0 255 t)(Y:Bd 0 255 l):Bd 0 255 (vZ mode n t l c):=lK fun i _=>ahj Z ht Y i
theorem Vw{T:dK}{t:aO}{k:Int}(Y:0≤mode∧mode≤3)(w:aK)(h:Eds w n T L t l k):
  Calls prog 308 #[mode,aG T n c,aG L n d,k] w (aaK w (n*n) (vZ mode n t l k)):=by
 obtain⟨V,U⟩:=aV (Yf (c:=c) (d:=d) w h) (fun W (S:aP w W)=>Qm (c:=c) (d:=d) Y W (h.keep S));go_enter func308,ntmps308;go_wp2_with fail;refine V.aQ ?_;rintro R Z;go_wp2_with fail;refine(U _ Z).mono ?_;rintro e Q ⟨B,b,rfl,own,X⟩;go_wp2;go_ret2;exact⟨_,_,rfl,own.lower Z.size,Z.trans (X.mono Z.size)⟩
def ny(n:Nat)(b t l:aO)(c:Int):Nat→Int × Int
 |0=>(0,-1)
 |m+1=>
  let s:=vN (n*n) b (vZ m n t l c)
  let p:=ny n b t l c m
  if p.2<0∨s<p.2 then(m,s)else p
theorem acL{a:aO}(Z:Bd 0 255 a)(Y:Bd 0 255 b):0≤vN n a b∧vN n a b≤n*255:=by
 have X:=dO Z aj aj;have b2:=dO Y aj aj;have W:=oI (f:=yM a b) (a:=0) (b:=255) (j:=n) fun i _=>by have:=X i;have:=b2 i;unfold yM;omega
 unfold vN;omega
theorem ajJ{e:Nat}{T:dK}{t:aO}{k:Int}(w:aK)(h:Eds w n T L t l k)(P:Ls w B (n*n) b)(Q:Bd 0 255 b):
  Calls prog 307 #[aG B (n*n:Nat) e,aG T n c,aG L n d,k] w (Val w (eP #[aB (ny n b t l k 4).1,aB (ny n b t l k 4).2,iI])):=by
 have H:4≤n∧n≤8:=by have:=h.n48;omega
 obtain⟨N,U⟩:∃N,n*n=N:=⟨_,rfl⟩;have qa:n≤N∧N≤64:=by rw[←U];exact⟨lJ n aj,fC H.2 H.2⟩
 have qe:(n:Int)*n=(N:Int):=by rw[←U];simp
 have e3:IntKind.i64.wrap (N:Int)=(N:Int):=iE _ aj;obtain⟨D,C,A,z,r,q⟩:=MP (Yf (c:=c) (d:=d) w h) (fun W (R:aP w W)=>KU (c:=e) (n:=N) aj Q W (by rw[←U];exact P.keep R)) (fun W (R:aP w W) m (G:0≤m∧m≤3)=>Qm (c:=c) (d:=d) (mode:=m) G W (h.keep R)) (fun W y x m (R:aP w W) (u:Ls W y N (vZ m n t l k))=>Ze (n:=N) (c:=e) (d:=x) aj (fun v O=>by have:=Q v O;omega) (fun v O=>by have:=Nh h.n48 h.bt h.bl v O;omega) W (by rw[←U];exact P.keep R) u) (fun m=>acL (n:=N) Q (Nh (c:=k) (mode:=m) h.n48 h.bt h.bl)) (fun m:Nat=>show ny n b t l k (m+1)=if(ny n b t l k m).2<0∨vN N b (vZ m n t l k)<(ny n b t l k m).2 then((m:Int),vN N b (vZ m n t l k))else ny n b t l k m by rw[←U];rfl);rw[U]at*;clear h P Q U;go_enter func307,ntmps307;go_wp2_with fail;refine D.aQ ?_;rintro w1 S;go_wp2_with fail;refine(C _ S).aQ ?_;rintro w2 M;have K:=ay (S.trans (M.mono S.size));go_wp2
 go_loopg [12,13,14,15,16,40] (4:Nat) (fun o j i qf qg qh g wr=>∃m:Nat,m+o=4∧g=m∧j= aB (ny n b t l k m).1∧i= aB (ny n b t l k m).2∧aP w wr)
 case atStart=>exact⟨0,aj,rfl,rfl,rfl,K⟩
 case round=>
  obtain⟨m,G,rfl,rfl,rfl,Z⟩:=hrel;have f:=Z.size
  by_cases qi:m<4
  ·have E:(m:Int)<4:=aj
   have V:=ay (q m);have v1:=r m;go_wp2_with fail;refine(A _ Z m aj).mono ?_;rintro e w3 ⟨A3,c3,rfl,own,Y⟩;have Y:=Z.trans (Y.mono f);have J:=Y.size;go_wp2_with fail;refine(z _ _ _ _ Y own.ls).aQ ?_;rintro w4 X;have X:=Y.trans (X.mono J);generalize vN N b (vZ m n t l k)=s at*;generalize ny n b t l k m=p at*;obtain⟨p1,F⟩:=p;simp only at V ⊢
   by_cases a:F<0
   ·go_wp2
    go_roundg(gk-1)
    case measure=>omega
    case rel=>refine⟨m+1,aj,fA,?_,?_,X⟩<;>rw[V.out,aF (.inl a)]
   ·by_cases I:s<F
    ·go_wp2
     go_roundg(gk-1)
     case measure=>omega
     case rel=>refine⟨m+1,aj,fA,?_,?_,X⟩<;>rw[V.out,aF (.inr I)]
    ·go_wp2
     go_roundg(gk-1)
     case measure=>omega
     case rel=>refine⟨m+1,aj,fA,?_,?_,X⟩<;>rw[V.out,au aj]
  ·obtain rfl:m=4:=aj
   go_wp2;go_ret3;exact⟨rfl,Z⟩
def dF(n:Nat):List Nat:=(uh n).map Int.toNat
theorem KZ(h:n=4∨n=8):(dF n).Perm (List.range (n*n)):=by
 have Z:(dF 4).isPerm (List.range 16)=true:=by decide+kernel
 have Y:(dF 8).isPerm (List.range 64)=true:=by decide+kernel
 rcases h with rfl|rfl
 ·exact List.isPerm_iff.1 Z
 ·exact List.isPerm_iff.1 Y
theorem Zm(h:n=4∨n=8):uh n=(dF n).map Int.ofNat:=by
 have Z:uh 4=(dF 4).map Int.ofNat:=by decide+kernel
 have Y:uh 8=(dF 8).map Int.ofNat:=by decide+kernel
 rcases h with rfl|rfl
 ·exact Z
 ·exact Y
theorem uz(h:n=4∨n=8):(dF n)=n*n:=by rw[(KZ h).length_eq,jG]
theorem VA(h:n=4∨n=8)(hi:i<n*n):(dF n).getD i 0<n*n:=by
 have Z:i<(dF n):=by rw[uz h];exact hi
 rw[dG,fP Z];exact yH.1 ((KZ h).mem_iff.1 (lS Z))
theorem VB(h:n=4∨n=8):(uh n).getD i 0=((dF n).getD i 0:Nat):=by
 rw[Zm h,dG,dG,gX];cases(dF n)[i]? <;>rfl
theorem Qr(h:n=4∨n=8)(hi:i<n*n):(dF n).drop i=(dF n).getD i 0::(dF n).drop (i+1):=by
 have Z:i<(dF n):=by rw[uz h];exact hi
 rw[dG,fP Z];exact lY Z
def FX(l:aO)(j:Nat):Nat:=jS l (List.range j)
theorem TD(l:aO)(a b:List Nat):jS l (a++b)=jS l a+jS l b:=by
 unfold jS;rw[List.filter_append,mG]
theorem TF(l:aO)(a:Nat):jS l [a]=if l.getD a 0≠0 then 1 else 0:=by
 unfold jS
 by_cases h:l.getD a 0≠0
 ·grind
 ·grind
theorem TG(l:aO)(j:Nat):FX l (j+1)=if l.getD j 0≠0 then FX l j+1 else FX l j:=by
 unfold FX;rw[jk,TD,TF];split<;>rfl
theorem Yk(l:aO)(j:Nat):FX l j≤j:=by
 exact dD (List.length_filter_le _ _) (by rw[jG];exact bC _)
theorem Pz(h:n=4∨n=8):FX l (n*n)=jS l (dF n):=by
 exact((KZ h).filter _).length_eq.symm
theorem Qs(l:aO)(a:Nat)(o:List Nat):jS l (a::o)=if l.getD a 0≠0 then jS l o+1 else jS l o:=by
 rw[show a::o=[a]++o from rfl,TD,TF];split<;>omega
theorem VD(l:aO)(o:List Nat):jS l o≤o:=List.length_filter_le _ _
theorem Ko(h:n=4∨n=8)(Y:l=n*n):jS l (dF n)=0↔∀v∈l,v=0:=by
 rw[←Pz h];unfold FX jS;rw[rZ,List.filter_eq_nil_iff];constructor
 ·intro k v X
  obtain⟨i,Z,rfl⟩:=List.getElem_of_mem X;have:=k i (yH.2 aj);rw[dG,fP Z]at this;simpa using this
 ·intro k i Z
  rw[yH,←Y]at Z;rw[dG,fP Z];simpa using k _ (lS Z)
end Go.Proofs.YtiaeohgghaaciaaGreatDoor
