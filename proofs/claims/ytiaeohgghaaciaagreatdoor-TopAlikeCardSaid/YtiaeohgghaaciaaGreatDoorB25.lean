import Derived.Lib.SlBytesConst
import Derived.StillTail
import Derived.Test.YtiaeohgghaaciaaGreatDoorB24
namespace Go.Proofs.YtiaeohgghaaciaaGreatDoor
open Go Go.Maps Go.RowKit Go.Extern.Stop Go.Stop Go.Extern Go.Proofs.Tryz
set_option linter.all false
set_option maxRecDepth 100000
set_option maxHeartbeats 4000000
variable{a:Act}{cs:Array Value}{Q:Exit→Act→World→Prop}{b l src:List Int}{rest:List Oper}{N W base c d g i j m n q:Nat}{S T:Nat→Prop}{o:Oper}{A B:Option Addr}{t:TypeId}{u w w' w0 w1:World}
structure nX(X:bI)(s:oK)(N:Nat):Prop where
 ok:oV X s
 fit:aZ s.d N
 fm:∀f,s.f=some f→f.made.length≤N∧f.tasks.length≤64
theorem nX.mono{X:bI}{s:oK}{N M:Nat}(h:nX X s N)(Z:N≤M):nX X s M:=⟨h.ok,h.fit.mono Z,fun f Y=>⟨dD (h.fm f Y).1 Z,(h.fm f Y).2⟩⟩
theorem nX.bd{X:bI}{d:aI}{f:bZ}(h:nX X ⟨d,some f⟩ N):kH X d f f.tasks N:=⟨h.ok,h.fit,(h.fm f rfl).1,rfl⟩
theorem kH.sb{X:bI}{d:aI}{f:bZ}(h:kH X d f W N)(Y:W≤64):nX X ⟨d,some f⟩ N:=⟨h.ok,h.fit,fun g Z=>by injection Z with Z;subst Z;exact⟨h.made,by rw[h.tasks];exact Y⟩⟩
theorem nX.lt{X:bI}{s:oK}{N:Nat}(h:nX X s N)(Z:X.ok):fZ s.d:=by obtain⟨ρ,Y⟩:=h.ok.d;exact Y.lt Z
theorem Oa(W n:Nat):(vC W n)=W*n:=by
 induction n with
 |zero=>rfl
 |succ n Z=>rw[MH,mG,Z,Nat.mul_succ];unfold II;rw[fJ,jG];omega
def vV(k n:Int):Nat:=if k=6∧0≤n∧n≤1000 then 128*n.toNat else 100
theorem nX.started{X:bI}{d:aI}{o:Option bZ}{N W:Nat}{l:List Nat}(V:X.ok)(h:nX X ⟨d,o⟩ N)(U:d.down=false)(T:∀x∈l,x<36)(S:l.length≤36)(R:W≤64):
  nX X ⟨(dR X d l).1,if(dR X d l).2.2.2=0 then some ⟨(dR X d l).2.1,List.replicate W aX.zero,[],false⟩else none⟩ (N+40):=by
 obtain⟨Q,P⟩:=h.ok.started V U l W;have Z:=aZ.open_ V h.fit (d:=d) T S
 by_cases Y:(dR X d l).2.2.2=0
 ·rw[aF Y]
  exact⟨P Y,Z,fun f Z=>by injection Z with Z;subst Z;exact⟨bK,by simpa using R⟩⟩
 ·rw[au Y]
  exact⟨Q,Z,fun f Z=>by cases Z⟩
section
variable{w w':aK}{I:MG}{S:Nat→Prop}{s:oK}{N pn pc:Nat}{PA:dK}{pl:aO}
theorem akX{n:Int}(Y:n<0∨1000<n)(h:IG w I S s):Calls prog 26 #[aY I.sg,n] w fun e w'=>e=bM (eV 3)∧EP w I S s w':=by
 have Z:=ay h
 by_cases X:n<0
 ·clear Y
  go_enter func26,ntmps26;go_wp2;go_ret;exact⟨rfl,EP.same Z (aU _ _)⟩
 ·have W:1000<n:=aj
  go_enter func26,ntmps26;go_wp2;go_ret;exact⟨rfl,EP.same Z (aU _ _)⟩
theorem akY(U:n≤1000)(Y:s.f=none)(h:IG w I S s):Calls prog 26 #[aY I.sg,n] w fun e w'=>e=bM (eV 12)∧EP w I S s w':=by
 have X:=ay h;obtain⟨T,W,Z⟩:=h;obtain⟨-,-,-,-,-,-,-,-,-,-,-,V⟩:=wM W;rw[Y]at Z;obtain⟨rfl,-⟩:=Z;go_enter func26,ntmps26;go_wp2;go_ret;exact⟨rfl,EP.same X (aU _ _)⟩
def DoQ(w:aK)(I:MG)(S:Nat→Prop)(N:Nat)(e:Ending)(w':aK):Prop:=∃Z v,e=bM v∧nX I.X Z N∧EP w I S Z w'
theorem DoQ.of{M:Nat}{e:Ending}(Z:aP w w1)(Y:M≤N)(h:DoQ w1 I S M e w'):DoQ w I S N e w':=by
 obtain⟨X,v,W,V,U⟩:=h;exact⟨X,v,W,V.mono Y,EP.from Z U⟩
theorem agB{n:Int}(H:I.X.ok)(T:Gl w)(U:nX I.X s N)(K:N≤700000)(R:I.n≤100000000)(h:IG w I S s):Calls prog 23 #[aY I.sg,n] w (DoQ w I S (N+40)):=by
 have Z:∀{k:Int} {e w'},e=bM (eV k)∧EP w I S s w'→DoQ w I S (N+40) e w':=fun k=>⟨s,_,k.1,U.mono aj,k.2⟩
 by_cases G:n<0∨64<n
 ·exact(akV G h).mono fun e w' k=>Z k
 obtain⟨m,rfl⟩:∃m:Nat,n=m:=⟨n.toNat,aj⟩;have P:m≤64:=aj
 have O:1≤I.W∧I.W≤64:=by obtain⟨_,F,-⟩:=h;exact F.W
 cases V:s.f with
 |some f=>exact(akW P V h).mono fun e w' k=>Z k
 |none=>
  obtain⟨ρ,J⟩:=U.ok.d;have M:s=⟨s.d,none⟩:=by rw[←V]
  have L:nX I.X ⟨s.d,none⟩ N:=by rw[←M];exact U
  have Q:∀{W:Nat} {e w'},W≤64→s.d.down=false→ab6 w I S W s.d e w'→DoQ w I S (N+40) e w':=fun E Y k=>by
   obtain⟨l,y,D,C,v,p,B,-,-,A⟩:=k;exact⟨_,v,B,L.started H Y D C E,A⟩
  by_cases z:m=0
  ·subst z
   cases Y:s.d.down with
   |true=>exact(ai4 V Y h).mono fun e w' k=>Z k
   |false=>exact(WZ V Y J U.fit K R T h).mono fun e w' k=>Q O.2 Y k
  ·cases Y:s.d.down with
   |true=>exact(ai5 ⟨aj,P⟩ V Y h).mono fun e w' k=>Z k
   |false=>exact(ai6 ⟨aj,P⟩ V Y J U.fit K R T h).mono fun e w' k=>Q P Y k
theorem agC{n:Int}(U:I.X.ok)(W:I.X.Si)(V:Gl w)(Y:nX I.X s N)(Q:N+vV 6 n≤700000)(h:IG w I S s):Calls prog 26 #[aY I.sg,n] w (DoQ w I S (N+vV 6 n)):=by
 by_cases P:n<0∨1000<n
 ·exact(akX P h).mono fun e w' k=>⟨s,_,k.1,Y.mono aj,k.2⟩
 obtain⟨m,rfl⟩:∃m:Nat,n=m:=⟨n.toNat,aj⟩;have T:m≤1000:=aj
 have O:vV 6 (m:Int)=128*m:=by unfold vV;rw[aF ⟨rfl,aj,aj⟩];rfl
 rw[O]at Q ⊢;obtain⟨d,o⟩:=s;cases o with
 |none=>exact(akY T rfl h).mono fun e w' k=>⟨_,_,k.1,Y.mono aj,k.2⟩
 |some f=>
  have Z:=(Y.fm f rfl).2;have K:f.tasks*m≤64*m:=uH m Z;refine(ab8 T V U W Y.bd Z aj h).mono ?_;rintro e w' ⟨v,p,M,J,L⟩;have R:=Y.bd.picks U W (vC f.tasks m);rw[Oa]at R;exact⟨_,v,M,(R.sb Z).mono aj,L⟩
theorem amh{k n:Int}(L:I.X.ok)(O:I.X.Si)(T:Gl w)(y:n≤9223372036854775807)(G:∀v∈pl,-9223372036854775808≤v∧v≤9223372036854775807)(x:Ls w PA pn pl)(F:0<pn→∀i,In PA i→¬S i)(Z:nX I.X s N)(V:N+vV k n≤700000)(E:I.n≤100000000)(h:IG w I S s):
  Calls prog 9 #[aY I.sg,.agg (X8 k n PA pn pc)] w (DoQ w I S (N+vV k n)):=by
 have K:=lt_of_cell T;have R:k≠6→vV k n=100:=fun e=>au (fun h=>e h.1)
 obtain⟨d,o⟩:=s
 by_cases D:k=1
 ·subst D
  rw[R bn]at V ⊢;cases o with
  |none=>exact(alo rfl h).mono fun e w' k=>⟨_,_,k.1,Z.mono aj,k.2⟩
  |some f=>
   have M:=(Z.fm f rfl).2;refine(anp K Z.bd M aj h).mono ?_;rintro e w' ⟨v,p,J,P,u⟩;exact⟨_,v,J,((Z.bd.pick L O n).sb M).mono aj,u⟩
 by_cases C:k=2
 ·subst C
  rw[R bn]at V ⊢;refine(aoC (n:=n) (Z.lt L) Z.fit aj G x F K h).aQ ?_;rintro w' ⟨t,J,P⟩;exact⟨_,_,rfl,(⟨Z.ok.crash J,Z.fit.crash J,fun f r=>by cases r⟩:nX I.X ⟨t,none⟩ N).mono aj,P⟩
 by_cases B:k=3
 ·subst B
  rw[R bn]at V ⊢;refine(amg (Q:=fun Y=>DoQ Y I S (N+40)) (fun Y W=>agB L (T.keep W) Z aj E (h.keep W)) (fun Y e w' U=>by obtain⟨q,v,e,-⟩:=U;exact⟨v,e⟩) h).mono ?_;rintro e w' ⟨Y,W,U⟩;exact DoQ.of W aj U
 by_cases A:k=4
 ·subst A
  rw[R bn]at V ⊢;refine(aoA y K h).aQ ?_;rintro w' P;exact⟨_,_,rfl,(⟨Z.ok.arm n,Z.fit.arm n,Z.fm⟩:nX I.X ⟨d.arm n,o⟩ N).mono aj,P⟩
 by_cases z:k=5
 ·subst z
  rw[R bn]at V ⊢;refine(aoB (n:=n) Z.fit K h).aQ ?_;rintro w' P;exact⟨_,_,rfl,(⟨Z.ok.grow n,Z.fit.grow n,Z.fm⟩:nX I.X ⟨(d.grow n).1,o⟩ N).mono aj,P⟩
 by_cases H:k=6
 ·subst H
  refine(ano (Q:=fun Y=>DoQ Y I S (N+vV 6 n)) (fun Y W=>agC L O (T.keep W) Z V (h.keep W)) (fun Y e w' U=>by obtain⟨q,v,e,-⟩:=U;exact⟨v,e⟩) h).mono ?_;rintro e w' ⟨Y,W,U⟩;exact DoQ.of W (bC _) U
 rw[R H]at V ⊢;exact(aoz D C B A z H h).mono fun e w' k=>⟨_,_,k.1,Z.mono aj,k.2⟩
end
theorem agH{P:Program}(w:aK)(t M C e:TypeId)(i:TypeInfo)(z:cO)(k y:IntKind)(ht:P.underlying t=some (.slice e))(K:P.underlying M=some (.int y))(hi:P.info? e=some i)(x:i.zero=some z)
  (Z:i.size=1) (J:i.bytes=1) (V:z.cells.size=1) (g n cap:Nat) (W:List cO) (Y:W=n) (X:∀j u,W[j]? =some u→w.cell? (((aH g 0):Addr).add j)=some u)
  (r:n≤cap) (m:Nat) (q:n+m≤1000000000) (p:cap<n+m):
  ∃B L,(Builtin.append_ #[t,M] C #[aG g n cap,.int k m]).run P w= .ok (aG w (n+m) B) L∧
   L.ownsRow w e 1 (aG w (n+m) B) (n+m) (W++List.replicate m (z.cells[0]!))∧aP w L:=by
 have v:IntKind.i64.wrap (m:Int)=m:=by rw[IntKind.wrap_i64];omega
 have T:¬((m:Int)<0):=aj
 have S:¬(281474976710656<(m:Int)):=aj
 have I:=Wu z m V;have H:=nM ht;have G:=nM K;have R:(W++List.replicate m (z.cells[0]!)).length=n+m:=by rw[mG,Y,gJ]
 have F:=grownCap_ge w (n+m) cap e;have Q:=grownCap_le_maxLen w (n+m) cap e (by unfold maxLen;omega)
 have s:(Builtin.append_ #[t,M] C #[aG g n cap,.int k m]).run P w= .ok (aG w (n+m) (grownCap w (n+m) cap e)) (w.drew.alloc (aS (W.toArray++Builtin.zeroCells z.cells m++Builtin.zeroCells z.cells (grownCap w (n+m) cap e-(n+m))) e)):=by
  have E:¬(n+m≤cap):=aj
  have O:¬(9223372036854775807<((n:Int)+(m:Int))):=aj
  have A:=growslice_fits (need:=n+m) (old:=cap) (bytes:=1) aj aj;have N:¬(281474976710656<Builtin.nextslicecap (n+m) cap):=aj
  have D:¬m=0:=aj
  have U:=run_firstCells_some (P:=P) w.drew i.size n (aH g 0) n cap W (by rw[Z];simpa using Y) (by simpa using X);rw[Z]at U;simp[Builtin.append_,H,G,sizeOf,typeInfo,zeroValue,hi,x,asInt,asIntOf,v,T,S,E,O,N,Question.forced,Z,J,U,D,newRow,grownCap]
 refine⟨_,_,s,⟨aj,.inr ⟨w,_,_,rfl,bC _,lV w.drew _,F,Q,?_,?_⟩⟩,?_⟩
 ·simp only[Array.size_append,tY,size_zeroCells,V,Y]
  omega
 ·simp only[Array.toList_append,I]
  rw[lC,←R];exact pJ
 ·exact(aU _ _).drew.alloc (bC _) _
theorem wpZ{W:Array Oper}(T:o.guard=none)(s x:Operand)
  (M:o.op= .call {callee:=.builtin .append,args:=#[s,x],argTypes:=#[24,3]})
 (L:a.eval s=aG g n n) (V:(l.map (Value.int .u8))=n) (Y:∀j u,(l.map (Value.int .u8))[j]? =some u→w.cell? (((aH g 0):Addr).add j)=some u) (hx:a.eval x=m) (S:n+m≤1000000000) (D:0<m)
   (h:∀B cap X,dX PS X w B (n+m) cap (l++List.replicate m 0)→aP w X→wpList prog W Q rest (a.put o.dst (aG B (n+m) cap)) X):
   wpList prog W Q (o::rest) a w:=by
  obtain⟨J,I,R,P,O⟩:=info_parts' PS;refine wpList_plain T fun K H=>?_
  obtain⟨G,X,U,Z,F⟩:=agH w 24 3 o.type 5 J (.int .u8 0) .i64 .i64 underlying24 underlying3 I R P O rfl g n n _ V Y (bC _) m S aj;have N:l=n:=by simpa using V
  have E:=H _ _ (h w G X ⟨by simp[N],(by
   rw[show(Value.int IntKind.u8 0).cells[0]! = .int .u8 0 from rfl]at Z;rw[QD,gG,List.map_replicate];exact Z)⟩ F)
  unfold Oper.wp execOp;simp only[M,resolve,invoke,builtin,mJ,Sem.run_pure,Result.andThen_ok,List.map_toArray,oq,List.map_nil,L,hx,U];exact E
theorem ajd(w:aK)(j:Nat)(u:cO)(h:(([75,83,1,1,1]:aO).map (Value.int .u8))[j]? =some u):(w.alloc (.cells #[.int .u8 75,.int .u8 83,.int .u8 1,.int .u8 1,.int .u8 1] 5 (5,6))).cell? (((aH w 0):Addr).add j)=some u:=by
 rw[Addr.add_lit,dI,World.cell?_alloc_mark,←h];simp[oC]
theorem adR(w:aK):Calls prog 34 #[] w (ag8 w 14 pF):=by
 have X:=aJ w (.cells #[.int .u8 75,.int .u8 83,.int .u8 1,.int .u8 1,.int .u8 1] 5 (5,6));obtain⟨W,V⟩:=aV X (ajd w);have T:=Lib.run_convert_bytes_const w 24 5 #[.int .u8 75,.int .u8 83,.int .u8 1,.int .u8 1,.int .u8 1] 5 5 underlying24 underlying5;go_enter func34,ntmps34;go_wp2_with(first|(at_builtin;refine wpZ (m:=9) (l:=[75,83,1,1,1]) rfl (.tmp 2) _ rfl rfl rfl V rfl aj aj ?_;intro B Z S U Y)|fail);go_ret;exact⟨B,Z,rfl,U.ownB.lower bK,W.trans (Y.mono bK)⟩
theorem agI(M:cs.size=8)(W V U T S R Q P:cO)(Y:bF u g t cs)(N:aP w u)(h2:w≤g):
  ∃X,X=((((((((u.setCell ⟨g,0,none⟩ W).setCell ⟨g,1,none⟩ V).setCell ⟨g,2,none⟩ U).setCell ⟨g,3,none⟩ T).setCell ⟨g,4,none⟩ S).setCell ⟨g,5,none⟩ R).setCell ⟨g,6,none⟩ Q).setCell ⟨g,7,none⟩ P)∧(X.cell? (aH g 0)=some W∧X.cell? (aH g 1)=some V∧X.cell? (aH g 2)=some U∧X.cell? (aH g 3)=some T∧X.cell? (aH g 4)=some S∧X.cell? (aH g 5)=some R∧X.cell? (aH g 6)=some Q∧X.cell? (aH g 7)=some P)∧aP w X:=by
 refine⟨_,rfl,?_⟩;have O:=(((((((((bQ.refl (fun i=>i=g) u).setCell (p:=(aH g 0)) (fun _=>rfl) W).setCell (p:=(aH g 1)) (fun _=>rfl) V).setCell (p:=(aH g 2)) (fun _=>rfl) U).setCell (p:=(aH g 3)) (fun _=>rfl) T).setCell (p:=(aH g 4)) (fun _=>rfl) S).setCell (p:=(aH g 5)) (fun _=>rfl) R).setCell (p:=(aH g 6)) (fun _=>rfl) Q).setCell (p:=(aH g 7)) (fun _=>rfl) P);have Z:=((((((((Y.store 0 W).store 1 V).store 2 U).store 3 T).store 4 S).store 5 R).store 6 Q).store 7 P);refine⟨⟨?_,?_,?_,?_,?_,?_,?_,?_⟩,eH N O N.size (fun i L=>aj)⟩
 all_goals(rw[Z.cell];simp[M])
theorem SS(w:aK):Calls prog 33 #[] w (Val w (.agg (jC 0 3 0 0 4 8 64 8))):=by
 obtain⟨U,Y,Z,V⟩:=ES w 23 (jC 0 0 0 0 0 0 0 0);have c:=fun k=>show∀v,(jC 0 0 0 0 0 0 0 0)[k]? =some v→U.cell? (aH w k)=some v from fun v e=>by rw[Z.cell];exact e
 have L:=c 0 _ rfl;have K:=c 1 _ rfl;have J:=c 2 _ rfl;have I:=c 3 _ rfl;have H:=c 4 _ rfl;have G:=c 5 _ rfl;have F:=c 6 _ rfl;have E:=c 7 _ rfl;have D:=Z.frozen 0;have C:=Z.frozen 1;have B:=Z.frozen 2;have A:=Z.frozen 3;have z:=Z.frozen 4;have y:=Z.frozen 5;have x:=Z.frozen 6;have u:=Z.frozen 7;change Hid _ at V Y Z;clear c;go_enter func33,ntmps33;go_upto_region 1 with(fail)
 change Code.wp _ _ _ _ (w.alloc _);rw[←Y];go_wp2;obtain⟨t,X,⟨T,S,R,Q,P,O,N,M⟩,W⟩:=agI rfl (aB 0) (aB 3) (aB 0) (aB 0) (aB 4) (aB 8) (aB 64) (aB 8) Z V (bC _);rw[←X];refine aT (by simp[results,results33,go_sem,T,S,R,Q,P,O,N,M];rfl) rfl ?_;exact⟨rfl,W⟩
structure Xg where
 k:Int
 m:Int
 A:dK
 n:Nat
 c:Nat
 l:aO
instance:Inhabited Xg:=⟨⟨0,0,none,0,0,[]⟩⟩
def acR:tJ Xg where
 S:=25
 T:=36
 k:=3
 bytes:=40
 z:=.agg #[aB 0,aB 0,bU]
 enc:=fun a=>[aB a.k,aB a.m,aG a.A a.n a.c]
 und:=underlying25
 info:=aW
 zs:=rfl
 pos:=bn
 hk:=fun _=>rfl
 one:=fun a u Z=>by simp at Z;rcases Z with rfl|rfl|rfl<;>rfl
structure AcL(w:World)(A:Option Addr)(n:Nat)(l:List Xg):Prop where
 row:Qo acR w A n l
 one:∀a∈l,(a.m≤9223372036854775807∧a.n≤9223372036854775807)∧(∀v∈a.l,-9223372036854775808≤v∧v≤9223372036854775807)∧Ls w a.A a.n a.l
theorem AcL.keep{w w':aK}{A:dK}{n:Nat}{l:List Xg}(h:AcL w A n l)(Y:aP w w'):AcL w' A n l:=⟨h.row.keep Y,fun a Z=>⟨(h.one a Z).1,(h.one a Z).2.1,(h.one a Z).2.2.keep Y⟩⟩
theorem AcL.at_{w:aK}{A:dK}{n i:Nat}{l:List Xg}(h:AcL w A n l)(hi:i<n):∃b o,A=some (aH b o)∧aN w b (o+i*3) (aB (l.getD i default).k)∧
  aN w b (o+i*3+1) (aB (l.getD i default).m)∧aN w b (o+i*3+2) (.slice (l.getD i default).A (l.getD i default).n (l.getD i default).c)∧l.getD i default∈l:=by
 have X:=h.row.len;obtain⟨b,o,Y,Z⟩:=h.row.at_ hi;have e:l.getD i default=l[i]' aj:=by rw[dG,fP aj];rfl
 rw[e];exact⟨b,o,Y,Z 0 _ rfl,Z 1 _ rfl,Z 2 _ rfl,lS _⟩
def yY(k m:Int)(n:Nat):Nat:=min n 1001+if k=6∧0<m then min m.toNat 1000 else 0
def yZ(l:List Xg):Nat:=(l.map fun a=>yY a.k a.m a.n).sum
theorem Ph{l:List Xg}(hi:i<l):yZ (l.take (i+1))=yZ (l.take i)+yY (l.getD i default).k (l.getD i default).m (l.getD i default).n:=by
 rw[List.take_add_one,fP hi,dG,fP hi];unfold yZ;rw[gG,vJ];simp only[Option.toList_some,oq,List.map_nil,List.sum_cons,List.sum_nil,dW,jV]
def ami(w:aK)(l:List Xg)(e:Ending)(w':aK):Prop:=∃b,e=bM (.bool b)∧(b=true→l.length≤200∧yZ l≤1000)∧aP w w'
theorem ak1{l:List Xg}(r:n≤9223372036854775807)(h:AcL w A n l):Calls prog 20 #[aG A n c] w (ami w l):=by
 obtain⟨F,Y⟩:=aV h h.row.len;go_enter func20,ntmps20;go_wp2
 go_loopg [3,4] 200 (fun k C B wr=>∃(i x:Nat),i+k=200∧i≤n∧B=i∧C=x∧x≤2001*i∧Hid (x=yZ (l.take i))∧w=wr)
 case atStart=>exact⟨0,0,aj,aj,rfl,rfl,aj,ay rfl,rfl⟩
 case round=>
  obtain⟨i,x,q,t,rfl,rfl,p,S,rfl⟩:=hrel
  by_cases Q:i<n
  ·have D:(i:Int)<(n:Int):=aj
   by_cases m:i<200
   ·have s:(i:Int)<200:=aj
    obtain⟨b,o,z,y,v,u,N⟩:=F.at_ Q;have P:=Ph (l:=l) (i:=i) (by rw[Y];exact Q);have M:=(F.one _ N).1;subst z;generalize l.getD i default=a at*;obtain⟨V,X,j,U,g,f⟩:=a;simp only at y v u P M;have T:=ay P;have J:yY V X U≤2001:=by unfold yY;split<;>omega
    have I:(V=6∧0<X)→((x+yY V X U:Nat):Int)=(x:Int)+min (U:Int) 1001+min X 1000:=fun e=>by unfold yY;rw[aF e];omega
    have H:¬(V=6∧0<X)→((x+yY V X U:Nat):Int)=(x:Int)+min (U:Int) 1001:=fun e=>by unfold yY;rw[au e];omega
    have Z:=ay (And.intro J (And.intro I H));go_wp2
    ·rename_i L E
     go_roundg(200-i-1)
     case measure=>omega
     exact⟨i+1,x+yY V X U,aj,aj,bK,by rw[Z.2.1 ⟨L,E⟩],by have:=Z.1;omega,ay (by rw[T,S]),rfl⟩
    ·rename_i L E
     go_roundg(200-i-1)
     case measure=>omega
     exact⟨i+1,x+yY V X U,aj,aj,bK,by rw[Z.2.2 (fun e=>aj)],by have:=Z.1;omega,ay (by rw[T,S]),rfl⟩
    ·rename_i L
     go_roundg(200-i-1)
     case measure=>omega
     exact⟨i+1,x+yY V X U,aj,aj,bK,by rw[Z.2.2 (fun e=>L e.1)],by have:=Z.1;omega,ay (by rw[T,S]),rfl⟩
   ·obtain rfl:i=200:=aj
    by_cases W:n≤200
    ·have O:(n:Int)≤200:=aj
     have K:Hid ((x:Int)≤1000→l.length≤200∧yZ l≤1000):=ay (fun G=>⟨by rw[Y];exact W,by
      have h:=S.out;rw[wO (by rw[Y];exact W)]at h;omega⟩)
     go_wp2
     all_goals(go_ret;exact⟨_,rfl,fun R=>K (by simpa using R),aU _ _⟩)
    ·have O:¬(n:Int)≤200:=aj
     go_wp2
     all_goals(go_ret;exact⟨_,rfl,fun R=>by simp at R,aU _ _⟩)
  ·by_cases W:n≤200
   ·have O:(n:Int)≤200:=aj
    have K:Hid ((x:Int)≤1000→l.length≤200∧yZ l≤1000):=ay (fun G=>⟨by rw[Y];exact W,by
     have h:=S.out;rw[wO (by rw[Y];omega)]at h;omega⟩)
    go_wp2
    all_goals(go_ret;exact⟨_,rfl,fun R=>K (by simpa using R),aU _ _⟩)
   ·exfalso;omega
def adT(C:Ei)(x y n:Int):Prop:=C.re<0∨7<C.re∨C.qn<0∨C.qx<C.qn∨15<C.qx∨n<0∨16<n∨x<0∨32<x∨y<0∨32<y
theorem acg{C:Ei}{x y n:Int}:∃b,∀w:aK,Calls prog 43 #[C.v,x,y,n] w (Val w (.bool b)):=by
 obtain⟨Y,X,Z,V,U,T,S,R⟩:=C
 by_cases W:adT ⟨Y,X,Z,V,U,T,S,R⟩ x y n
 ·refine⟨true,fun w=>?_⟩
  obtain⟨P,Q⟩:=aV W (aJ w (aS (jC Y X Z V U T S R) 23));clear W;go_enter func43,ntmps43;go_wp2
  all_goals(go_ret;first|exact⟨rfl,Q⟩|(exfalso;have h:=P.out;unfold adT at h;simp only at h;omega))
 ·refine⟨decide (wrap64 (wrap64 (wrap64 (wrap64 (wrap64 (x*y)*n)*(2*Z+1))*(2*Z+1))*(X-Y+1))≤524288),fun w=>?_⟩
  have Q:=ay (aJ w (aS (jC Y X Z V U T S R) 23));unfold adT at W;simp only at W;have M:¬Z<0:=aj
  have L:¬7<Z:=aj
  have K:¬Y<0:=aj
  have J:¬X<Y:=aj
  have I:¬15<X:=aj
  have H:¬n<0:=aj
  have G:¬16<n:=aj
  have F:¬x<0:=aj
  have E:¬32<x:=aj
  have O:¬y<0:=aj
  have N:¬32<y:=aj
  clear W;go_enter func43,ntmps43;go_wp2;go_ret;exact⟨rfl,Q⟩
theorem ak3(s:cO)(w:aK):Calls prog 42 #[.agg #[aB 0,s]] w fun e Z=>e=bM (.bool true)∧aP w Z:=(EW 0 s w).mono fun e Z h=>⟨h.1,by rw[←h.2];exact aJ w _⟩
theorem ak4{c:Int}(Y:c≠0)(s:cO)(w:aK):Calls prog 42 #[.agg #[c,s]] w fun e Z=>e=bM (.bool false)∧aP w Z:=(EW c s w).mono fun e Z h=>⟨by rw[h.1,show(c==0)=false by simpa using Y],by rw[←h.2];exact aJ w _⟩
def anr(w:aK)(n:Nat)(e:Ending)(w':aK):Prop:=∃b,e=bM (.bool b)∧(b=true→n≤20000)∧aP w w'
theorem vG.ok{w w':aK}{b:aO}{X:List aO}{e:Ending}(h:vG w b e w')(hd:Dh b= .ok X):
  ∃A c l Z Y,e=bM (eP #[aG A l.length c,.agg #[aB 0,aG Z 0 Y]])∧RdF w' A l∧0<l.length∧aP w w':=by
 unfold vG at h;rw[hd]at h;obtain⟨⟨A,c,l,Z,Y,V,U,T,-⟩,S⟩:=h;have W:=aej hd;have Q:=Kr W.1;have R:l.length=X:=by rw[←T,fJ]
 exact⟨A,c,l,Z,Y,V,U,by rw[R,W.2.1];unfold nOf;omega,S⟩
theorem vG.er{pc:List (ByteArray × Int)× Int}{e:Ending}(h:vG w b e w')(hd:Dh b= .error pc):
  ∃A Z,e=bM (eP #[bU,.agg #[pc.2,aG A pc.1.length Z]])∧pc.2≠0∧aP w w':=by
 unfold vG at h;rw[hd]at h;obtain⟨⟨A,c,Y,-⟩,X⟩:=h;obtain⟨p,k⟩:=pc;exact⟨A,c,Y,by have:=(abl hd).1;simp only;omega,X⟩
theorem agK{C:Ei}(m:n≤c)(H:dV src)(hA:Lb w A n src):
  Calls prog 19 #[C.v,aG A n c] w (anr w n):=by
 obtain⟨l,G⟩:=hA
 by_cases qj:20000<n
 ·have F:(20000:Int)<(n:Int):=aj
  have L:=ay (aJ w (aS (jC C.qn C.qx C.re C.cu C.go C.ra C.ro C.fi) 23));clear G H;go_enter func19,ntmps19;go_wp2;go_ret;exact⟨false,rfl,fun h=>by simp at h,L⟩
 ·have F:¬(20000:Int)<(n:Int):=aj
  have g:=bF.new w 23 (jC C.qn C.qx C.re C.cu C.go C.ra C.ro C.fi);have k:=aJ w (aS (jC C.qn C.qx C.re C.cu C.go C.ra C.ro C.fi) 23);obtain⟨W1,M⟩:=kF (w.alloc (aS (jC C.qn C.qx C.re C.cu C.go C.ra C.ro C.fi) 23));have u:w.heap.size<W1:=by rw[M];simp
  rw[←M]at g k;subst l;obtain⟨HD,qa,qe,L⟩:=jH (acf aj m H W1 (G.keep k)) M g (And.intro k u);have HN:Hid (src.length≤20000):=ay aj;clear k u g M G H;go_enter func19,ntmps19;go_upto_region 1 with(fail)
  change Code.wp _ _ _ _ (w.alloc _);rw[←qa];cases U:Dh src with
  |ok fs=>
   have qf:=ay U;clear U;go_upto_region 4 with(go_at_call 41;refine HD.mono ?_;intro e T D;obtain⟨j,i,I,f,b,rfl,t,qg,Y⟩:=D.ok qf)
   obtain⟨s,r⟩:=acg;obtain⟨P,X⟩:=kF (T.alloc (aS #[aB 0,aG f 0 b] 79));have W:aP T P:=by rw[X];exact aJ T _
   have E:=bF.new T 79 #[aB 0,aG f 0 b];rw[←X]at E ⊢;have B:=E.c0;have z:=E.c1;have O:=(qe.keep Y).keep W;obtain⟨c0,c1,c2,q,o,c5,c6,c7⟩:=O.s8;obtain⟨fb,fo,qh,a,f1,-⟩:=(t.keep W).at_ qg;subst qh;rw[Nat.zero_mul,dW]at a f1;have y:∀Z,aP P Z→Calls prog 42 #[.agg #[aB 0,aG f 0 b]] Z fun e S=>e=bM (.bool true)∧aP Z S:=fun Z _=>ak3 _ Z
   have D2:∀Z,aP P Z→Calls prog 43 #[C.v,aB I[0].w,aB I[0].h,I.length] Z fun e S=>e=bM (.bool s)∧aP Z S:=fun Z _=>r Z
   have V:=L.1.trans ((Y.mono (pO L.2)).trans (W.mono (dD (pO L.2) Y.size)));obtain⟨x,C2⟩:=aV (Calls.grown y) (Calls.grown D2);have G0:=fun p:Go.Regrown=>Go.cell_regrown c0 p.d p.os
   have G1:=fun p:Go.Regrown=>Go.cell_regrown c1 p.d p.os
   have G2:=fun p:Go.Regrown=>Go.cell_regrown c2 p.d p.os
   have G3:=fun p:Go.Regrown=>Go.cell_regrown q p.d p.os
   have G4:=fun p:Go.Regrown=>Go.cell_regrown o p.d p.os
   have G5:=fun p:Go.Regrown=>Go.cell_regrown c5 p.d p.os
   have G6:=fun p:Go.Regrown=>Go.cell_regrown c6 p.d p.os
   have G7:=fun p:Go.Regrown=>Go.cell_regrown c7 p.d p.os
   have G8:=fun p:Go.Regrown=>Go.cell_regrown B p.d p.os
   have G9:=fun p:Go.Regrown=>Go.cell_regrown z p.d p.os
   have GA:=fun p:Go.Regrown=>Go.cell_regrown a p.d p.os
   have GB:=fun p:Go.Regrown=>Go.cell_regrown f1 p.d p.os
   have qk:(0:Int)<(I.length:Int):=aj
   generalize I[0].w=w0 at*;generalize I[0].h=h0 at*;generalize I=n3 at*;change Hid _ at V;clear D t Y W X E O y D2 r c0 c1 c2 q o c5 c6 c7 B z a f1;cases s<;>
   ·(refine AQ aW aW ?_;(repeat(refine DV (fun K N=>?_);go_simp;first|(refine N _ ?_;clear N K)|(apply Exists.intro;refine⟨fun _=>?_,N _ ?_⟩;(focus(with_reducible first|exact x.out _|exact C2.out _));clear N K)));(refine Hy ?_))
    intro wq R;have Q:=V.trans (R.below.mono V.size);change Hid _ at Q;clear R G0 G1 G2 G3 G4 G5 G6 G7 G8 G9 GA GB x C2;go_wp2
    all_goals(go_ret;exact⟨_,rfl,fun _=>HN,Q⟩)
  |error J=>
   change Hid _ at U;go_upto_region 4 with(go_at_call 41;refine HD.mono ?_;intro e T D;obtain⟨j,i,rfl,qi,Y⟩:=D.er U)
   obtain⟨P,X⟩:=kF (T.alloc (aS #[J.2,aG j J.1.length i] 79));have W:aP T P:=by rw[X];exact aJ T _
   have E:=bF.new T 79 #[J.2,aG j J.1.length i];rw[←X]at E ⊢;have B:=E.c0;have z:=E.c1;have y:∀Z,aP P Z→Calls prog 42 #[.agg #[J.2,aG j J.1.length i]] Z fun e S=>e=bM (.bool false)∧aP Z S:=fun Z _=>ak4 qi _ Z
   have V:=L.1.trans ((Y.mono (pO L.2)).trans (W.mono (dD (pO L.2) Y.size)));have x:=ay (Calls.grown y);have G8:=fun p:Go.Regrown=>Go.cell_regrown B p.d p.os
   have G9:=fun p:Go.Regrown=>Go.cell_regrown z p.d p.os
   generalize J.2=k3 at*;generalize J.1.length=n3 at*;change Hid _ at V;clear D Y W X E y B z
   (refine AQ aW aW ?_;(repeat(refine DV (fun K N=>?_);go_simp;first|(refine N _ ?_;clear N K)|(apply Exists.intro;refine⟨fun _=>?_,N _ ?_⟩;(focus(with_reducible first|exact x.out _));clear N K)));(refine Hy ?_))
   intro wq R;have Q:=V.trans (R.below.mono V.size);change Hid _ at Q;clear R G8 G9 x;go_wp2
   all_goals(go_ret;exact⟨_,rfl,fun _=>HN,Q⟩)
theorem YP{r:Int}{l:List Nat}(h:Es (aI.new r) l):l=[]:=by
 cases l with
 |nil=>rfl
 |cons x l=>
  have:=(h.mem x).1 bK;simp[aI.new]at this
theorem Xb(X:bI){r:Int}(Z:0≤r∧r≤16777216):nX X ⟨aI.new r,none⟩ 0:=⟨oV.new X r,aZ.new Z,fun f Y=>by cases Y⟩
section
variable{w w':aK}{I:MG}{S:Nat→Prop}{PA:dK}{pn pc:Nat}
theorem ak5(J:I.X.ok)(U:I.X.bad=0)(O:I.X.chunks=1)(G:I.n≤100000000)(F:I.W=2)(N:Gl w)(h:IG w I S ⟨aI.new 65536,none⟩):
  Calls prog 9 #[aY I.sg,.agg (X8 3 0 PA pn pc)] w fun e w'=>e=bM iI∧
   ∃d,gy I.X d 13 none none none none∧nX I.X ⟨d,some ⟨lH I.X,[aX.zero,aX.zero],[],false⟩⟩ 40∧EP w I S ⟨d,some ⟨lH I.X,[aX.zero,aX.zero],[],false⟩⟩ w':=by
 have P:=Xb I.X (r:=65536) aj;obtain⟨ρ,E⟩:=P.ok.d;obtain⟨d,D,C⟩:=WO J U O;refine(amg (Q:=fun R e w'=>ab6 R I S I.W (aI.new 65536) e w') (fun R H=>WZ (ρ:=ρ) rfl rfl E P.fit aj G (N.keep H) (h.keep H)) (by rintro R e w' ⟨l,-,-,-,v,p,B,-⟩;exact⟨v,B⟩) h).mono ?_;rintro e w' ⟨R,M,l,A,T,L,v,p,rfl,V,-,Z⟩;have K:=YP A;subst K;have Y:=P.started J rfl T L (W:=2) aj;rw[D]at V Z Y;rw[F]at Z;simp only at V Z Y;rw[aF trivial]at Z Y;exact⟨by rw[V.1 rfl],d,C,Y,EP.from M Z⟩
theorem ak6(N:I.X.ok)(Y:I.X.Si)(T:I.X.bad=0)(L:I.X.chunks=1)(R:(I.X.pk 0).length+I.X.out≤60000){d:aI}(F:gy I.X d 13 none none none none)(K:Gl w)
  (E:nX I.X ⟨d,some ⟨lH I.X,[aX.zero,aX.zero],[],false⟩⟩ 40) (h:IG w I S ⟨d,some ⟨lH I.X,[aX.zero,aX.zero],[],false⟩⟩):
  Calls prog 9 #[BG I.sg,.agg (X8 6 99 PA pn pc)] w fun e w'=>e=bM iI∧
   ∃Z f,Z.see 2=some ⟨I.X.out,I.X.out.length⟩∧f.job.state=3∧f.tasks.length=2∧nX I.X ⟨Z,some f⟩ 500∧EP w I S ⟨Z,some f⟩ w':=by
 have W:kH I.X d ⟨lH I.X,[aX.zero,aX.zero],[],false⟩ 2 40:=E.bd;obtain⟨Z,D,P⟩:=SI N T L R F;have M:=W.picks N Y (vC 2 99);refine(ano (Q:=fun O e w'=>aeL O I S (iV I.X d ⟨lH I.X,[aX.zero,aX.zero],[],false⟩ (vC 2 99)) e w') (fun O H=>ab8 aj (K.keep H) N Y W aj aj (h.keep H)) (by rintro O e w' ⟨v,p,C,-⟩;exact⟨v,C⟩) h).mono ?_;rintro e w' ⟨O,J,v,p,rfl,V,U⟩;have G:vC 2 99=iT 99:=rfl;rw[G,D]at V U M;rw[←G,Oa]at M;exact⟨by rw[V.1 rfl],Z,_,P,rfl,rfl,(M.sb aj).mono aj,EP.from J U⟩
theorem ak7(G:I.X.ok)(F:I.n≤100000000)(E:I.W≤64)(O:Gl w)(h:IG w I S ⟨aI.new 0,none⟩):
  Calls prog 9 #[aY I.sg,.agg (X8 3 0 PA pn pc)] w fun e w'=>∃v,e=bM v∧ErrAt w' [(⟨#[102,97,114,109]⟩,4)] (.iface 48 (aB 9)) v∧
   ∃d,d.see 2=none∧nX I.X ⟨d,none⟩ 40∧EP w I S ⟨d,none⟩ w':=by
 have P:=Xb I.X (r:=0) aj;obtain⟨ρ,D⟩:=P.ok.d;obtain⟨J,N⟩:=WQ I.X;refine(amg (Q:=fun R e w'=>ab6 R I S I.W (aI.new 0) e w') (fun R H=>WZ (ρ:=ρ) rfl rfl D P.fit aj F (O.keep H) (h.keep H)) (by rintro R e w' ⟨l,-,-,-,v,p,C,-⟩;exact⟨v,C⟩) h).mono ?_;rintro e w' ⟨R,M,l,B,T,L,v,p,rfl,U,Z,Y⟩;have K:=YP B;subst K;have V:=P.started G rfl T L E;have A:(dR I.X (aI.new 0) []).2.2.1=4:=by rw[J]
 have z:(dR I.X (aI.new 0) []).2.2.2=9:=by rw[J]
 rw[z]at U Y V Z;rw[A]at Z;rw[au bn]at Y V;have y:=Z bn;subst y;refine⟨v,rfl,U.2 bn,_,?_,V,EP.from M Y⟩;unfold aI.see;rw[N];rfl
end
theorem IG.lt{w:aK}{I:MG}{S:Nat→Prop}{s:oK}(h:IG w I S s){i:Nat}(hi:S i):i<w:=by
 obtain⟨Y,Z,-⟩:=h;exact Z.lt i hi
theorem IG.g0{w:aK}{I:MG}{S:Nat→Prop}{s:oK}(h:IG w I S s):¬S 0:=by
 obtain⟨Y,Z,-⟩:=h;exact Z.g0
structure OnW(w wi:World)(I:MG)(S:Nat→Prop)(s:oK):Prop where
 hs:IG wi I S s
 gl:Gl wi
 b:aP w wi
 lo:∀i,S i→w.heap.size≤i
structure Xh(w wi:World)(I J:MG)(S T:Nat→Prop)(s t:oK):Prop where
 hs:IG wi I S s
 ht:IG wi J T t
 ap:∀i,T i→¬S i
 gl:Gl wi
 b:aP w wi
 ls:∀i,S i→w.heap.size≤i
 lt:∀i,T i→w.heap.size≤i
section
variable{w wi w':aK}{I J:MG}{S T:Nat→Prop}{s s' t t':oK}
theorem Xh.keep(h:Xh w wi I J S T s t)(Z:aP wi w'):Xh w w' I J S T s t:=⟨h.hs.keep Z,h.ht.keep Z,h.ap,h.gl.keep Z,h.b.trans (Z.mono h.b.size),h.ls,h.lt⟩
theorem Xh.swap(h:Xh w wi I J S T s t):Xh w wi J I T S t s:=⟨h.ht,h.hs,fun i Z Y=>h.ap i Y Z,h.gl,h.b,h.lt,h.ls⟩
theorem Xh.step(h:Xh w wi I J S T s t)(V:EP wi I S s' w'):∃Y,Xh w w' I J Y T s' t:=by
 obtain⟨Y,U,X,W⟩:=V;refine⟨Y,U,h.ht.dH X h.ap,fun i Z R=>?_,bG h.gl X h.hs.g0,eH h.b X h.b.size h.ls,fun i Z=>(W i Z).elim (h.ls i) (fun e=>dD h.b.size e),h.lt⟩;have Q:=h.ht.lt Z;exact(W i R).elim (h.ap i Z) (fun e=>aj)
theorem Xh.step2(h:Xh w wi I J S T s t)(Y:EP wi J T t' w'):∃Z,Xh w w' I J S Z s t':=by
 obtain⟨Z,k⟩:=h.swap.step Y;exact⟨Z,k.swap⟩
end
abbrev K0:Cn:=⟨0,3,0,0,4,8,64,8⟩
theorem by0:dV pF:=by unfold dV pF;decide
theorem ant{r:Int}(Z:0≤r∧r≤16777216)(Y:1≤W∧W≤64)(X:n≤140737488355328)(V:Gl w)(U:Lb w A n pF):
  Calls prog 18 #[.agg (jC 0 3 0 0 4 8 64 8),aG A n c,r,W] w (aln w K0 n pF W r):=
 aeK bn Z Y X by0 (lt_of_cell V) U
theorem anu{C:Ei}{P:fG}{e:Ending}(h:SG w C b e w')(Z:kY C b= .ok P):
  ∃A c,e=bM (eP #[aG A (rX C P) c,iI])∧OwnB w' w A (rX C P) c (rX C P)∧aP w w':=by
 unfold SG at h;rw[Z]at h;exact h
theorem aoD{P:fG}(X:kY vW pF= .ok P)(Z:OwnB w base A 14 c pF):
  Calls prog 29 #[.agg (jC 0 3 0 0 4 8 64 8),aG A 14 c] w fun e Y=>∃A c,e=bM (eP #[aG A (rX vW P) c,iI])∧OwnB Y w A (rX vW P) c (rX vW P)∧aP w Y:=
 (aey (C:=vW) (n:=14) Z.len aj Z.cap by0 w Z.lb.2).mono fun _ _ h=>anu h X
theorem aeN{I J:MG}{d d':aI}{f:bZ}(h:Xh w w' I J S T ⟨d,some f⟩ ⟨d',none⟩)(Z:f.job.state=3∧f.tasks.length=2):
  Calls prog 31 #[aY I.sg] w' (Val w' (aB 3))∧Calls prog 38 #[aY I.sg] w' (Val w' (aB 2)):=by
 have Y:=YN h.hs;have X:=ab5 h.hs;have W:((stN (some f):Nat):Int)=3:=by show((f.job.state:Nat):Int)=3;rw[Z.1];rfl
 have V:((wkN (some f):Nat):Int)=2:=by show((f.tasks.length:Nat):Int)=2;rw[Z.2];rfl
 rw[W]at Y;rw[V]at X;exact⟨Y,X⟩
theorem adU(Z:dV l)(h1:OwnB w i A n c l)(h2:OwnB w j B m d l):
  Calls prog 11 #[aG A n c,aG B m d] w fun e Y=>e=bM (.bool true)∧w=Y:=
 (UW Z Z w h1.lb h2.lb).mono (fun e X h=>⟨by rw[h.1,su rfl],h.2⟩)
theorem adV(qL:Gl w):Calls prog 17 #[] w (Val w (.bool true)):=by
 have HG:=ay qL;go_enter func17,ntmps17
 go_upto_region 2 with(first
  |(go_at_call 18;refine(ant (W:=2) aj aj aj (HG.keep P) qr.lb).mono ?_;rintro e w3 ⟨I,rfl,qM,zn,qN,qO,qP,d⟩)
  |(go_at_call 34;refine(adR _).mono ?_;rintro e w2 ⟨A2,c2,rfl,qr,qs⟩;have P:=a.trans (qs.mono a.size))
  |(go_at_call 33;refine(SS _).aQ ?_;rintro w1 a)
  |fail)
 have E:=P.size;have h1:OnW w w3 I (fun i=>w2≤i∧i<w3) ⟨aI.new 65536,none⟩:=⟨qP,(HG.keep P).keep d,P.trans (d.mono P.size),fun i G=>dD E G.1⟩;have F:=ay h1;generalize(fun i=>w2.heap.size≤i∧i<w3.heap.size)=S at*
 go_upto_region 3 with(first
  |(go_at_call 18;refine(ant (W:=1) aj aj aj (F.gl.keep O) qt.lb).mono ?_;rintro e w6 ⟨J,rfl,qQ,zo,qR,zq,qS,u⟩)
  |(go_at_call 34;refine(adR _).mono ?_;rintro e w5 ⟨A5,c5,rfl,qt,qu⟩;have O:=qa.trans (qu.mono qa.size))
  |(go_at_call 33;refine(SS _).aQ ?_;rintro w4 qa)
  |fail)
 have E:=O.size
 have h2:Xh w w6 I J S (fun i=>w5.heap.size≤i∧i<w6.heap.size) ⟨aI.new 65536,none⟩ ⟨aI.new 0,none⟩:=
  ⟨(F.hs.keep O).keep u,qS,fun i G hj=>by have:=F.hs.lt hj;omega,(F.gl.keep O).keep u,(F.b.trans (O.mono F.b.size)).trans (u.mono (dD F.b.size E)),F.lo,fun i G=>dD F.b.size (dD E G.1)⟩
 have H2:=ay h2;generalize(fun i=>w5.heap.size≤i∧i<w6.heap.size)=T at*;obtain⟨P0,qT,qv,qU,qw⟩:=ab9;obtain⟨qe,qV⟩:=Gi vW pF;have qf:I.X=gu vW pF:=by unfold MG.X;rw[qM,qN];rfl
 have qW:J.X=gu vW pF:=by unfold MG.X;rw[qQ,qR];rfl
 obtain⟨Q,HJ,qg,qX⟩:=jH (show I.X.ok∧I.X.Si∧I.X.bad=0∧I.X.chunks=1∧(I.X.pk 0).length+I.X.out≤60000∧I.n≤100000000∧I.W=2 by rw[qf];exact⟨qe,qV,qv,qU,qw,aj,qO⟩) (show J.X.ok∧J.n≤100000000∧J.W≤64 by rw[qW];exact⟨qe,aj,aj⟩) qT qf;go_upto_region 6 with(go_at_call 9;refine(alo rfl H2.hs).aQ ?_;rintro w7 Z)
 obtain⟨S7,h7⟩:=H2.step Z;have H7:=ay h7;go_upto_region 7 with(go_at_call 9;refine(ak5 Q.1 Q.2.2.1 Q.2.2.2.1 Q.2.2.2.2.2.1 Q.2.2.2.2.2.2 H7.gl H7.hs).aQ ?_;rintro w8 ⟨d8,qY,qy,Z⟩)
 obtain⟨S8,h8⟩:=H7.step Z;obtain⟨H8,qz,qZ⟩:=dB h8 qy qY;go_upto_region 8 with(go_at_call 9;refine(ak6 Q.1 Q.2.1 Q.2.2.1 Q.2.2.2.1 Q.2.2.2.2.1 qZ H8.gl qz H8.hs).aQ ?_;rintro w9 ⟨d9,f9,r,qA,qB,qC,Z⟩)
 obtain⟨S9,h9⟩:=H8.vI.step Z;obtain⟨H9,D,qD,qh⟩:=jH h9 qC r (And.intro qA qB)
 go_upto_region 9 with(first
  |(go_at_call 29;refine(aoD qg q).mono ?_;rintro e za ⟨zr,zt,rfl,p,C⟩)
  |(go_at_call 34;refine(adR _).mono ?_;rintro e qi ⟨zu,zv,rfl,q,B⟩)
  |(go_at_call 33;refine(SS _).aQ ?_;rintro zw A)
  |fail)
 have zb:=((H9.keep A).keep B).keep C;obtain⟨HO,qj⟩:=aV p zb;have qk:I.X.out=rX vW P0:=by rw[qX.out];unfold gu;rw[qg.out];rfl
 rw[←qk]at HO;obtain⟨zc,t⟩:=aV qk (show(∀i,T i→i<qi.heap.size)∧qi.heap.size≤za.heap.size from⟨fun i G=>wP (H9.ht.lt G) (dD A.size B.size),C.size⟩);go_upto_region 10 with(go_at_call 10;refine(UY (D.lt Q.1) D.fit qj.hs).mono ?_;rintro e ze ⟨z,-,hq⟩;obtain⟨zx,zy,zA,rfl,o⟩:=hq _ qD)
 have zf:=qj.keep z;obtain⟨y,x,s⟩:=dB o (HO.keep (Below.mono z (bC _))) zf;go_upto_region 11 with(go_at_call 9;refine(ak7 HJ.1 HJ.2.1 HJ.2.2 s.gl s.ht).mono ?_;rintro e zg ⟨zB,rfl,qE,zh,qF,m,Z⟩)
 obtain⟨T',k1,N,k2⟩:=Z;have zi:=x.dH N (fun i G e=>by have:=(x.lt G).1;have:=t.1 i e;omega);have zj:=y.dH N (fun i G e=>by have:=(y.lt G).1;have:=t.1 i e;have:=t.2;omega);obtain⟨zC,zk⟩:=s.step2 (show EP ze J T ⟨zh,none⟩ zg from⟨T',k1,N,k2⟩);obtain⟨ql,v,qG,M⟩:=jH zk (And.intro zi zj) qE (And.intro qF m);go_upto_region 12 with(go_at_call 10;refine(UY (M.2.lt HJ.1) M.2.fit ql.ht).mono ?_;rintro e zD ⟨Y,hq,-⟩;obtain rfl:=hq M.1)
 have zl:=ql.keep Y;obtain⟨R,qH,qI⟩:=dB zl (And.intro (v.1.keep Y) (v.2.keep Y)) Y;have qm:=qH.out;have qo:=Q.2.1.out;rw[zc]at qm qo;obtain⟨qq,zm⟩:=aV qm qo
 go_wp2_with(first
  |(go_at_call 38;refine(aeN (R.keep L) qh).2.aQ ?_;rintro zE l;have qJ:=L.trans (l.mono L.size))
  |(go_at_call 35;refine(aaC (path:=[(⟨#[102,97,114,109]⟩,4)]) bK bn _ (R.gl.keep V) (qG.keep (fun b cs k=>(k.keep qI).keep V)) qK).aQ ?_;rintro zF j;have L:=V.trans (j.mono V.size))
  |(go_at_call 37;refine(DK _ 4 (c:=9) bn _).mono ?_;rintro e zG ⟨zH,zI,rfl,qK,-,h⟩;have V:=U.trans (h.mono U.size))
  |(go_at_call 11;refine(adU zm (qq.2.keep U) (qq.1.keep U)).aQ ?_;rintro zJ rfl)
  |(go_at_call 31;refine(aeN (R.keep K) qh).1.aQ ?_;rintro zK g;have U:=K.trans (g.mono K.size))
  |(go_at_call 35;refine(aaC (path:=[]) bK bn _ (R.gl.keep H) (pz bn) Rd.nil).aQ ?_;rintro zL f;have K:=H.trans (f.mono H.size))
  |(go_at_call 36;refine(Jh 12 _).aQ ?_;rintro zM H)
  |fail)
 go_ret;exact⟨rfl,R.b.trans (qJ.mono R.b.size)⟩
theorem xH(Z:Gl w):Calls prog 5 #[] w (Val w (.bool true)):=by
 have X:=ay Z;go_enter func5,ntmps5;go_wp2_with(go_at_call 17;refine(adV X).aQ ?_;rintro W Y);go_ret;exact⟨rfl,Y⟩
def anv(w:aK)(n:Nat)(l:List Xg)(e:Ending)(w':aK):Prop:=∃b,e=bM (.bool b)∧(b=true→n≤20000∧l.length≤200∧yZ l≤1000)∧aP w w'
theorem Xc{C:Ei}{l:List Xg}(V:n≤c)(U:dV src)(P:Lb w A n src)(M:m≤9223372036854775807)(O:AcL w B m l):
  Calls prog 8 #[C.v,aG A n c,aG B m d] w (anv w n l):=by
 have Y:=bF.new w 23 (jC C.qn C.qx C.re C.cu C.go C.ra C.ro C.fi);have X:=aJ w (aS (jC C.qn C.qx C.re C.cu C.go C.ra C.ro C.fi) 23);obtain⟨N,W⟩:=kF (w.alloc (aS (jC C.qn C.qx C.re C.cu C.go C.ra C.ro C.fi) 23));rw[←W]at Y X;obtain⟨I,H,G,F,E,D,z,y⟩:=Y.s8;obtain⟨T,L⟩:=aV (agK (C:=C) V U (P.keep X)) (O.keep X);change Hid _ at W X;clear Y P O;go_enter func8,ntmps8;go_upto_region 1 with(fail)
 change Code.wp _ _ _ _ (w.alloc _);rw[←W]
 go_wp2_with(first
  |(go_at_call 20;refine(ak1 M (L.keep Z)).mono ?_;rintro e x ⟨K,rfl,S,R⟩)
  |(go_at_call 19;refine T.mono ?_;rintro e J ⟨b2,rfl,Q,Z⟩;have Z:aP N J:=Z;cases b2)
  |fail)
 ·go_ret
  exact⟨false,rfl,fun h=>(by cases h),X.trans (Z.mono X.size)⟩
 ·go_ret
  exact⟨K,rfl,fun h=>⟨Q trivial,S h⟩,(X.trans (Z.mono X.size)).trans (R.mono (X.trans (Z.mono X.size)).size)⟩
theorem ajf{a:Int}:∃m:Nat,m<64∧∀w:aK,Calls prog 7 #[a,aB 64] w (Val w m):=by
 obtain⟨r,Z⟩:∃r,Int.tmod a 64=r:=⟨_,rfl⟩;have Y:r<64:=by rw[←Z];exact Int.tmod_lt_of_pos a bn
 have X: -64<r:=by rw[←Z];exact Int.lt_tmod_of_pos a bn
 obtain⟨m,W⟩:∃m:Nat,Int.tmod (r+64) 64=m:=⟨(Int.tmod (r+64) 64).toNat,by
  have:=Int.tmod_nonneg 64 (show(0:Int)≤r+64 by omega);omega⟩
 refine⟨m,by have:=Int.tmod_lt_of_pos (r+64) (b:=64) bn;omega,fun w=>?_⟩;go_enter func7,ntmps7;go_wp2;go_ret;exact⟨rfl,aU _ _⟩
theorem amj{C:Ei}(h:C.may=true):∃K:Cn,K.C=C:=by
 have h:=h;unfold Ei.may jo at h;rw[oQ]at h;obtain⟨Z,Y,X,W,V,U,T,S⟩:=C;simp only at h;refine⟨⟨Z.toNat,Y.toNat,X.toNat,W,V,U,T,S⟩,?_⟩;unfold Cn.C;rw[rM aj,rM aj,rM aj]
def ajg(w:aK)(C:Ei)(n:Nat)(src:aO)(r:Int)(e:Ending)(w':aK):Prop:=
 ∃p,e=bM (aY p)∧aP w w'∧(p=none∨∃(I:MG) (S:Nat→Prop),p=some (aH I.sg 0)∧I.X=gu C src∧I.n=n∧(0≤r∧r≤16777216)∧OnW w w' I S ⟨aI.new r,none⟩)
theorem SX{C:Ei}{r W:Int}(H:n≤140737488355328)(Q:dV src)(V:Gl w)(G:Lb w A n src):
  Calls prog 6 #[C.v,aG A n c,r,W] w (ajg w C n src r):=by
 have S:=aJ w (aS (jC C.qn C.qx C.re C.cu C.go C.ra C.ro C.fi) 23)
 by_cases O:C.may=true∧(0≤r∧r≤16777216)∧(1≤W∧W≤64)
 ·obtain⟨N,M,L⟩:=O
  obtain⟨K,rfl⟩:=amj N;obtain⟨W,rfl⟩:∃k:Nat,W=k:=⟨W.toNat,aj⟩;obtain⟨R,Y,F,E⟩:=jH (aeK (c:=c) (K:=K) (n:=n) (src:=src) (W:=W) N M aj H Q (lt_of_cell (V.keep S)) (G.keep S)) S M V;go_enter func6,ntmps6;go_wp2_with(go_at_call 18;refine R.mono ?_;rintro e D ⟨I,rfl,B,z,y,L,P,Z⟩);go_ret;have U:=Y.trans (Z.mono Y.size);exact⟨_,rfl,U,.inr ⟨I,_,rfl,by unfold MG.X;rw[B,y],z,F,P,(E.keep Y).keep Z,U,fun i u=>dD Y.size u.1⟩⟩
 ·have R:=ay (fun t=>akU (A:=A) (n:=n) (c:=c) (C:=C) (r:=r) (W:=W) (by
   rcases Bool.eq_false_or_eq_true C.may with h|h
   ·by_cases J:0≤r∧r≤16777216
    ·have L:¬(1≤W∧W≤64):=fun k=>O ⟨h,J,k⟩
     exact .inr (.inr aj)
    ·exact .inr (.inl J)
   ·exact .inl h) t)
  have Y:=ay S;go_enter func6,ntmps6;go_wp2_with(go_at_call 18;refine(R _).mono ?_;rintro e D ⟨T,x,rfl,Z⟩);go_ret;exact⟨_,rfl,Y.trans (Z.mono Y.size),.inl rfl⟩
theorem Ls.lt_(h:Ls w A m l)(Z:0<m)(hi:In A i):i<w:=by
 obtain⟨b,o,rfl,Y⟩:=h.rd.at_ (i:=0) (by rw[h.len];exact Z);obtain⟨p,e,rfl⟩:=hi;injection e with e
 subst e;exact lt_of_cell Y
section
variable{w wi w':aK}{I:MG}{S:Nat→Prop}{s s':oK}{A:dK}{m:Nat}{l:aO}
def wC(i:Nat)(l:List Xg):Nat:=100*i+128*yZ (l.take i)
theorem Jq{l:List Xg}(hi:i<l):wC i l+vV (l.getD i default).k (l.getD i default).m≤wC (i+1) l:=by
 unfold wC;rw[Ph hi];generalize l.getD i default=a
 have:vV a.k a.m≤100+128*yY a.k a.m a.n:=by
  unfold vV yY;split
  ·rename_i h
   split
   ·omega
   ·omega
  ·omega
 omega
theorem Ya(l:List Xg)(i:Nat):yZ (l.take i)≤yZ l:=by
 unfold yZ
 conv=>rhs;rw[←kP i l,gG,vJ]
 omega
theorem IJ{l:List Xg}(hi:i≤l)(Z:l.length≤200)(Y:yZ l≤1000):wC i l≤148000:=by
 have:=Ya l i;unfold wC;omega
theorem Ru{a:Xg}(V:I.X.ok)(Y:I.X.Si)(h:OnW w0 w I S s)(Z:(a.m≤9223372036854775807∧a.n≤9223372036854775807)∧(∀v∈a.l,-9223372036854775808≤v∧v≤9223372036854775807)∧Ls w0 a.A a.n a.l)
  (U:nX I.X s N) (T:N+vV a.k a.m≤700000) (W:I.n≤100000000):
  Calls prog 9 #[aY I.sg,.agg (X8 a.k a.m a.A a.n a.c)] w (DoQ w I S (N+vV a.k a.m)):=
 amh V Y h.gl Z.1.1 Z.2.1 (Z.2.2.keep h.b) (fun R i Q e=>by have:=Z.2.2.lt_ R Q;have:=h.lo i e;omega) U T W h.hs
theorem Xh.from_{w wi:aK}{I J:MG}{S:Nat→Prop}{s t:oK}(Z:aP w u)(h:Xh u wi I J S T s t):Xh w wi I J S T s t:=⟨h.hs,h.ht,h.ap,h.gl,Z.trans (h.b.mono Z.size),fun i Y=>dD Z.size (h.ls i Y),fun i Y=>dD Z.size (h.lt i Y)⟩
theorem Xh.one{w wi:aK}{I J:MG}{S:Nat→Prop}{s t:oK}(h:Xh w wi I J S T s t):OnW w wi I S s:=⟨h.hs,h.gl,h.b,h.ls⟩
def anx(w:aK)(X:bI)(e:Ending)(w':aK):Prop:=∃A n c b,e=bM (eP #[aG A n c,.bool b])∧(b=true→Lb w' A n X.out)∧aP w w'
theorem aeO(V:I.X.ok)(Z:nX I.X s N)(h:IG w I S s):Calls prog 10 #[aY I.sg] w (anx w I.X):=by
 refine(UY (Z.lt V) Z.fit h).mono ?_;rintro e w' ⟨W,U,T⟩;cases Y:s.d.see 2 with
 |none=>exact⟨_,_,_,_,U Y,fun e=>(by cases e),W⟩
 |some v=>
  obtain⟨A,n,c,R,Q⟩:=T v Y;obtain⟨k,P,O⟩:=uo Y;have:=(Z.ok.out P).2;rw[O]at this;exact⟨A,n,c,true,R,fun _=>by rw[←this];exact Q.lb,W⟩
end
theorem ajh(V:n<16)(w:aK):Calls prog 14 #[n] w (Val w (.string (bP (iR n)))):=by
 have T:=Rh (48+(n:Int)/10) (48+(n:Int)%10) w;have S:(n:Int)<16:=aj
 have Z:Hid (ail ⟨#[99,46]⟩ n=⟨#[99,46]⟩++strOfNums [48+(n:Int)/10,48+(n:Int)%10]):=ay rfl;have Y:=ay (ain n V);have X:(strOfNums [48+(n:Int)/10,48+(n:Int)%10]).size=2:=rfl;generalize strOfNums [48+(n:Int)/10,48+(n:Int)%10]=U at*;have W:¬9223372036854775807<2+U.size:=aj
 clear X;go_enter func14,ntmps14;go_wp2;go_ret;exact⟨by rw[←Y,Z];rfl,aJ w _⟩
def boR:tJ Bool where
 S:=40
 T:=4
 k:=1
 bytes:=1
 z:=.bool false
 enc:=fun b=>[.bool b]
 und:=underlying40
 info:=aW
 zs:=rfl
 pos:=bn
 hk:=fun _=>rfl
 one:=fun a u Z=>by simp at Z;rcases Z with rfl;rfl
theorem aml{X:Array Oper}(V:o.guard=none)(s x:Operand)(P:o.op= .makeSlice 40 s x)
  (O:a.eval s= aB 16) (hx:a.eval x= aB 16)
  (h:∀Y,dX boR Y w w 16 16 (List.replicate 16 false)→aP w Y→wpList prog X Q rest (a.put o.dst (aG w 16 16)) Y):
  wpList prog X Q (o::rest) a w:=by
 obtain⟨N,M,U,S,R⟩:=info_parts' boR;refine uJ w V s x _ P w boR.T N _ boR.k boR.und M U S .i64 .i64 _ _ 16 O hx rfl rfl (by rw[R];decide) (by unfold maxLen;omega) (bC _) fun Y W Z=>?_
 have e:(madeCells boR.z.cells (16*boR.k)).toList=boR.flat (List.replicate 16 false):=(uG (.bool false) 16).trans rfl;exact h Y ⟨rfl,by rw[←e];exact W⟩ ((aU _ _).grown Z (bC _) fun k L=>by cases L)
def anz(w:aK)(e:Ending)(w':aK):Prop:=∃g l,e=bM (aG (some (aH g 0)) 16 16)∧dX boR w' w.heap.size (some (aH g 0)) 16 16 l∧aP w w'
theorem aaw{l:List Bool}(h:dX boR w base g 16 c l)(Y:q<16):∃x,aN w g q (.bool x)∧w.frozen? (aH g q)=false:=by
 obtain⟨b,o,e,X⟩:=h.ls.at_ Y;injection e with e
 injection e with Z W
 subst Z W;obtain⟨U,e,-,-,V⟩:=h.form aj;injection e with e
 injection e with Z
 subst Z;refine⟨l[q]'(by rw[h.len];exact Y),?_,V q⟩;have:=X 0 _ rfl;simpa[boR]using this
theorem aji{l:List Bool}(h:dX boR w base g 16 c l)(Z:q<16)(x:Bool):dX boR (w.setCell ⟨g,q,none⟩ (.bool x)) base g 16 c (l.set q x):=by
 have:=h.store (i:=q) (j:=0) (a:=x) (v:=.bool x) (by rw[h.len];exact Z) bn rfl;simpa[boR]using this
theorem gq.num{X:bI}(Y:X.ok){r:bV}(h:gq X r)(Z:r.kind=49):0≤r.num∧r.num<16:=by
 have:=Y.ch;cases h with
 |start=>simp at Z
 |done n W=>show 0≤(n:Int)∧(n:Int)<16;omega
 |fail=>simp at Z
 |fin=>exact absurd Z (by show¬(51:Int)=49;decide)
theorem ajj{X:bI}{s:oK}(Y:X.ok)(W:nX X s N){v:iD}(R:s.d.see 0=some v):∃l c m,(∀r∈l,jQ r=true∧(r.kind=49→0≤r.num∧r.num<16))∧jQ c=true∧m<(bH c).length∧v.data.take v.safe=bD l++(bH c).take m∧dV (bD l++(bH c).take m)∧v.safe≤v.data.length∧v.data.length≤16777216:=by
 obtain⟨ρ,Q⟩:=W.ok.d;obtain⟨n,P,O⟩:=uo R;have V:=Q.cur.job n P;have Z:=W.fit.DZ n;rw[O]at V Z;obtain⟨l,c,m,U,M,L,T⟩:=V.take v.safe;exact⟨l,c,m,fun r S=>⟨(U r S).may Y,(U r S).num Y⟩,M.may Y,L,T,by rw[←T];exact fun x K=>Z.2.2 x (D7 K),Z.1,Z.2.1⟩
theorem acj{I:MG}{s:oK}(hX:I.X.ok)(hB:nX I.X s N)(h:IG w I S s):
  Calls prog 12 #[aY I.sg] w (anz w):=by
 obtain⟨qh,qi⟩:=aV (fun w' (hb:aP w w')=>SQ (hB.lt hX) hB.fit (h.keep hb)) (fun v (a:s.d.see 0=some v)=>ajj hX hB a);generalize s.d=d at*;clear h hB hX;go_enter func12,ntmps12
 go_wp2_with(first
  |(at_make;refine aml rfl _ _ rfl rfl rfl ?_;intro w1 P M)
  |(go_at_call 13;refine(qh _ M).mono ?_;rintro e w2 ⟨A,n,c,ms,rfl,D,qa,hn,L⟩)
  |fail)
 have qj:=D.row.len;have E:=P.keep L;have O:=M.trans (L.mono M.size);have Y:w.heap.size<w1:=(P.dN In.mk').2;have qg:=ay L.size;change Hid _ at D qa qj E O Y;clear P M L
 go_loopg [5,6,7,8] n (fun k v5 v6 v7 v8 wr=>∃(i:Nat) (l:List Bool),i+k=n∧v5=i∧Hid (dX boR wr w w 16 16 l)∧Hid (bQ (fun i=>i=w) w2 wr))
 case atStart=>exact⟨0,_,aj,rfl,E,ay (bQ.refl _ _)⟩
 case round=>
  obtain⟨i,l,hi,rfl,HO,p⟩:=hrel;have qk:=p.size
  by_cases ql:i<n
  ·have qw:(i:Int)<(n:Int):=aj
   have qe:=Y.out;have R:=D.dH p (fun j e=>.inl (by rw[e];exact qe));obtain⟨b,o,rfl,q0,q1,q2,W⟩:=aar R ql;have V:=R.dat _ W;have Q:(ms.getD i default).x∈ms.map FiM.x:=FH.2 ⟨_,W,rfl⟩;have qA:=ay R;generalize ms.getD i default=m at*;obtain⟨x,mA,mn,mc,mS⟩:=m;dsimp only at q0 q1 q2 V Q
   by_cases hx:x=0
   ·subst hx
    rw[nm0]at q0
    obtain⟨v,a⟩:∃v,d.see 0=some v:=by
     rw[qa.mem,←Gf]at Q;exact Hu.1 Q
    obtain⟨T,C,-⟩:=V;rw[Aw a]at T C;obtain⟨Z,rc,rm,k1,k2,k3,k4,k5,k6,k7⟩:=qi v a;have qm:v.data.length=mn:=T.len
    have qB:Z.length≤16777216:=by
     have e:=bf List.length k4;rw[xO,mG]at e;have:=Ik Z;omega
    obtain⟨s1,s2,s3⟩:=LV (J:=((mS:Nat):Int)) (j:=mS) T.lb T.cap aj rfl;obtain⟨qo,qC⟩:=aV (fun w' (hw:aP wr w')=>aeo (A:=mA) (n:=mS) (c:=mc) (fun r hr=>(k1 r hr).1) k2 k3 aj k5 w' (by rw[←k4,←C];exact s1.keep hw) (by have:=T.cap;omega)) s2;change Hid _ at k1;clear R W T C a Q k2 k3 k4 k5 k6 k7 qm s1;go_upto_region 7 with(fail)
    obtain⟨f,y⟩:∃f,f=wr.heap.size:=⟨_,rfl⟩;have u:=ay y;go_cut [6,7] (fun v6 v7 wx=>∃B b z,v6=aG B Z b∧v7= aB z∧Hid (dX Wh wx f B Z b Z)∧Hid (Below f wr wx))
    case first=>
     subst y
     go_region_law(first|(go_simp;go_at_call 28;refine(qo _ (aU _ _).drew).mono ?_;rintro e w5 ⟨B,b,rfl,ho,qq⟩)|fail)
     all_goals(go_wp2_with fail;go_meet;exact⟨B,b,_,rfl,rfl,ay ho,ay ((aU _ _).drew.trans qq)⟩)
    case rest=>
     obtain⟨B,rb,z,rfl,rfl,qr,K⟩:=hcut;clear y q0 q1 q2 s2 s3 qk;have qD:w.heap.size<f:=by rw[u];have:=Y.out;have:=qg.out;have:=p.size;omega
     obtain⟨qs,qt⟩:=aV (p.trans (bQ.of_below (by rw[u]at K;exact K))) (HO.keep (by rw[u]at K;exact K));go_wp2_with fail
     go_loopg [8] Z (fun g v8 wy=>∃(k:Nat) (l':List Bool),k+g=Z∧v8=k∧Hid (dX boR wy w w 16 16 l')∧Hid (dX Wh wy f B Z rb Z)∧Hid (bQ (fun i=>i=w) w2 wy))
     case atStart=>exact⟨0,l,aj,rfl,qt,qr,qs⟩
     case round=>
      obtain⟨k,l',hk,rfl,H,G,t⟩:=hrel
      by_cases qf:k<Z
      ·have qy:(k:Int)<(Z.length:Int):=aj
       obtain⟨b',o',rfl,F⟩:=aeH G (aU _ _) qf;have r0:aN wr b' (o'+k*5) (aB (Z.getD k lq).kind):=F 0 _ rfl;have r2:aN wr b' (o'+k*5+2) (aB (Z.getD k lq).num):=F 2 _ rfl;have U:=(k1 (Z.getD k lq) (by rw[dG,fP qf];exact lS _)).2;generalize Z.getD k lq=r at*;obtain⟨rk,rs,rn,qz,qE⟩:=r;dsimp only at r0 r2 U
       by_cases qu:rk=49
       ·subst qu
        obtain⟨h0,qv⟩:=U rfl;obtain⟨q,rfl⟩:∃q:Nat,rn=q:=⟨rn.toNat,aj⟩;have hq:q<16:=aj
        obtain⟨x,m0,m1⟩:=aaw H hq;have qF:(q:Int)<16:=aj
        clear U h0 qv F;go_wp2_with fail;go_roundg(Z.length-k-1)
        case measure=>omega
        case rel=>exact⟨k+1,_,aj,fA,ay (aji H hq true),ay (G.dH ((bQ.refl (fun i=>i=w.heap.size) _).setCell (fun _=>rfl) _) (fun i hi e=>by have:=(G.dN hi).1;omega)),ay (t.setCell (fun _=>rfl) _)⟩
       ·clear U F
        go_wp2_with fail;go_roundg(Z.length-k-1)
        case measure=>omega
        case rel=>exact⟨k+1,l',aj,fA,H,G,t⟩
      ·obtain rfl:k=Z:=aj
       go_wp2_with fail;go_roundg(n-i-1)
       case measure=>omega
       case rel=>exact⟨i+1,l',aj,fA,H,t⟩
   ·have n1:¬(bP x).toList=[106,111,98]:=fun e=>hx (EJ x V.2.2 0 aj (by rw[←Jo,e];rfl))
    have m1:((bP x).toList== [106,111,98])=false:=oO.2 n1;generalize bP x=Bx at*;change Hid _ at hx;clear V R W Q;go_wp2_with fail;go_roundg(n-i-1)
    case measure=>omega
    case rel=>exact⟨i+1,l,aj,fA,HO,p⟩
  ·obtain rfl:i=n:=aj
   go_wp2_with fail;go_ret;have qe:=Y.out;exact⟨_,l,rfl,HO,eH O p O.size (fun j e=>by rw[e];exact bC _)⟩
theorem aeP(w:aK)(C:Ei):∀Y,Below (w.alloc (aS (jC C.qn C.qx C.re C.cu C.go C.ra C.ro C.fi) 23)) (w.alloc (aS (jC C.qn C.qx C.re C.cu C.go C.ra C.ro C.fi) 23)) Y→
  aN Y w 0 (aB C.qn)∧aN Y w 1 (aB C.qx)∧aN Y w 2 (aB C.re)∧aN Y w 3 (aB C.cu)∧aN Y w 4 (aB C.go)∧aN Y w 5 (aB C.ra)∧aN Y w 6 (aB C.ro)∧aN Y w 7 (aB C.fi):=fun Y X=>by
 have Z:=(bF.new w 23 (jC C.qn C.qx C.re C.cu C.go C.ra C.ro C.fi)).keep X;exact⟨Z.at rfl,Z.at rfl,Z.at rfl,Z.at rfl,Z.at rfl,Z.at rfl,Z.at rfl,Z.at rfl⟩
end Go.Proofs.YtiaeohgghaaciaaGreatDoor
