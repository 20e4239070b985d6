import Derived.BigQuiet
import Derived.BigRegion
import Derived.Deep.LoopGhost
import Derived.Deep.QuietTactic
import Derived.Laws.BytesString
import Derived.Laws.IdiomStrings
import Derived.Laws.OwnMore
import Derived.Lib.AppendZeros
import Derived.OneCell
import Derived.Outline
import Derived.OwnWalk
import Derived.Test.YtiaeohgghaaciaaGreatDoorB02
import Derived.Test.YtiaeohgghaaciaaGreatDoorB04
namespace Go.Proofs.YtiaeohgghaaciaaGreatDoor
open Go Go.Maps Go.RowKit Go.Extern.Stop Go.Stop Go.Extern Go.Proofs.Tryz
set_option linter.all false
set_option maxRecDepth 100000
set_option maxHeartbeats 4000000
variable{a:Act}{Q:Exit→Act→World→Prop}{cu fi go ra re ro:Int}{b b' l:List Int}{base c cap g hi i j k lo m n q size x y z:Nat}{S:Nat→Prop}{o:Oper}{A:Option Addr}{E:Prop}{e t:TypeId}{v:Value}{w w' wr:World}
theorem Vf:(prog.info? 5).map (fun i=>(i.zero,i.size,i.bytes))=some (some (.int .u8 0),1,1):=aW
theorem aa9{v l m:Int}(w:aK)(h1:l≤v)(h2:v≤m):Calls prog 109 #[v,l,m] w fun e Z=>e=bM (.bool true)∧w=Z:=by
 go_enter func109,ntmps109;go_wp2;go_ret;exact sD
theorem aeg{v l m:Int}(w:aK)(h:¬(l≤v∧v≤m)):Calls prog 109 #[v,l,m] w fun e Z=>e=bM (.bool false)∧w=Z:=by
 by_cases X:l≤v
 ·have Y:decide (v≤m)=false:=jy
  go_enter func109,ntmps109;go_wp2;go_ret;exact⟨bK,rfl⟩
 ·have Y:v<l:=aj
  go_enter func109,ntmps109;go_wp2;go_ret;exact sD
section
variable{qn qx re cu go ra ro fi:Int}
theorem ahE(h:0≤qn∧qn≤qx∧qx≤15∧0≤re∧re≤7∧0≤cu∧cu≤16320∧1≤go∧go≤16∧8≤ra∧ra≤ro∧ro≤16384∧8≤fi∧fi≤ro):jo qn qx re cu go ra ro fi=true:=by
 simpa[jo]using h
theorem ajP(h:¬(0≤qn∧qn≤qx∧qx≤15∧0≤re∧re≤7∧0≤cu∧cu≤16320∧1≤go∧go≤16∧8≤ra∧ra≤ro∧ro≤16384∧8≤fi∧fi≤ro)):jo qn qx re cu go ra ro fi=false:=by
 unfold jo;exact vH h
theorem aeh(h:jo qn qx re cu go ra ro fi=true):0≤qn∧qn≤qx∧qx≤15∧0≤re∧re≤7∧0≤cu∧cu≤16320∧1≤go∧go≤16∧8≤ra∧ra≤ro∧ro≤16384∧8≤fi∧fi≤ro:=by
 simpa[jo]using h
end
abbrev anM(qn qx re cu go ra ro fi:Int):Obj:=.cells #[aB qn,aB qx,aB re,aB cu,aB go,aB ra,aB ro,aB fi] 23
theorem abb{qn qx:Int}(w:aK):Calls prog 67 #[.agg #[qn,qx,re,cu,go,ra,ro,fi]] w
  fun e Y=>e=bM (.bool (jo qn qx re cu go ra ro fi))∧Below w w Y:=by
 have Z:Below w w (w.alloc (anM qn qx re cu go ra ro fi)):=(aU _ _).alloc (bC _) _;rcases(show¬(0≤qn∧qn≤qx)∨(0≤qn∧qn≤qx∧15<qx)∨(0≤qn∧qn≤qx∧qx≤15) by omega)with V|⟨V,Q,P⟩|⟨V,Q,P⟩
 all_goals rcases(show¬(0≤re∧re≤7)∨(0≤re∧re≤7∧¬(0≤cu∧cu≤16320))∨(0≤re∧re≤7∧0≤cu∧cu≤16320∧¬(1≤go∧go≤16))∨(0≤re∧re≤7∧0≤cu∧cu≤16320∧1≤go∧go≤16) by omega)with X|⟨X,U,T⟩|⟨X,U,T,O,N⟩|⟨X,U,T,O,N,L⟩
 rotate_left 11
 rcases(show¬(8≤ra∧ra≤ro)∨(8≤ra∧ra≤ro∧16384<ro)∨(8≤ra∧ra≤ro∧ro≤16384∧¬(8≤fi∧fi≤ro))∨(8≤ra∧ra≤ro∧ro≤16384∧8≤fi∧fi≤ro) by omega)with W|⟨W,S,R⟩|⟨W,S,R,M⟩|⟨W,S,R,M,K⟩
 all_goals(
  first|rw[ahE aj]|rw[ajP aj]
  go_enter func67,ntmps67
  go_wp2_with(first
   |(go_at_call 109;refine(aa9 _ aj aj).aQ ?_;rintro Y rfl)
   |(go_at_call 109;refine(aeg _ aj).aQ ?_;rintro Y rfl))
  go_ret;exact⟨rfl,Z⟩)
theorem wu{qn qx:Int}(h:jo qn qx re cu go ra ro fi=true)(w:aK):Calls prog 39 #[.agg #[qn,qx,re,cu,go,ra,ro,fi]] w
  fun e Z=>e=bM iI∧Below w w Z:=by
 go_enter func39,ntmps39;go_wp2_with(go_at_call 67;refine(abb _).aQ ?_;rintro Z Y);go_ret;exact⟨rfl,((aU _ _).alloc (bC _) _).trans (Y.mono bK)⟩
theorem Oj{qn qx:Int}(h:jo qn qx re cu go ra ro fi=false)(w:aK):Calls prog 39 #[.agg #[qn,qx,re,cu,go,ra,ro,fi]] w
  fun e Z=>e=bM (.iface 48 (aB 11))∧Below w w Z:=by
 go_enter func39,ntmps39;go_wp2_with(go_at_call 67;refine(abb _).aQ ?_;rintro Z Y);go_ret;exact⟨rfl,((aU _ _).alloc (bC _) _).trans (Y.mono bK)⟩
theorem afy{qn qx:Int}(h:jo qn qx re cu go ra ro fi=false)(w:aK):
  Calls prog 222 #[.agg #[qn,qx,re,cu,go,ra,ro,fi],aG A l c] w
  fun e Z=>e=bM (.iface 48 (aB 11))∧Below w w Z:=by
 have H:=ay h;go_enter func222,ntmps222;go_wp2_with(go_at_call 39;refine(Oj H _).aQ ?_;rintro Z Y);go_ret;exact⟨rfl,((aU _ _).alloc (bC _) _).trans (Y.mono bK)⟩
theorem XF(h:¬l.length≤4096):uY l=false:=by simp[uY,h]
theorem afz(Z:j<l)(h:¬(0≤l[j]∧l[j]≤1073741824)):uY l=false:=by simp[uY,EX Z h]
theorem ac5(h1:l.length≤4096)(h:∀n∈l,0≤n∧n≤1073741824):uY l=true:=by simp[uY,h1,(oG _ _ _).2 h]
theorem afA(h:uY l=true):l.length≤4096∧∀n∈l,0≤n∧n≤1073741824:=by
 simp only[uY,jU,oQ,oG]at h;exact h
def Nw(l:aO):cO:=if uY l then iI else .iface 48 (aB 3)
theorem TK{qn qx:Int}(I:l.length≤9223372036854775807)(h:jo qn qx re cu go ra ro fi=true)(w:aK)(L:yK .i64 w A l):
  Calls prog 222 #[.agg #[qn,qx,re,cu,go,ra,ro,fi],aG A l c] w
  fun e W=>e=bM (Nw l)∧Below w w W:=by
 obtain⟨H,K⟩:=aV h L
 by_cases Z:l.length≤4096
 ·go_enter func222,ntmps222
  go_wp2_with(go_at_call 39;refine(wu H _).aQ ?_;rintro W T);have Y:=((aU _ _).alloc (bC _) _).trans (T.mono bK)
  go_loopg [7,19] l (fun k v i wr=>∃j:Nat,j+k=l∧i=j∧wr=W∧∀n∈l.take j,0≤n∧n≤1073741824)
  case atStart=>exact⟨0,aj,rfl,rfl,bK⟩
  case round=>
   obtain⟨j,G,rfl,rfl,R⟩:=hrel;have N:=ay R
   by_cases X:j<l
   ·obtain⟨b2,F,rfl,E⟩:=(K.keep Y).at_ X
    have M:(j:Int)<(l.length:Int):=aj
    by_cases S:0≤l[j]∧l[j]≤1073741824
    ·obtain⟨Q,P⟩:=S
     go_wp2_with(go_at_call 109;refine(aa9 _ aj aj).aQ ?_;rintro W rfl);go_roundg(gk-1)
     case measure=>omega
     case rel=>
      refine⟨j+1,aj,fA,rfl,fun n U=>?_⟩;rw[BH X]at U;rcases rH.1 U with h|h
      ·exact N n h
      ·simp at h;subst h;exact⟨Q,P⟩
    ·have V:=ay (afz X S)
     have O:¬(0≤l[j]∧l[j]≤1073741824):=S;have J:=ay O;go_wp2_with(go_at_call 109;refine(aeg _ J).aQ ?_;rintro W rfl);go_ret;exact⟨by rw[Nw,V.out];rfl,Y⟩
   ·have V:=ay (ac5 Z (fun n U=>N n (by rw[wO aj];exact U)))
    go_wp2;go_ret;exact⟨by rw[Nw,V.out];rfl,Y⟩
 ·have V:=ay (XF Z)
  go_enter func222,ntmps222;go_wp2_with(go_at_call 39;refine(wu H _).aQ ?_;rintro W T);go_ret;exact⟨by rw[Nw,V.out];rfl,((aU _ _).alloc (bC _) _).trans (T.mono bK)⟩
abbrev Er:=List (ByteArray × Int)× Int
abbrev alK:ByteArray:=⟨#[118,98,118]⟩
def anN(w:aK)(r:Except Er aO)(e:Ending)(w':aK):Prop:=
 match r with
 | .ok l=>∃A c,e= .returned (.tuple #[.slice A l.length c,.nilIface])∧yK .i64 w' A l∧Below w.heap.size w w'
 | .error (p,c)=>∃v,e= .returned (.tuple #[.slice none 0 0,v])∧ErrAt w' p (.iface 48 (.int .i64 c)) v∧Below w.heap.size w w'
def Zu(Y Z:Bool)(f:Except (Nat × Int) aO):Except Er aO:=
 if Y then if Z then(match f with| .ok l=>.ok l| .error (i,c)=>.error ([(alK,(i:Int))],c))else .error ([],3)else .error ([],11)
theorem VI{f:Except (Nat × Int) aO}(h:f= .ok l):Zu true true f= .ok l:=by subst h;rfl
theorem abd{f:Except (Nat × Int) aO}{c:Int}(h:f= .error (i,c)):Zu true true f= .error ([(alK,(i:Int))],c):=by subst h;rfl
def Ol(w:aK)(r:Except Er aO)(e:Ending)(w':aK):Prop:=
 match r with
 | .ok l=>∃A c,(l.length≤c∧∀p,A=some p→w.heap.size≤p.block)∧e= .returned (.tuple #[.slice A l.length c,.nilIface])∧yK .i64 w' A l∧Below w.heap.size w w'
 | .error (p,c)=>∃v,e= .returned (.tuple #[.slice none 0 0,v])∧ErrAt w' p (.iface 48 (.int .i64 c)) v∧Below w.heap.size w w'
theorem Ae{r:Except Er aO}{p:List (ByteArray × Int)}{c:Int}(h:r= .error (p,c))(Z:ErrAt w' p (.iface 48 c) v)(Y:Below w w w'):
  Ol w r (bM (eP #[bU,v])) w':=by subst h;exact⟨v,rfl,Z,Y⟩
theorem VJ{r:Except Er aO}(h:r= .ok l)(Z:n=l)(Y:yK .i64 w' A l)(X:Below w w w')(W:n≤c∧∀p,A=some p→w≤p.block):
  Ol w r (bM (eP #[aG A n c,iI])) w':=by subst h;subst Z;exact⟨A,c,W,rfl,Y,X⟩
theorem aei{B:Nat}{Y:List cO}(h:w.ownsRow base e size (aG A n c) n Y)(V:B≤base):n≤c∧∀p,A=some p→B≤p.block:=by
 refine⟨?_,?_⟩
 ·rcases h.2 with⟨Z,U⟩|⟨T,X,W,Z,_,_,S,_⟩
  ·omega
  ·injection Z with _ _ R;omega
 ·rintro p rfl
  have:=(h.lt p.block rfl).1;omega
theorem afB{qn qx:Int}(h:l.length≤9223372036854775807)(w:aK)(ha:yK .i64 w A l):
  Calls prog 156 #[.agg #[qn,qx,re,cu,go,ra,ro,fi],aG A l c] w
   (Ol w (Zu (jo qn qx re cu go ra ro fi) (uY l) (iY ra ro 0 fi l))):=by
 obtain⟨f,d,L,K,J⟩:=iq Ij;have D:=ay ha;cases R:jo qn qx re cu go ra ro fi with
 |false=>
  have H:=ay R;go_enter func156,ntmps156;go_wp2_with(go_at_call 222;refine(afy H _).aQ ?_;rintro C M);go_ret2;exact Ae rfl rfl (((aU _ _).alloc (bC _) _).trans (M.mono bK))
 |true=>
  have hm:=aeh R;have H:=ay R;cases N:uY l with
  |false=>
   have B:=ay (show Nw l= .iface 48 (aB 3) by simp[Nw,N]);go_enter func156,ntmps156;go_wp2_with(go_at_call 222;refine(TK h H _ (D.alloc _)).mono ?_;rw[B];rintro e C ⟨rfl,M⟩);go_ret2;exact Ae rfl rfl (((aU _ _).alloc (bC _) _).trans (M.mono bK))
  |true=>
   have b:=afA N;obtain⟨B,HS⟩:=aV (show Nw l=iI by simp[Nw,N]) b.2;have qf:=b.1;obtain⟨_,_,_,_,_,_,_,_,_,qg,qh,qi,qj,qk⟩:=hm;go_enter func156,ntmps156;go_wp2_with(go_at_call 222;refine(TK h H _ (D.alloc _)).mono ?_;rw[B];rintro e C ⟨rfl,M⟩;have X:=(bF.new w 23 #[qn,qx,re,cu,go,ra,ro,fi]).keep M;have ql:C.cell? (aH w 7)=some (aB fi):=X.at rfl);have r:=((aU _ _).alloc (bC _) _).trans (M.mono bK)
   go_loopg [7,8,21] l (fun k vh lv vi wr=>∃(j:Nat) (H:Int) (V:aO),j+k=l∧vi=j∧vh=H∧0≤H∧H≤ro∧Hid (H=fV ra ro fi (l.take j)∧iY ra ro 0 fi (l.take j)= .ok V)∧
    wr.ownsRow (w.heap.size+1) 3 1 lv V (V.map (Value.int .i64))∧bF wr w 23 #[qn,qx,re,cu,go,ra,ro,fi]∧Below w w wr)
   case atStart=>exact⟨0,fi,[],aj,rfl,rfl,aj,aj,sD,iM _ _ _ _,X,r⟩
   case round=>
    obtain⟨j,H,V,hj,rfl,rfl,qm,qo,O,Z,X,W⟩:=hrel;have qq:=X.c5;have qr:=X.c6
    by_cases S:j<l
    ·obtain⟨b2,o2,rfl,k2⟩:=(D.keep W).at_ S
     have qa:(j:Int)<(l.length:Int):=aj
     obtain⟨q,o⟩:=HS l[j] (lS S);obtain⟨x,a⟩:∃x,l[j]=x:=⟨_,rfl⟩;rw[a]at k2 q o;have P:=ay a
     by_cases hd:x≤H
     ·have qe:V.length≤4096:=by have:=CV O.2;rw[this,xO];omega
      obtain⟨U,I⟩:=aV (U7 S O.2 (by have:=O.1;have:=P.out;omega)) (show fV ra ro fi (l.take (j+1))=min (H+ra-x) ro by rw[Ba l j S,Um,←O.1,P.out]);rw[←O.1,P.out]at U;obtain⟨A8,c8,rfl⟩:=IK Z;have qs:w.heap.size+1≤wr.heap.size:=X.lt
      by_cases qt:H+(ra-x)-ro<0
      ·go_wp2_with(at_builtin;refine iy _ rfl (.tmp 38) (.tmp 44) _ rfl (w.heap.size+1) 3 f _ 1 8 underlying34 d L K J rfl aj (aG A8 V c8) V _ rfl (Z.alloc _) (aH wr 0) 1 1 [aB 0] rfl rfl (fH (cs:=#[aB 0]) (t:=3) (fr:=(0,0)) (lV wr _)) (by simp[Value.oneCell']) aj (by unfold maxLen;omega) aj jy _ rfl ?_;intro g n z T Y m G;have F:z.cell? (aH w 6)=some (aB ro):=((X.alloc _).grown Y (jP (dP Z X bn))).at rfl)
       have Q:=(X.alloc (aS #[aB 0] 3)).grown Y (jP (dP Z X bn));obtain⟨y,u⟩:=aV T Y;go_roundg(gk-1)
       case measure=>omega
       case rel=>
        refine⟨j+1,H+(ra-x),V++ [0],aj,fA,rfl,aj,aj,⟨?_,?_⟩,?_,Q,?_⟩
        ·rw[I.out];omega
        ·rw[U.out];simp;omega
        ·simpa using y.out
        ·exact(W.alloc W.size _).grown u jy (fun k s=>by have:=(Z.lt k s).1;omega)
      ·go_wp2_with(at_builtin;refine iy _ rfl (.tmp 38) (.tmp 44) _ rfl (w.heap.size+1) 3 f _ 1 8 underlying34 d L K J rfl aj (aG A8 V c8) V _ rfl (Z.alloc _) (aH wr 0) 1 1 [aB (H+(ra-x)-ro)] rfl rfl (fH (cs:=#[aB (H+(ra-x)-ro)]) (t:=3) (fr:=(0,0)) (lV wr _)) (by simp[Value.oneCell']) aj (by unfold maxLen;omega) aj jy _ rfl ?_;intro g n z T Y m G;have F:z.cell? (aH w 6)=some (aB ro):=((X.alloc _).grown Y (jP (dP Z X bn))).at rfl)
       all_goals(
        have Q:=(X.alloc (aS #[aB (H+(ra-x)-ro)] 3)).grown Y (jP (dP Z X bn));obtain⟨y,u⟩:=aV T Y;go_roundg(gk-1)
        case measure=>omega
        case rel=>
         refine⟨j+1,ro,V++ [H+(ra-x)-ro],aj,fA,fA,aj,aj,⟨?_,?_⟩,?_,Q,?_⟩
         ·rw[I.out];omega
         ·rw[U.out];simp;omega
         ·simpa using y.out
         ·exact(W.alloc W.size _).grown u jy (fun k s=>by have:=(Z.lt k s).1;omega))
     ·have qu:H<x:=aj
      have E:=ay (Xm S O.2 (by have:=O.1;have:=P.out;omega));go_wp2_with(go_at_call 49;refine(xI _ _ _ _ _).aQ ?_;rintro w2 ⟨hB,i⟩);go_ret2;exact Ae (p:=[(alK,(j:Int))]) (v:=.iface 167 (aY wr)) (abd E.out) ⟨_,_,rfl,hB,rfl⟩ (W.trans (i.mono W.size))
    ·go_wp2
     have ht:l.take j=l:=wO aj;obtain⟨A2,c2,rfl⟩:=IK Z;have h2:=O.2;rw[ht]at h2;go_ret2;exact VJ (VI h2) rfl (yK.ER Z).1 W (aei Z aj)
def DJ(l:aO):Bool:=decide (1≤l.length)&&decide (l.length≤16)&&sH 1 16777216 l
def Ic(ra ro fi:Int)(l:aO):aO:=nD (fi+((l.length:Int)-1)*ra) (rU l) ra ro fi l
def Yo(Z:Bool)(ra ro fi:Int)(l:aO):Except Er aO:=
 if Z then if DJ l then .ok (Ic ra ro fi l)else .error ([],3)else .error ([],11)
theorem Uw(h:¬(1≤l.length∧l.length≤16)):DJ l=false:=by
 unfold DJ
 by_cases Y:1≤l.length
 ·have Z:¬l.length≤16:=fun Z=>h ⟨Y,Z⟩
  simp[Z]
 ·simp[Y]
theorem TN(Z:j<l)(h:¬(1≤l[j]∧l[j]≤16777216)):DJ l=false:=by simp[DJ,EX Z h]
theorem QG(h1:1≤l.length)(h2:l.length≤16)(h:∀n∈l,1≤n∧n≤16777216):DJ l=true:=by simp[DJ,h1,h2,(oG _ _ _).2 h]
theorem QI(h:DJ l=false):Yo true ra ro fi l= .error ([],3):=by simp[Yo,h]
theorem Yp(h:DJ l=true):Yo true ra ro fi l= .ok (Ic ra ro fi l):=by simp[Yo,h]
theorem QJ(Z:l.length≤16)(h:∀n∈l.take j,1≤n∧n≤16777216):0≤rU (l.take j)∧rU (l.take j)≤268435456∧((l.take j).length:Int)≤rU (l.take j):=by
 have:=aaD (l.take j) h;have Y:(l.take j).length≤16:=by rw[xO];omega
 omega
theorem ahF{a b A B:Int}(h0:0≤a)(h1:a≤A)(h2:0≤b)(Z:b≤B):0≤a*b∧a*b≤A*B:=
 ⟨pI h0 h2,Int.mul_le_mul h1 Z h2 aj⟩
theorem ahG{qn qx:Int}(hl:l.length≤9223372036854775807)(w:aK)(ha:yK .i64 w A l):
  Calls prog 102 #[.agg #[qn,qx,re,cu,go,ra,ro,fi],aG A l c] w
   (Ol w (Yo (jo qn qx re cu go ra ro fi) ra ro fi l)):=by
 obtain⟨i0,hi,r,o,m⟩:=iq Ij;have HA:=ay ha;clear ha;cases K:jo qn qx re cu go ra ro fi with
 |false=>
  have H:=ay K;clear K;go_enter func102,ntmps102;go_wp2_with(go_at_call 39;refine(Oj H _).aQ ?_;rintro w' s);go_ret2;exact Ae (p:=[]) (c:=11) rfl rfl (((aU _ _).alloc (bC _) _).trans (s.mono bK))
 |true=>
  have hm:=aeh K;have H:=ay K;clear K;obtain⟨_,_,_,_,_,_,_,_,_,qL,qM,qN,qO,qP⟩:=hm
  by_cases I:1≤l.length∧l.length≤16
  ·obtain⟨qw,qa⟩:=I
   have qJ:((l.length:Int)==0)=false:=by rw[oO];omega
   go_enter func102,ntmps102;go_wp2_with(go_at_call 39;refine(wu H _).aQ ?_;rintro w' s);have U:=(bF.new w 23 #[qn,qx,re,cu,go,ra,ro,fi]).keep s;have E:=((aU _ _).alloc (bC _) _).trans (s.mono bK);have qj:=U.lt;obtain⟨-,-,-,-,-,qk,ql,qy⟩:=U.s8
   go_loopg [8,33] l (fun k vs vi wr=>∃(j:Nat) (S:Int),j+k=l∧vi=j∧vs=S∧0≤S∧S≤268435456∧Hid (S=rU (l.take j))∧Hid (∀n∈l.take j,1≤n∧n≤16777216)∧wr=w')
   case atStart=>exact⟨0,0,aj,rfl,rfl,aj,aj,rfl,fun n hn=>by simp at hn,rfl⟩
   case round=>
    obtain⟨j,S,hj,rfl,rfl,qQ,qR,hS,qe,rfl⟩:=hrel
    by_cases Q:j<l
    ·obtain⟨b2,o2,rfl,k2⟩:=(HA.keep E).at_ Q
     have qt:(j:Int)<(l.length:Int):=aj
     obtain⟨x,u⟩:∃x,l[j]=x:=⟨_,rfl⟩;rw[u]at k2;change Hid _ at u;rcases(aj:x<1∨(1≤x∧16777216<x)∨(1≤x∧x≤16777216))with d|⟨d,h2⟩|⟨d,h2⟩
     ·have O:=ay (TN Q (by rw[u.out];omega))
      go_wp2_with fail;go_ret2;exact Ae (p:=[]) (c:=3) (QI O.out) rfl E
     ·have O:=ay (TN Q (by rw[u.out];omega))
      go_wp2_with fail;go_ret2;exact Ae (p:=[]) (c:=3) (QI O.out) rfl E
     ·go_wp2_with fail
      have i:Hid (∀n∈l.take (j+1),1≤n∧n≤16777216):=fun n hn=>by
       rw[BH Q]at hn;rcases rH.1 hn with h|h
       ·exact qe.out n h
       ·simp at h;subst h;rw[u.out];exact⟨d,h2⟩
      have qu:S+x=rU (l.take (j+1)):=by rw[Xn l j Q,←hS.out,u.out]
      have qS:=QJ qa i.out;go_roundg(gk-1)
      case measure=>omega
      case rel=>exact⟨j+1,S+x,aj,fA,rfl,aj,aj,qu,i,rfl⟩
    ·have ht:l.take j=l:=wO aj
     have qm:Hid (S=rU l):=by rw[←ht];exact hS
     have HI:Hid (∀n∈l,1≤n∧n≤16777216):=by rw[←ht];exact qe
     have qT:1≤S:=by
      have:=QJ (j:=l.length) qa (by rw[uM];exact HI);rw[uM,←qm.out]at this;omega
     clear ht qe hS;have hM:=ahF (a:=(l.length:Int)-1) (b:=ra) (A:=15) (B:=16384) aj aj aj aj;obtain⟨M,qf⟩:∃M,((l.length:Int)-1)*ra=M:=⟨_,rfl⟩;obtain⟨T,qo⟩:∃T,fi+M=T:=⟨_,rfl⟩;have qz:=ay (show T=fi+((l.length:Int)-1)*ra by rw[qf,qo]);rw[qf]at hM;obtain⟨qA,qB⟩:=hM;have qC:0≤T:=aj
     have qD:T≤262144:=aj
     go_wp2_with fail
     go_quiet(fail)
     have qq:=jM E nq;have f:=ay (U.drewN nq);generalize wr.drewN nq=wq at*;clear qf qo qk ql qy U s E qj qA qB;go_wp2_with fail
     go_loopg [12,13,60] l (fun k vh lv vi wr=>∃(j:Nat) (H:Int) (V:aO),j+k=l∧vi=j∧vh= aB H∧8≤H∧H≤ro∧Hid (H=ni T S ra ro fi (l.take j))∧Hid (V=nD T S ra ro fi (l.take j))∧
      wr.ownsRow (w.heap.size+1) 3 1 lv V (V.map (Value.int .i64))∧bF wr w 23 #[qn,qx,re,cu,go,ra,ro,fi]∧Below w w wr)
     case atStart=>exact⟨0,fi,[],aj,rfl,rfl,aj,aj,rfl,rfl,iM _ _ _ _,f.out,qq⟩
     case round=>
      clear Q hj qq f;obtain⟨j,P,V,hj,rfl,rfl,qU,qV,hH,qg,Y,U,R⟩:=hrel;have qk:=U.c5;have ql:=U.c6;have qj:w.heap.size+1≤wr.heap.size:=U.lt;have qI:V.length≤16:=by rw[qg.out,wE,xO];omega
      obtain⟨A8,c8,rfl⟩:=IK Y
      by_cases Q:j<l
      ·obtain⟨b2,o2,rfl,k2⟩:=(HA.keep R).at_ Q
       have qt:(j:Int)<(l.length:Int):=aj
       obtain⟨x,u⟩:∃x,l[j]=x:=⟨_,rfl⟩;obtain⟨qE,qr⟩:=HI l[j] (lS Q);rw[u]at k2 qE qr;have qs:=ay u;clear u;obtain⟨e,qK⟩:=ahF (a:=T) (b:=x) (A:=262144) (B:=16777216) qC qD aj qr;have qF:0≤T*x/S:=kJ e aj;have qG:T*x/S≤T*x:=uK _ e;obtain⟨q,qh⟩:∃q,T*x/S=q:=⟨_,rfl⟩;rw[qh]at qF qG
       have N:=ay (show nD T S ra ro fi (l.take (j+1))=V++ [max 8 (min q P)] by
        rw[Ba l j Q,YU,←qg.out,←hH.out,qs.out];simp only[nD,qh])
       have L:=ay (show ni T S ra ro fi (l.take (j+1))=min ro (P-max 8 (min q P)+ra) by
        rw[Ba l j Q,Un,←hH.out,qs.out,qh])
       obtain⟨y,hy⟩:∃y,y=max 8 (min q P):=⟨_,rfl⟩;rw[←hy]at N L;rcases(show(P<q∧8<P∧y=P)∨(P<q∧P≤8∧y=8)∨(q≤P∧8<q∧y=q)∨(q≤P∧q≤8∧y=8) by omega)with⟨d,h2,G⟩|⟨d,h2,G⟩|⟨d,h2,G⟩|⟨d,h2,G⟩
       ·rw[G]at N L
        clear hy G;go_wp2_with(at_builtin;refine iy _ rfl (.tmp 72) (.tmp 74) _ rfl (w.heap.size+1) 3 i0 _ 1 8 underlying34 hi r o m rfl aj (aG A8 V c8) V _ rfl (Y.alloc _) (aH wr 0) 1 1 [(P)] rfl rfl (fH (cs:=#[(P)]) (t:=3) (fr:=(0,0)) (lV wr _)) (by simp[Value.oneCell']) aj (by unfold maxLen;omega) aj jy _ rfl ?_;intro g qi F W Z J D;have X:=(U.alloc (aS #[(P)] 3)).grown Z (jP (dP Y U bn));have C:F.cell? (aH w 5)=some (aB ra):=(X.at rfl);have z:F.cell? (aH w 6)=some (aB ro):=(X.at rfl))
        all_goals(
         obtain⟨HO,HW⟩:=aV W Z;clear W Z J;go_roundg(gk-1)
         case measure=>omega
         case rel=>
          refine⟨j+1,min ro (P-(P)+ra),V++ [P],aj,fA,fA,aj,aj,L.out.symm,N.out.symm,?_,X,?_⟩
          ·simpa using HO.out
          ·exact(R.alloc R.size _).grown HW jy (fun k hk=>by have:=(Y.lt k hk).1;omega))
       ·rw[G]at N L
        clear hy G;go_wp2_with(at_builtin;refine iy _ rfl (.tmp 72) (.tmp 74) _ rfl (w.heap.size+1) 3 i0 _ 1 8 underlying34 hi r o m rfl aj (aG A8 V c8) V _ rfl (Y.alloc _) (aH wr 0) 1 1 [aB (8)] rfl rfl (fH (cs:=#[aB (8)]) (t:=3) (fr:=(0,0)) (lV wr _)) (by simp[Value.oneCell']) aj (by unfold maxLen;omega) aj jy _ rfl ?_;intro g qi F W Z J D;have X:=(U.alloc (aS #[aB (8)] 3)).grown Z (jP (dP Y U bn));have C:F.cell? (aH w 5)=some (aB ra):=(X.at rfl);have z:F.cell? (aH w 6)=some (aB ro):=(X.at rfl))
        all_goals(
         obtain⟨HO,HW⟩:=aV W Z;clear W Z J;go_roundg(gk-1)
         case measure=>omega
         case rel=>
          refine⟨j+1,min ro (P-(8)+ra),V++ [8],aj,fA,fA,aj,aj,L.out.symm,N.out.symm,?_,X,?_⟩
          ·simpa using HO.out
          ·exact(R.alloc R.size _).grown HW jy (fun k hk=>by have:=(Y.lt k hk).1;omega))
       ·rw[G]at N L
        clear hy G;go_wp2_with(at_builtin;refine iy _ rfl (.tmp 72) (.tmp 74) _ rfl (w.heap.size+1) 3 i0 _ 1 8 underlying34 hi r o m rfl aj (aG A8 V c8) V _ rfl (Y.alloc _) (aH wr 0) 1 1 [(q)] rfl rfl (fH (cs:=#[(q)]) (t:=3) (fr:=(0,0)) (lV wr _)) (by simp[Value.oneCell']) aj (by unfold maxLen;omega) aj jy _ rfl ?_;intro g qi F W Z J D;have X:=(U.alloc (aS #[(q)] 3)).grown Z (jP (dP Y U bn));have C:F.cell? (aH w 5)=some (aB ra):=(X.at rfl);have z:F.cell? (aH w 6)=some (aB ro):=(X.at rfl))
        all_goals(
         obtain⟨HO,HW⟩:=aV W Z;clear W Z J;go_roundg(gk-1)
         case measure=>omega
         case rel=>
          refine⟨j+1,min ro (P-(q)+ra),V++ [q],aj,fA,fA,aj,aj,L.out.symm,N.out.symm,?_,X,?_⟩
          ·simpa using HO.out
          ·exact(R.alloc R.size _).grown HW jy (fun k hk=>by have:=(Y.lt k hk).1;omega))
       ·rw[G]at N L
        clear hy G;go_wp2_with(at_builtin;refine iy _ rfl (.tmp 72) (.tmp 74) _ rfl (w.heap.size+1) 3 i0 _ 1 8 underlying34 hi r o m rfl aj (aG A8 V c8) V _ rfl (Y.alloc _) (aH wr 0) 1 1 [aB (8)] rfl rfl (fH (cs:=#[aB (8)]) (t:=3) (fr:=(0,0)) (lV wr _)) (by simp[Value.oneCell']) aj (by unfold maxLen;omega) aj jy _ rfl ?_;intro g qi F W Z J D;have X:=(U.alloc (aS #[aB (8)] 3)).grown Z (jP (dP Y U bn));have C:F.cell? (aH w 5)=some (aB ra):=(X.at rfl);have z:F.cell? (aH w 6)=some (aB ro):=(X.at rfl))
        all_goals(
         obtain⟨HO,HW⟩:=aV W Z;clear W Z J;go_roundg(gk-1)
         case measure=>omega
         case rel=>
          refine⟨j+1,min ro (P-(8)+ra),V++ [8],aj,fA,fA,aj,aj,L.out.symm,N.out.symm,?_,X,?_⟩
          ·simpa using HO.out
          ·exact(R.alloc R.size _).grown HW jy (fun k hk=>by have:=(Y.lt k hk).1;omega))
      ·go_wp2_with fail
       have ht:l.take j=l:=wO aj;have hw:DJ l=true:=QG qw qa HI;have qv:Ic ra ro fi l=V:=by rw[qg.out,ht,qz,qm.out];rfl
       go_ret2;exact VJ (by rw[Yp hw,qv]) rfl (yK.ER Y).1 R (aei Y aj)
  ·have O:=ay (Uw I)
   have v:¬(1≤l.length∧l.length≤16):=I;clear I
   by_cases h0:l.length=0
   ·have qH:((l.length:Int)==0)=true:=by rw[beq_iff_eq];omega
    have H0:=ay h0;clear h0 v;go_enter func102,ntmps102;go_wp2_with(go_at_call 39;refine(wu H _).aQ ?_;rintro w' s);go_ret2;exact Ae (p:=[]) (c:=3) (QI O.out) rfl (((aU _ _).alloc (bC _) _).trans (s.mono bK))
   ·have qH:((l.length:Int)==0)=false:=by rw[oO];omega
    have qW:16<l.length:=aj
    clear h0 v;go_enter func102,ntmps102;go_wp2_with(go_at_call 39;refine(wu H _).aQ ?_;rintro w' s);go_ret2;exact Ae (p:=[]) (c:=3) (QI O.out) rfl (((aU _ _).alloc (bC _) _).trans (s.mono bK))
theorem getD_at{L:aO}(h:i<L):L.getD i 0=L[i]:=by rw[dG,fP h];rfl
theorem VK(L:aO)(w:Nat):So.guess L w 0=128:=by unfold So.guess;rw[aF rfl]
theorem Yq{L:aO}{w:Nat}(h0:0<i)(h1:i<w):So.guess L w i=L.getD (i-1) 0:=by
 unfold So.guess;rw[au aj,aF h1]
theorem Yr{L:aO}{w:Nat}(Z:1≤w)(hy:0<y):So.guess L w (y*w)=L.getD (y*w-w) 0:=by
 have Y:w≤y*w:=lJ w hy;unfold So.guess;rw[au aj,au aj,aF (Nat.mul_mod_left y w)]
theorem Yt{L:aO}{w:Nat}(hy:0<y)(Z:0<x)(hx:x<w):
  So.guess L w (y*w+x)=So.clip (L.getD (y*w+x-1) 0+L.getD (y*w+x-w) 0-L.getD (y*w+x-w-1) 0):=by
 have Y:w≤y*w:=lJ w hy;have X:(y*w+x)%w=x:=by rw[Nat.mul_comm,Nat.mul_add_mod,kT hx]
 unfold So.guess;rw[au aj,au aj,au aj]
theorem afC{L:aO}{w:Nat}(K:1≤w)(hx:x<w)(hi:y*w+x≤L)(hL:L.length≤1000000)(J:∀v∈L,0≤v∧v≤255)(qa:w≤1000000)(qe:y≤1000000)(W:aK)(t:yK .i64 W A L):
  Calls prog 206 #[aG A L c,w,x,y] W fun e I=>e=bM (So.guess L w (y*w+x))∧∃n,I=W.drewN n:=by
 obtain⟨P,X⟩:∃P:Nat,y*w=P:=⟨_,rfl⟩;have qf:(y:Int)*(w:Int)=(P:Int):=by rw[←X];simp
 rw[X]at hi;have T:=ay t;rcases D8 y with U|U
 ·have S:P=0:=by rw[←X,U];simp
  have V:So.guess L w (y*w+x)=So.guess L w x:=by rw[X,S];simp
  rw[V];subst S;subst U;rcases D8 x with Z|Z
  ·subst Z
   have Y:=ay (VK L w);go_enter func206,ntmps206;go_wp2;go_ret;exact⟨by rw[Y.out];rfl,0,rfl⟩
  ·have Y:=ay ((Yq (L:=L) Z hx).trans (getD_at aj))
   obtain⟨b2,N,rfl,H⟩:=T.at_ (i:=x-1) aj;have s:((x:Int)-1).toNat=x-1:=aj
   have qg:¬(x:Int)=0:=aj
   go_enter func206,ntmps206;go_wp2;go_ret;exact⟨by rw[Y.out];rfl,0,rfl⟩
 ·have qh:w≤P:=by rw[←X];exact lJ w U
  rcases D8 x with Z|Z
  ·have E:P-w<L:=aj
   have V:So.guess L w (y*w+x)=L[P-w]:=by
    have r:y*w+x=y*w:=aj
    exact(bf (So.guess L w) r).trans ((Yr K U).trans ((bf (fun k=>L.getD (k-w) 0) X).trans (getD_at E)))
   have Y:=ay V;subst Z;obtain⟨b2,N,rfl,H⟩:=T.at_ (i:=P-w) aj;have s:((P:Int)-(w:Int)).toNat=P-w:=aj
   have qi:(((P:Int)+0)==0)=false:=by have:¬((P:Int)+0)=0:=by omega
                                      simpa using this
   have qj:((P:Int)==0)=false:=by have:¬(P:Int)=0:=by omega
                                  simpa using this
   go_enter func206,ntmps206;go_wp2;go_ret;exact⟨by rw[Y.out];rfl,0,rfl⟩
  ·have Y:=ay ((Yt (L:=L) U Z hx).trans (by rw[X,getD_at (i:=P+x-1) aj,getD_at (i:=P+x-w) aj,getD_at (i:=P+x-w-1) aj]))
   obtain⟨b2,N,rfl,q⟩:=T.at_ (i:=P+x-1) aj;obtain⟨p,o,D,H⟩:=T.at_ (i:=P+x-w) aj;obtain⟨b4,l,C,j⟩:=T.at_ (i:=P+x-w-1) aj;obtain⟨rfl,rfl⟩:b2=p∧N=o:=by injection D with h;injection h with G F;exact⟨G,F⟩
   obtain⟨rfl,rfl⟩:b2=b4∧N=l:=by injection C with h;injection h with G F;exact⟨G,F⟩
   have B:=J _ (lS (aj:P+x-1<L.length));have z:=J _ (lS (aj:P+x-w<L));have u:=J _ (lS (aj:P+x-w-1<L.length));obtain⟨a,R⟩:∃a,L[P+x-1]=a:=⟨_,rfl⟩;obtain⟨b,Q⟩:∃b,L[P+x-w]=b:=⟨_,rfl⟩;obtain⟨M,O⟩:∃M,L[P+x-w-1]=M:=⟨_,rfl⟩;rw[R,Q,O]at Y;rw[R]at B q;rw[Q]at z H;rw[O]at u j;have g:∀n,Calls prog 208 #[aB (a+b-M)] (W.drewN n) fun e I=>e=bM (So.clip (a+b-M))∧∃m,I=W.drewN m:=fun n=>(MV _ _).mono fun _ _ ⟨f,K⟩=>⟨f,n,K.symm⟩
   have d:=ay g;go_enter func206,ntmps206;go_wp2
   go_quiet(exact d _)
   go_wp2;go_ret;exact⟨by rw[Y.out];rfl,nq,rfl⟩
theorem ac8{L:aO}{w:Nat}(K:1≤w)(hx:x<w)(hi:y*w+x≤L)(hL:L.length≤1000000)(J:∀v∈L,0≤v∧v≤255)(qa:w≤1000000)(qe:y≤1000000)(W:aK)(s:yK .i64 W A L):
  Calls prog 112 #[aG A L c,w,x,y] W fun e I=>e=bM (So.guess L w (y*w+x))∧∃n,I=W.drewN n:=by
 obtain⟨P,X⟩:∃P:Nat,y*w=P:=⟨_,rfl⟩;have E:(y:Int)*(w:Int)=(P:Int):=by rw[←X];simp
 rw[X]at hi;have T:=ay s;rcases D8 y with U|U
 ·have S:P=0:=by rw[←X,U];simp
  have V:So.guess L w (y*w+x)=So.guess L w x:=by rw[X,S];simp
  rw[V];subst S;subst U;rcases D8 x with Z|Z
  ·subst Z
   have Y:=ay (VK L w);go_enter func112,ntmps112;go_wp2;go_ret;exact⟨by rw[Y.out];rfl,0,rfl⟩
  ·have Y:=ay ((Yq (L:=L) Z hx).trans (getD_at aj))
   obtain⟨b2,N,rfl,H⟩:=T.at_ (i:=x-1) aj;have r:((x:Int)-1).toNat=x-1:=aj
   have qf:¬(x:Int)=0:=aj
   go_enter func112,ntmps112;go_wp2;go_ret;exact⟨by rw[Y.out];rfl,0,rfl⟩
 ·have qg:w≤P:=by rw[←X];exact lJ w U
  rcases D8 x with Z|Z
  ·have D:P-w<L:=aj
   have V:So.guess L w (y*w+x)=L[P-w]:=by
    have q:y*w+x=y*w:=aj
    exact(bf (So.guess L w) q).trans ((Yr K U).trans ((bf (fun k=>L.getD (k-w) 0) X).trans (getD_at D)))
   have Y:=ay V;subst Z;obtain⟨b2,N,rfl,H⟩:=T.at_ (i:=P-w) aj;have r:((P:Int)-(w:Int)).toNat=P-w:=aj
   have hm:((y:Int)-1)*(w:Int)=(P:Int)-w:=by rw[Int.sub_mul,E];omega
   have qh:(((P:Int)+0)==0)=false:=by have:¬((P:Int)+0)=0:=by omega
                                      simpa using this
   have qi:((P:Int)==0)=false:=by have:¬(P:Int)=0:=by omega
                                  simpa using this
   go_enter func112,ntmps112;go_wp2;go_ret;exact⟨by rw[Y.out];rfl,0,rfl⟩
  ·have Y:=ay ((Yt (L:=L) U Z hx).trans (by rw[X,getD_at (i:=P+x-1) aj,getD_at (i:=P+x-w) aj,getD_at (i:=P+x-w-1) aj]))
   obtain⟨b2,N,rfl,p⟩:=T.at_ (i:=P+x-1) aj;obtain⟨o,l,C,H⟩:=T.at_ (i:=P+x-w) aj;obtain⟨b4,j,B,g⟩:=T.at_ (i:=P+x-w-1) aj;obtain⟨rfl,rfl⟩:b2=o∧N=l:=by injection C with h;injection h with G F;exact⟨G,F⟩
   obtain⟨rfl,rfl⟩:b2=b4∧N=j:=by injection B with h;injection h with G F;exact⟨G,F⟩
   have z:=J _ (lS (aj:P+x-1<L.length));have u:=J _ (lS (aj:P+x-w<L));have t:=J _ (lS (aj:P+x-w-1<L.length));obtain⟨a,R⟩:∃a,L[P+x-1]=a:=⟨_,rfl⟩;obtain⟨b,Q⟩:∃b,L[P+x-w]=b:=⟨_,rfl⟩;obtain⟨M,O⟩:∃M,L[P+x-w-1]=M:=⟨_,rfl⟩;rw[R,Q,O]at Y;rw[R]at z p;rw[Q]at u H;rw[O]at t g;have f:∀n,Calls prog 166 #[aB (a+b-M)] (W.drewN n) fun e I=>e=bM (So.clip (a+b-M))∧∃m,I=W.drewN m:=fun n=>(ae2 _ _).mono fun _ _ ⟨d,K⟩=>⟨d,n,K.symm⟩
   have CC:=ay f;go_enter func112,ntmps112;go_wp2
   go_quiet(exact CC _)
   go_wp2;go_ret;exact⟨by rw[Y.out];rfl,nq,rfl⟩
def Ii:ByteArray:=⟨#[98,105,116,115]⟩
def yB(t:TypeId)(lo hi:Nat)(w:aK)(g:Nat)(b:aO)(n:Nat):Prop:=
 n≤8*b.length∧(∀x∈b,0≤x∧x≤255)∧∃A c,bF w g t #[aG A b.length c,aB n]∧yK .u8 w A b∧∀p,A=some p→0<b.length→lo≤p.block∧p.block<hi∧p.block≠g
theorem yK.afD{k:IntKind}(h:yK k w A l)(Y:bQ S w w')(X:∀p,A=some p→0<l.length→¬S p.block):yK k w' A l:=by
 rcases D8 l with Z|Z
 ·exact⟨h.1,fun W=>absurd W aj⟩
 ·exact h.dH Y (fun p V=>X p V Z)
theorem yB.dH{t:TypeId}{S:Nat→Prop}{w w':aK}{lo hi g:Nat}{b:aO}{n:Nat}(h:yB t lo hi w g b n)(Y:bQ S w w')(V:¬S g)(U:∀i,lo≤i→i<hi→¬S i):yB t lo hi w' g b n:=by
 obtain⟨T,R,A,c,Q,P,Z⟩:=h;exact⟨T,R,A,c,Q.dH Y V,P.afD Y (fun p X W=>U _ (Z p X W).1 (Z p X W).2.1),Z⟩
theorem yB.keep{t:TypeId}{w w':aK}{lo hi g:Nat}{b:aO}{n:Nat}(h:yB t lo hi w g b n)(Z:Below w w w'):yB t lo hi w' g b n:=by
 obtain⟨Y,X,A,c,W,V,U⟩:=h;exact⟨Y,X,A,c,W.keep Z,V.keep Z,U⟩
theorem yB.lt{t:TypeId}{w:aK}{lo hi g:Nat}{b:aO}{n:Nat}(h:yB t lo hi w g b n):g<w:=by
 obtain⟨_,_,A,c,Z,_⟩:=h;exact Z.lt
theorem abf:∀x:Nat,x<256→bits .and .u8 (x:Int) 1=(x:Int)%2:=by decide+kernel
theorem alM{v b:Int}(h0:0≤v)(h1:v≤4294967296)(Z:0≤b)(U:b≤1):bits .or .i64 (2*v) b=2*v+b:=by
 obtain⟨n,rfl⟩:=D6 h0;obtain⟨m,rfl⟩:=D6 Z;have Y:2*n<2^64:=aj
 have e:(BitVec.ofInt 64 (2*(n:Int))|||BitVec.ofInt 64 (m:Int)).toNat=2*n+m:=by
  have X:BitVec.ofInt 64 (2*(n:Int))=BitVec.ofNat 64 (2*n):=by rw[←mY];rfl
  have W:BitVec.ofInt 64 (m:Int)=BitVec.ofNat 64 m:=by rw[←mY]
  rw[X,W,BitVec.toNat_or,nY,nY,kT Y,kT aj];have V:m=0∨m=1:=aj
  rcases V with rfl|rfl
  ·simp
  ·have:=tZ (i:=1) (b:=1) aj n
   simp only[Nat.pow_one]at this;omega
 show IntKind.i64.wrap (((BitVec.ofInt 64 (2*(n:Int))|||BitVec.ofInt 64 (m:Int)).toNat:Nat):Int)=_;rw[e,iE _ aj];omega
theorem VL{p:Nat}(V:b.length≤1000000000)(w:aK)(h:yB 299 lo hi w g b p):
  Calls prog 147 #[aY g] w fun e Y=>e=bM (aB (8*(b.length:Int)-p))∧∃n,Y=w.drewN n:=by
 obtain⟨U,_,A,c,Z,_⟩:=h;have X:=Z.c0;have W:=Z.c1;go_enter func147,ntmps147;go_wp2
 go_quiet(fail)
 go_wp2;go_ret;exact⟨rfl,_,rfl⟩
theorem afE{p:Nat}(w:aK)(h:yB 299 lo hi w g b p):
  Calls prog 264 #[aY g] w fun e Y=>e=bM p∧w=Y:=by
 obtain⟨W,_,A,c,Z,_⟩:=h;have X:=Z.c1;go_enter func264,ntmps264;go_wp2;go_ret;exact sD
theorem Om{p:Nat}(W:b.length≤1000000000)(T:n≤32)(S:8*b.length<p+n)(w:aK)(h:yB 299 lo hi w g b p):
  Calls prog 204 #[aY g,n] w
   fun e X=>∃v,e=bM (eP #[aB 0,v])∧ErrAt X [(Ii,(p:Int))] (.iface 48 (aB 1)) v∧Below w w X:=by
 have H:=ay h;go_enter func204,ntmps204;go_wp2_with fail;refine(VL W _ H).aQ ?_;rintro R ⟨nq,rfl⟩;obtain⟨_,_,A,c,Z,_⟩:=H;have U:=Z.c1;go_wp2_with fail;refine(xI _ _ _ _ _).aQ ?_;rintro Q ⟨V,Y⟩;go_wp2;go_ret2;exact⟨_,rfl,⟨_,_,rfl,V,rfl⟩,(jM (aU _ _) nq).trans Y⟩
def uj(t:TypeId)(lo hi:Nat)(w:aK)(g:Nat)(b:aO)(q:Nat)(w':aK):Prop:=yB t lo hi w' g b q∧bQ (fun i=>i=g) w w'
theorem ajQ{N x:Int}(h0:0≤N)(h1:N≤2147483648)(Z:0≤x)(U:x≤255):bits .or .i64 (N*2) (wrap64 (bits .and .u8 (x/2^k) 1))=2*N+x/2^k%2:=by
 have Y:0≤x/2^k:=kJ Z (Int.le_of_lt (sN aj));have X:x/2^k≤x:=uK _ Z;obtain⟨y,W⟩:=D6 Y;rw[W]at X ⊢;rw[abf y aj];have V:wrap64 ((y:Int)%2)=(y:Int)%2:=by unfold wrap64;omega
 rw[V,Int.mul_comm,alM h0 aj aj aj]
theorem uj.step(h:uj t lo hi w g b q wr)(R:q<8*b.length)(nq:Nat)(v:Int)(Q:v=(q:Int)+1):uj t lo hi w g b (q+1) ((wr.drewN nq).setCell ⟨g,1,none⟩ v):=by
 obtain⟨⟨P,Y,A,c,X,W,Z⟩,V⟩:=h;refine⟨⟨aj,Y,A,c,?_,?_,Z⟩,(V.drewN nq).setCell (fun _=>rfl) _⟩
 ·have:=(X.drewN nq).store 1 v
  have e:v=((q+1:Nat):Int):=aj
  rw[←e];simpa using this
 ·exact yK.afD (S:=fun i=>i=g) W (((bQ.refl (fun i=>i=g) wr).drewN nq).setCell (p:=(aH g 1)) (fun _=>rfl) _) (fun p U T e=>(Z p U T).2.2 e)
theorem abg(b:aO)(p j:Nat):Bi.num b p (j+1)=2*Bi.num b p j+Bi.bit b (p+j):=rfl
theorem VN{p:Nat}(F:b.length≤1000000000)(o:n≤32)(m:p+n≤8*b.length)(w:aK)(h:yB 299 lo hi w g b p):
  Calls prog 204 #[aY g,n] w
   fun e E=>e=bM (eP #[(Bi.num b p n),iI])∧uj 299 lo hi w g b (p+n) E:=by
 have H:=ay h;have M:decide (8*(b.length:Int)-p<n)=false:=jy
 clear h;go_enter func204,ntmps204;go_wp2_with fail;refine(VL F _ H).aQ ?_;rintro l ⟨nq,rfl⟩;have D:Hid (uj 299 lo hi w g b p (w.drewN nq)):=⟨H,(bQ.refl _ _).drewN nq⟩;clear M;go_wp2
 go_loopg [6,27] n (fun k C B wr=>∃j:Nat,j+k=n∧B=j∧C=(Bi.num b p j)∧uj 299 lo hi w g b (p+j) wr)
 case atStart=>exact⟨0,aj,rfl,rfl,D⟩
 case round=>
  obtain⟨j,i,rfl,rfl,Y⟩:=hrel
  by_cases v:j<n
  ·have z:=ay Y
   obtain⟨⟨_,U,A,c,X,T,y⟩,_⟩:=Y;obtain⟨b2,f,rfl,J⟩:=T.at_ (show(p+j)/8<b.length by omega);have u:=X.c0;have L:=X.c1;have t:=X.frozen 1;obtain⟨S,R⟩:=U _ (lS (show(p+j)/8<b.length by omega));have G:(j:Int)<(n:Int):=aj
   have Z:Bi.bit b (p+j)=b[(p+j)/8]' aj/2^(7-(p+j)%8)%2:=by
    unfold Bi.bit;rw[dG,fP aj];rfl
   obtain⟨x,I⟩:∃x,b[(p+j)/8]' aj=x:=⟨_,rfl⟩;rw[I]at J S R Z;obtain⟨q,V⟩:∃q,p+j=q:=⟨_,rfl⟩;rw[V]at J L Z;obtain⟨Q,K⟩:=Bi.IW b p j
   have P:Bi.num b p j≤2147483648:=by
    have:(2:Int)^j≤2^31:=by exact_mod_cast oW (by omega:0<2) (aj:j≤31)
    have e:(2:Int)^31=2147483648:=bn
    omega
   obtain⟨N,O⟩:∃N,Bi.num b p j=N:=⟨_,rfl⟩;rw[O]at Q P;have s:(q:Int)/8<(b.length:Int):=aj
   have r:q≤8000000000:=aj
   change Hid _ at V Z;clear I K X T y U;rw[O];change Hid _ at O;go_wp2
   go_quiet(fail)
   go_wp2;rw[ajQ Q P S R]
   have W:=ay (show uj 299 lo hi w g b (q+1) ((wr.drewN nq).setCell ⟨g,1,none⟩ (aB ((q:Int)+1))) by
    have h:=z.out;rw[V]at h;exact h.step (by have:=V.out;omega) nq _ rfl)
   go_roundg(gk-1)
   case measure=>omega
   case rel=>
    refine⟨j+1,aj,fA,?_,?_⟩
    ·rw[abg,O,V,Z]
    ·rw[show p+(j+1)=q+1 by have:=V.out;omega];exact W.out
  ·obtain rfl:j=n:=aj
   change Hid _ at Y;go_wp2;go_ret2;exact⟨rfl,Y⟩
theorem UN(b:aO)(p:Nat):Bi.num b p 1=Bi.bit b p:=by simp[Bi.num]
theorem ajR{p:Nat}(Z:b.length≤1000000000)(Y:p+1≤8*b.length)(w:aK)(h:yB 299 lo hi w g b p):
  Calls prog 242 #[aY g] w
   fun e X=>e=bM (eP #[.bool (Bi.bit b p==1),iI])∧uj 299 lo hi w g b (p+1) X:=by
 have H:=ay (VN (n:=1) Z aj Y w h);rw[UN]at H;go_enter func242,ntmps242;go_wp2_with fail;refine H.aQ ?_;rintro V W;go_wp2;go_ret2;exact⟨rfl,W⟩
theorem ac9{p:Nat}(X:b.length≤1000000000)(W:8*b.length<p+1)(w:aK)(h:yB 299 lo hi w g b p):
  Calls prog 242 #[aY g] w
   fun e Y=>∃v,e=bM (eP #[.bool false,v])∧ErrAt Y [(Ii,(p:Int))] (.iface 48 (aB 1)) v∧Below w w Y:=by
 have H:=ay (Om (n:=1) X aj W w h);go_enter func242,ntmps242;go_wp2_with fail;refine H.mono ?_;rintro e U ⟨v,rfl,V,Z⟩;go_wp2;go_ret2;exact⟨v,rfl,V,Z⟩
def iC(b:aO)(p:Nat):Nat→Option Nat
 |0=>none
 |k+1=>match iC b p k with
  |some a=>some a
  |none=>if Bi.bit b (p+k)=1 then some (p+k)else none
def Af(p:Nat):Nat:=(8-p%8)%8
def MK:Option Nat→List (ByteArray × Int)
 |none=>[]
 |some a=>[(Ii,(a:Int))]
def RP:Option Nat→Int
 |none=>0
 |some _=>2
theorem Xl.dH{S:Nat→Prop}{w w':aK}{p:List (ByteArray × Int)}{c:Int}{v:cO}(h:Xl w p c v)(X:bQ S w w')(W:∀g Z,bF w g 169 Z→¬S g):Xl w' p c v:=by
 rcases h with h|⟨V,U⟩
 ·exact .inl h
 ·exact .inr ⟨V,ErrAt.keep (fun g Z Y=>Y.dH X (W g Z Y)) U⟩
theorem afF{p:Nat}(hb:b.length≤1000000000)(w:aK)(h:yB 299 lo hi w g b p):
  Calls prog 146 #[aY g] w
   fun e d=>∃v,e=bM v∧Xl d (MK (iC b p (Af p))) (RP (iC b p (Af p))) v∧uj 299 lo hi w g b (p+Af p) d:=by
 have hp:=h.1;have H:Hid (uj 299 lo hi w g b p w):=⟨h,bQ.refl _ _⟩;clear h;obtain⟨n,D⟩:∃n,Af p=n:=⟨_,rfl⟩;have L:(p+n)%8=0∧n<8:=by rw[←D];unfold Af;omega
 obtain⟨L,qa⟩:=L;rw[D];clear D;have qe:p+n≤8*b.length:=aj
 go_enter func146,ntmps146;go_wp2
 go_loopg [3] n (fun k ve wr=>∃j:Nat,j+k=n∧uj 299 lo hi w g b (p+j) wr∧Xl wr (MK (iC b p j)) (RP (iC b p j)) ve)
 case atStart=>exact⟨0,aj,H,.inl ⟨rfl,rfl,rfl⟩⟩
 case round=>
  obtain⟨j,hj,P,O⟩:=hrel;obtain⟨F,C⟩:=aV O P;obtain⟨⟨_,r,A,c,U,o,hA⟩,_⟩:=P;have K:=U.c1;have HB:=ay U;clear U o hA r O
  by_cases qf:j<n
  ·have V:decide (0<((p+j:Nat):Int)%8)=true:=jy
   obtain⟨q,E⟩:∃q,p+j=q:=⟨_,rfl⟩;rw[E]at K V;have B:=ay E;have J:yB 299 lo hi wr g b q:=by rw[←E];exact C.1
   have z:=ay (VN (n:=1) hb aj aj _ J);rw[UN]at z;have m:=Bi.Pj b q;obtain⟨x,u⟩:∃x,Bi.bit b q=x:=⟨_,rfl⟩;rw[u]at z m;have HX:=ay u;clear E u J;go_wp2_with fail;refine z.aQ ?_;rintro t ⟨I,N⟩;have Z:=F.dH N (fun g' cs l=>bF.apart l HB bn);have Y:uj 299 lo hi w g b (q+1) t:=⟨I,C.2.trans N⟩;have G:p+(j+1)=q+1:=by have:=B.out;omega
   rw[←G]at Y;change Hid _ at Y;clear G I K
   by_cases S:x=0
   ·have i:(x != 0)=false:=by rw[S];rfl
    have Q:iC b p (j+1)=iC b p j:=by
     simp only[iC];rw[B,HX,au aj];split<;>simp_all
    have W:=ay Z;rw[←Q]at W;clear S Q Z V;go_wp2_with fail;go_roundg(gk-1)
    case measure=>omega
    case rel=>exact⟨j+1,aj,Y,W⟩
   ·have R:x=1:=aj
    have i:(x != 0)=true:=by rw[R];rfl
    cases X:iC b p j with
    |some a=>
     have Q:iC b p (j+1)=iC b p j:=by
      simp only[iC];rw[X]
     rw[X]at Z;rcases Z with⟨s,_⟩|⟨_,Z⟩
     ·cases s
     obtain⟨T,y,rfl⟩:=Z.iface;have W:Hid (Xl t (MK (iC b p (j+1))) (RP (iC b p (j+1))) (.iface T y)):=by rw[Q,X];exact .inr ⟨by simp[RP],Z⟩
     clear S R Q X Z V F;go_wp2_with fail;go_roundg(gk-1)
     case measure=>omega
     case rel=>exact⟨j+1,aj,Y,W⟩
    |none=>
     have Q:iC b p (j+1)=some q:=by
      simp only[iC];rw[X,B,HX,aF R]
     rw[X]at Z;rcases Z with⟨_,_,rfl⟩|⟨s,_⟩
     rotate_left 1
     ·exact absurd rfl s
     have HF:=ay Q;clear S R Q X V F;go_wp2_with fail;refine(xI _ _ _ _ _).aQ ?_;rintro w2 ⟨hB,M⟩
     have W:Hid (Xl w2 (MK (iC b p (j+1))) (RP (iC b p (j+1))) (.iface 167 (aY t))):=by
      rw[HF];exact .inr ⟨by simp[RP],_,_,rfl,hB,rfl⟩
     have f:Hid (uj 299 lo hi w g b (p+(j+1)) w2):=⟨Y.1.keep M,Y.2.trans (bQ.of_below M)⟩;clear hB M Y;go_wp2_with fail;go_roundg(gk-1)
     case measure=>omega
     case rel=>exact⟨j+1,aj,f,W⟩
  ·obtain rfl:j=n:=aj
   have V:decide (0<((p+j:Nat):Int)%8)=false:=jy
   go_wp2_with fail;go_ret;exact⟨_,rfl,F,C⟩
theorem ajS{a:Nat}(h:(Value.slice n a c).ownBlock=some k):n=k:=by simpa[Value.ownBlock]using h
theorem XG(J:b.length≤1000000000)(W:∀x∈b,0≤x∧x≤255)(w:aK)(O:yK .u8 w A b):
  Calls prog 144 #[aG A b c] w
   fun e R=>∃g,e=bM (aY (some (aH g 0)))∧yB 299 w g R g b 0∧w≤g∧Below w w R:=by
 obtain⟨N,M,V,U,T⟩:=iq Vf;have L:=ay O;go_enter func144,ntmps144;go_wp2_with(at_builtin;refine yL _ rfl (.tmp 3) (.tmp 4) _ rfl w 5 N _ 1 1 underlying24 M V U T rfl aj (aG w 0 0) 0 [] rfl (Ob w _ _ _ (bC _)) A b c _ rfl (L.alloc _) (MR _ _) (by unfold maxLen;omega) aj bK ?_;intro B X Q Z S P;simp only[dI,jI]at Z);go_ret;have Y:=((aU _ _).alloc (bC _) _).grown S bK (fun k K=>Nat.le_of_eq (ajS K));refine⟨Q,rfl,⟨aj,W,B,X,?_,?_,?_⟩,Y.size,Y.alloc Y.size _⟩
 ·simpa using bF.new Q 299 #[aG B (0+b.length) X,aB 0]
 ·exact((yK.ER Z).1).alloc _
 ·rintro a rfl _
  have h:=Z.lt a.block rfl;exact⟨h.1,h.2,Nat.ne_of_lt h.2⟩
theorem Jh(c:Int)(w:aK):Calls prog 36 #[c] w fun e Z=>e=bM (.agg #[c,bU])∧Below w w Z:=by
 go_enter func36,ntmps36;go_wp2;refine aT (by simp[results,results36,go_sem]) rfl ⟨rfl,?_⟩;exact(aU _ _).alloc (bC _) _
theorem afG:(prog.info? 140).map (fun i=>(i.zero,i.size,i.bytes))=some (some (.agg #[.string ⟨#[]⟩,aB 0]),2,24):=aW
def abh(w:aK)(path:List (ByteArray × Int))(c:Int)(e:Ending)(w':aK):Prop:=
 ∃A Z,e=bM (.agg #[aB c,aG A path.length Z])∧Rd w' 2 A path.length (wH path)∧(∀a,A=some a→w.heap.size≤a.block)∧Below w.heap.size w w'
theorem Rd.far{X:List cO}(h:Rd w size A n X){p:Addr}(V:∀a,A=some a→a.block≠p.block)(u:cO):Rd (w.setCell p u) size A n X:=
 ⟨h.1,fun U=>by
   obtain⟨b,Z,e,T⟩:=h.2 U;refine⟨b,Z,e,fun j v S=>?_⟩;have Y:=V _ e;have W:=T j v S;have R:=Below.heap_setCell w p u b Y;unfold World.cell? at W ⊢;simp only[R]at*;exact W⟩
theorem afH(path:List (ByteArray × Int)):∀u∈wH path,u.oneCell'=true:=by
 induction path with
 |nil=>intro u Z;simp[wH]at Z
 |cons x r X=>
  intro u Z;obtain⟨s,p⟩:=x;have h:wH ((s,p)::r)=[.string s,aB p]++wH r:=by simp[wH]
  rw[h]at Z;rcases rH.1 Z with Y|Y
  ·simp at Y
   rcases Y with rfl|rfl<;>rfl
  ·exact X u Y
theorem QK(s:ByteArray)(p:Int){path:List (ByteArray × Int)}{c:Int}(g:path.length≤1000000000000)(f:c≠0)(w:aK)(u:Rd w 2 A path (wH path)):
  Calls prog 66 #[.string s,aB p,.agg #[aB c,aG A path cap]] w (abh w ((s,p)::path) c):=by
 obtain⟨q,o,C,z,y⟩:=iq afG;obtain⟨M,W⟩:=kF (((w.alloc (aS #[c,aG A path cap] 79)).alloc (aS #[aB 0,bU] 79)).alloc (aS #[c,aG A path cap] 79));have U:M.heap.size=w+1+1+1:=by rw[W];simp
 have T:Below w w M:=by rw[W];exact(((aU _ _).alloc (bC _) _).alloc bK _).alloc jy _
 have K:bF M (w.heap.size+1) 79 #[aB 0,bU]:=by rw[W];exact(bF.new1 w _ _ _).alloc _
 have Y:=(World.ownsRow_lit (base:=w.heap.size) (e:=140) (size:=2) M #[.string s,aB p] 1 aj (by unfold maxLen;omega) rfl).alloc (aS #[aB c,aG (some (aH (w.heap.size+1+1+1) 0)) 1 1] 79);rw[U]at Y;have S:=bF.new1 M (aS #[.string s,aB p] 140) 79 #[aB c,aG (some (aH (w.heap.size+1+1+1) 0)) 1 1];rw[U]at S;have R:=(T.alloc T.size (aS #[.string s,aB p] 140)).alloc jy (aS #[aB c,aG (some (aH (w.heap.size+1+1+1) 0)) 1 1] 79);have J:=u.keep R;have I:=(K.alloc (aS #[.string s,aB p] 140)).alloc (aS #[aB c,aG (some (aH (w.heap.size+1+1+1) 0)) 1 1] 79);have L:=ay (And.intro Y (And.intro S (And.intro R (And.intro J I))));clear Y S R J I K T U u;subst W;go_enter func66,ntmps66
 go_wp2_with(first
  |(go_at_call 42;refine(EW c _ _).aQ ?_;rintro d rfl)
  |(at_builtin
    refine yL _ rfl (.tmp 19) (.tmp 21) _ rfl w 140 q _ 2 24 underlying77 o C z y rfl aj (aG (some (aH (w.heap.size+1+1+1) 0)) 1 1) 1 [.string s,aB p] rfl L.out.1 A path cap (wH path) rfl L.out.2.2.2.1 (afH path) (by unfold maxLen;omega) aj jy ?_;intro B Z E X Q H;have P:=L.out.2.1.grown Q (by simp[Value.ownBlock]);have V:=L.out.2.2.2.2.grown Q (by simp[Value.ownBlock]);have l:E.cell? (aH (w.heap.size+1+1+1+1) 0)=some (aB c):=(P.at rfl);have j:E.cell? (aH (w.heap.size+1+1+1+1) 1)=some (aG (some (aH (w.heap.size+1+1+1) 0)) 1 1):=(P.at rfl);have i:=P.frozen 1;have G:E.cell? (aH (w.heap.size+1) 0)=some (aB 0):=(V.at rfl);have F:E.cell? (aH (w.heap.size+1) 1)=some (bU):=(V.at rfl);have t:=V.frozen 0;have r:=V.frozen 1))
 have O:∀k,(Value.slice B (1+path.length) Z).ownBlock=some k→k≠w+1+1+1+1∧k≠w+1:=by
  intro k D;rcases H with h|h<;>rw[D]at h<;>simp[Value.ownBlock]at h<;>omega
 have N:=ownsRow_setCell_other (ownsRow_setCell_other (ownsRow_setCell_other X (a:=(aH (w.heap.size+1+1+1+1) 1)) (fun h=>(O _ h).1 rfl) (aG B (1+path.length) Z)) (a:=(aH (w.heap.size+1) 0)) (fun h=>(O _ h).2 rfl) (aB c)) (a:=(aH (w.heap.size+1) 1)) (fun h=>(O _ h).2 rfl) (aG B (1+path.length) Z);have x:=L.out.2.2.1.grown Q jy (fun k D=>by simp[Value.ownBlock]at D;omega);refine aT (v:=.agg #[aB c,aG B (1+path.length) Z]) (by simp[results,results66,go_sem,G,F]) rfl ?_;refine⟨B,Z,?_,?_,?_,((x.setCell jy _).setCell bK _).setCell bK _⟩
 ·simp[Nat.add_comm]
 ·have h:=Rd.ER N
  have n:((s,p)::path).length=1+path.length:=by simp[Nat.add_comm]
  have m:wH ((s,p)::path)=[.string s,aB p]++wH path:=by simp[wH]
  rw[n,m];exact h
 ·rintro a rfl
  exact(X.lt a.block (by simp[Value.ownBlock])).1
theorem DK(s:ByteArray)(p:Int){c:Int}(Q:c≠0)(w:aK):
  Calls prog 37 #[.string s,p,c] w (abh w [(s,p)] c):=by
 go_enter func37,ntmps37;go_wp2_with fail;refine(Jh _ _).aQ ?_;rintro L Z;have P:=(bF.new w 79 #[aB 0,bU]).keep Z;have U:=((aU _ _).alloc (bC _) _).trans (Z.mono bK);go_wp2_with fail;refine(QK s p (path:=[]) (A:=none) (cap:=0) bK Q _ Rd.nil).mono ?_;rintro e K ⟨A,W,rfl,O,Y,T⟩;have X:=P.keep T;have S:=X.c0;have R:=X.c1;have N:=X.frozen 0;have M:=X.frozen 1;go_wp2;refine aT (v:=.agg #[c,aG A 1 W]) (by simp[results,results37,go_sem,S,R]) rfl ?_;refine⟨A,W,rfl,?_,?_,((U.trans (T.mono U.size)).setCell bK _).setCell bK _⟩
 ·exact(O.far (fun a V=>by have:=Y a V;have:=Z.size;simp at*;omega) _).far (fun a V=>by have:=Y a V;have:=Z.size;simp at*;omega) _
 ·intro a V
  have:=Y a V;have:=Z.size;simp at*;omega
def strOf(b:aO):ByteArray:=b.foldl (fun r n=>r.push (UInt8.ofNat n.toNat)) ByteArray.empty
theorem UO(w:aK)(h:yK .u8 w A b):
  (convert 24 9 (aG A b c)).run prog w= .ok (.string (strOf b)) w:=by
 rw[run_convert_bytes_string w _ _ _ A b.length c underlying24 underlying5 underlying9];cases A with
 |none=>
  have V:b=[]:=by
   cases b with
   |nil=>rfl
   |cons x r=>obtain⟨U,X,e,_⟩:=h.2 bK;cases e
  subst V;rfl
 |some a=>
  have W:=run_loadCells_list (P:=prog) w a (b.map (Value.int .u8)) (fun j v Y=>by
   have Z:j<b:=by have:=(lX.1 Y).1;simpa using this
   obtain⟨U,X,e,T⟩:=yK.at_ h Z;obtain rfl:=ou e;rw[add_lit,T];rw[gX,fP Z]at Y;exact Y)
  simp only[fJ]at W;exact run_bytesToString w a b c b W
theorem RQ{p:Nat}(V:b.length≤1000000000)(w:aK)(h:yB 145 lo hi w g b p):
  Calls prog 70 #[aY g] w fun e Y=>e=bM (aB (8*(b.length:Int)-p))∧∃n,Y=w.drewN n:=by
 obtain⟨U,_,A,c,Z,_⟩:=h;have X:=Z.c0;have W:=Z.c1;go_enter func70,ntmps70;go_wp2
 go_quiet(fail)
 go_wp2;go_ret;exact⟨rfl,_,rfl⟩
theorem Kq(h:bF w z 79 #[aB 0,bU]):
  w.cell? (aH z 0)=some (aB 0)∧w.cell? (aH z 1)=some (bU)∧w.frozen? (aH z 0)=false∧w.frozen? (aH z 1)=false:=
 ⟨h.at rfl,h.at rfl,h.frozen 0,h.frozen 1⟩
theorem alN{n:Int}{p:cO}(w:aK)(h:¬(0≤n∧n≤32)):Calls prog 110 #[p,n] w
  fun e W=>e=bM (eP #[aB 0,.agg #[aB 3,bU]])∧Below w w W:=by
 rcases(aj:n<0∨(0≤n∧32<n))with V|⟨V,S⟩
 all_goals
  go_enter func110,ntmps110;go_wp2_with fail;refine(Jh _ _).aQ ?_;rintro R Z;obtain⟨Y,X,U,T⟩:=Kq ((bF.new w 79 #[aB 0,bU]).keep Z);go_wp2;refine aT (by simp[results,results110,go_sem,Y,X]) rfl ⟨rfl,?_⟩;exact((((aU _ _).alloc (bC _) _).trans (Z.mono bK)).setCell bK _).setCell bK _
def amO(w:aK)(z:cO)(path:List (ByteArray × Int))(c:Int)(e:Ending)(w':aK):Prop:=
 ∃A Z,e=bM (eP #[z,.agg #[aB c,aG A path.length Z]])∧Rd w' 2 A path.length (wH path)∧(∀a,A=some a→w.heap.size≤a.block)∧Below w.heap.size w w'
theorem Ld{p:Nat}(M:b.length≤1000000000)(E:n≤32)(D:8*b.length<p+n)(w:aK)(h:yB 145 lo hi w g b p):
  Calls prog 110 #[aY g,n] w (amO w (aB 0) [(Ii,(p:Int))] 1):=by
 have L:=bF.new w 79 #[aB 0,bU];have H:=ay (h.keep ((aU _ _).alloc (bC _) (aS #[aB 0,bU] 79)));have J:8*(b.length:Int)-p<n:=aj
 clear h;go_enter func110,ntmps110;go_wp2_with fail;refine(RQ M _ H).aQ ?_;rintro C ⟨nq,rfl⟩;obtain⟨_,_,A,c,Y,_⟩:=H;have I:=Y.c1;clear Y;go_wp2_with fail;refine(DK Ii _ aj _).mono ?_;rintro e B ⟨T,N,rfl,U,X,V⟩;have R:=(L.drewN nq).keep V;obtain⟨Q,P,G,F⟩:=Kq R;have Z:∀a,T=some a→w.heap.size+1≤a.block:=fun a W=>by have:=X a W;simpa using this
 obtain⟨K,S⟩:=aV U Z;have O:=(jM ((aU _ _).alloc (bC _) _) nq).trans (V.mono bK);clear U X Z V;go_wp2;refine aT (v:=eP #[aB 0,.agg #[aB 1,aG T 1 N]]) (by simp[results,results110,go_sem,Q,P]) rfl ?_;refine⟨T,N,rfl,?_,fun a W=>by have:=S a W;omega,(O.setCell bK _).setCell bK _⟩;exact(K.far (fun a W=>by have:=S a W;simp;omega) _).far (fun a W=>by have:=S a W;simp;omega) _
theorem ahH{x:Int}(Z:0≤x)(V:x≤255):wrap64 (bits .and .u8 (x/2^k) 1)=x/2^k%2:=by
 have Y:0≤x/2^k:=kJ Z (Int.le_of_lt (sN aj));have X:x/2^k≤x:=uK _ Z;obtain⟨y,W⟩:=D6 Y;rw[W]at X ⊢;rw[abf y aj];unfold wrap64;omega
theorem ahI{N x:Int}(h0:0≤N)(h1:N≤2147483648)(Z:0≤x)(Y:x≤255):wrap64 (2*N+wrap64 (bits .and .u8 (x/2^k) 1))=2*N+x/2^k%2:=by
 rw[ahH Z Y];unfold wrap64;omega
theorem QL{p:Nat}(m:b.length≤1000000000)(hn:n≤32)(hs:p+n≤8*b.length)(w:aK)(qa:hi≤w)(h:yB 145 lo hi w g b p):
  Calls prog 110 #[aY g,n] w
   fun e l=>e=bM (eP #[(Bi.num b p n),.agg #[aB 0,bU]])∧uj 145 lo hi w g b (p+n) l:=by
 have hp:=h.1;have qe:=h.lt;have y:=bF.new w 79 #[aB 0,bU];have T:Below w w (w.alloc (aS #[aB 0,bU] 79)):=(aU _ _).alloc (bC _) _;have H:=ay (h.keep T);have G:(n:Int)≤8*(b.length:Int)-p:=aj
 clear h;go_enter func110,ntmps110;go_wp2_with fail;refine(RQ m _ H).aQ ?_;rintro w1 ⟨nq,rfl⟩;have f:Hid (uj 145 lo hi w g b p ((w.alloc (aS #[aB 0,bU] 79)).drewN nq)):=⟨H,(bQ.of_below T).drewN nq⟩;have d:=ay (y.drewN nq);clear G y T;go_wp2
 go_loopg [6,7] n (fun k vv vi wr=>∃j:Nat,j+k=n∧vi=j∧vv=(Bi.num b p j)∧uj 145 lo hi w g b (p+j) wr∧bF wr w 79 #[aB 0,bU])
 case atStart=>exact⟨0,aj,rfl,rfl,f,d⟩
 case round=>
  obtain⟨j,hj,rfl,rfl,Y,W⟩:=hrel;have u:=ay W;clear W
  by_cases qf:j<n
  ·have HO:=ay Y
   obtain⟨⟨_,Q,A,c,X,P,hA⟩,_⟩:=Y;obtain⟨b2,o2,rfl,t⟩:=P.at_ (show(p+j)/8<b.length by omega);have qg:=X.c0;have F:=X.c1;have E:=X.frozen 1;obtain⟨O,M⟩:=Q _ (lS (show(p+j)/8<b.length by omega));have o:(j:Int)<(n:Int):=aj
   have Z:Bi.bit b (p+j)=b[(p+j)/8]' aj/2^(7-(p+j)%8)%2:=by
    unfold Bi.bit;rw[dG,fP aj];rfl
   obtain⟨x,s⟩:∃x,b[(p+j)/8]' aj=x:=⟨_,rfl⟩;rw[s]at t O M Z;obtain⟨q,I⟩:∃q,p+j=q:=⟨_,rfl⟩;rw[I]at t F Z;obtain⟨J,D⟩:=aV I Z;obtain⟨L,C⟩:=Bi.IW b p j
   have K:Bi.num b p j≤2147483648:=by
    have:(2:Int)^j≤2^31:=by exact_mod_cast oW (by omega:0<2) (aj:j≤31)
    have e:(2:Int)^31=2147483648:=bn
    omega
   obtain⟨N,U⟩:∃N,Bi.num b p j=N:=⟨_,rfl⟩;rw[U]at L K;have HN:=ay U;have qh:(q:Int)/8<(b.length:Int):=aj
   have qi:q≤8000000000:=aj
   clear s I Z C X P hA Q;rw[U];clear U;go_wp2
   go_quiet(fail)
   go_wp2;rw[ahI L K O M]
   have R:=ay (show uj 145 lo hi w g b (q+1) ((wr.drewN nq).setCell ⟨g,1,none⟩ (aB ((q:Int)+1))) by
    have h:=HO.out;rw[J]at h;exact h.step (by have:=J.out;omega) nq _ rfl)
   have V:=ay ((u.drewN nq).far (p:=(aH g 1)) jy (aB ((q:Int)+1)));go_roundg(gk-1)
   case measure=>omega
   case rel=>
    refine⟨j+1,aj,fA,?_,?_,V.out⟩
    ·rw[abg,HN,J,D]
    ·rw[show p+(j+1)=q+1 by have:=J.out;omega];exact R.out
  ·obtain rfl:j=n:=aj
   obtain⟨B,z,qj,E⟩:=Kq u;obtain⟨N,U⟩:∃N,Bi.num b p j=N:=⟨_,rfl⟩;rw[U];change Hid _ at Y U;go_wp2;refine aT (v:=eP #[N,.agg #[aB 0,bU]]) (by simp[results,results110,go_sem,B,z]) rfl ⟨by rw[U],?_⟩
   have S:bQ (fun i=>i=w) wr ((wr.setCell ⟨w,0,none⟩ (aB 0)).setCell ⟨w,1,none⟩ (bU)):=
    ((bQ.refl (fun i=>i=w) wr).setCell (fun _=>rfl) _).setCell (fun _=>rfl) _
   obtain⟨⟨r1,r2,A,c,r3,r4,r⟩,r6⟩:=Y;exact⟨⟨r1,r2,A,c,r3.dH S aj,r4.afD S (fun a ha h0 e=>by have:=(r a ha h0).2.1;omega),r⟩,r6.step S (fun i hi e=>aj)⟩
theorem yB.other{t':TypeId}(h:yB t lo hi w g b n)(Z:uj t' k m w j b' q w')(Y:g≠j)(X:j<lo∨hi≤j):yB t lo hi w' g b n:=
 h.dH Z.2 Y (fun i W V e=>aj)
theorem og{c:Int}{s:cO}(h:bF w z 79 #[c,s]):w.cell? (aH z 0)=some (aB c)∧w.cell? (aH z 1)=some s∧w.frozen? (aH z 0)=false∧w.frozen? (aH z 1)=false:=
 ⟨h.at rfl,h.at rfl,h.frozen 0,h.frozen 1⟩
section
variable{P:Program}(w:aK)
theorem Wu(z:cO)(n:Nat)(h:z.cells.size=1):(Builtin.zeroCells z.cells n).toList=List.replicate n (z.cells[0]!):=by
 unfold Builtin.zeroCells;rw[h,lC,Array.toList_map];refine List.ext_getElem bK fun i Z Y=>?_
 simp[Nat.mod_one]
theorem SA(base:Nat)(t D p e:TypeId)(i:TypeInfo)(z:cO)(k kn:IntKind)(ht:P.underlying t=some (.slice e))(B:P.underlying D=some (.int kn))(hi:P.info? e=some i)(l:i.zero=some z)
  (X:i.size=1) (J:i.bytes=1) (A:z.cells.size=1) (c:(z.cells[0]!).oneCell'=true)
  (v:cO) (n:Nat) (R:List cO) (Y:w.ownsRow base e 1 v n R) (m:Nat)
  (qf:n+m≤1000000000) (F:base≤w):
  ∃o h,(Builtin.append_ #[t,D] p #[v,.int k m]).run P w= .ok o h∧h.ownsRow base e 1 o (n+m) (R++List.replicate m (z.cells[0]!))∧w.grownBy h v.ownBlock∧
   (o.ownBlock=v.ownBlock∨o.ownBlock=some w.heap.size):=by
 have hw:IntKind.i64.wrap (m:Int)=m:=by rw[IntKind.wrap_i64];omega
 have M:¬((m:Int)<0):=aj
 have L:¬(281474976710656<(m:Int)):=aj
 have y:=Wu z m A;have K:(R++List.replicate m (z.cells[0]!)).length=n+m:=by rw[mG,Y.1,gJ];omega
 have grown:∀(W:Nat),W<n+m→∀(x:Option Nat),
   (w.drew.alloc (aS (R.toArray++Builtin.zeroCells z.cells m++Builtin.zeroCells z.cells (grownCap w (n+m) W e-(n+m))) e)).ownsRow base e 1
     (aG w (n+m) (grownCap w (n+m) W e)) (n+m) (R++List.replicate m (z.cells[0]!))∧
   w.grownBy (w.drew.alloc (aS (R.toArray++Builtin.zeroCells z.cells m++Builtin.zeroCells z.cells (grownCap w (n+m) W e-(n+m))) e)) x:=by
  intro W ho x;have b:=grownCap_ge w (n+m) W e;have I:=grownCap_le_maxLen w (n+m) W e (by unfold maxLen;omega);refine⟨⟨aj,.inr ⟨w,_,_,rfl,F,lV w.drew _,b,I,?_,?_⟩⟩,⟨rfl,rfl,rfl,bK,fun k f _=>heap_alloc_old w.drew _ f⟩⟩
  ·simp only[Array.size_append,tY,size_zeroCells,A,Y.1]
   omega
  ·simp only[Array.toList_append,y]
   rw[lC,←K];exact pJ
 have Q:=nM ht;have O:=nM B;rcases Y.2 with⟨rfl,rfl⟩|⟨g,Z,U,rfl,a,d,qa,I,qg,T⟩
 ·have hx:R=[]:=sG (by simpa using Y.1)
  subst hx
  by_cases hm:m=0
  ·subst hm
   refine⟨bU,w,?_,iM w base e 1,⟨rfl,rfl,rfl,bC _,fun _ _ _=>rfl⟩,Or.inl rfl⟩;have H:IntKind.i64.wrap 0=0:=bn
   simp[Builtin.append_,Q,O,sizeOf,typeInfo,hi,asInt,asIntOf,H]
  ·have C:=Lib.run_append_nil_zeros w t D p e i z k kn ht B hi l m aj aj aj (by rw[J];omega)
   have V:=grown 0 aj (Value.ownBlock (bU));simp only[dI,jI]at V ⊢;rw[show([]:List cO).toArray++Builtin.zeroCells z.cells m=Builtin.zeroCells z.cells m by simp]at V;exact⟨_,_,C,V.1,V.2,Or.inr rfl⟩
 ·by_cases S:n+m≤Z
  ·have C:(Builtin.append_ #[t,D] p #[aG g n Z,.int k m]).run P w= .ok (aG g (n+m) Z) (w.setRow g (U.toList.take n++List.replicate m (z.cells[0]!)++U.toList.drop (n+m)).toArray):=by
    have G:=run_storeCells_at P g n e (List.replicate m (z.cells[0]!)) 0 U w d (by rw[gJ];omega) (fun v hv=>by rw[(List.mem_replicate.1 hv).2];exact c);simp only[dW,gJ]at G
    by_cases N:m=0
    ·subst N
     have H:IntKind.i64.wrap 0=0:=bn
     simp at G;simp[Builtin.append_,Q,O,sizeOf,typeInfo,hi,asInt,asIntOf,H,qa,Addr.add_lit,storeCells];rw[setRow_self w g U e (0,0) d]
    ·simp[Builtin.append_,Q,O,sizeOf,typeInfo,zeroValue,hi,l,asInt,asIntOf,hw,M,X,J,L,S,N,Addr.add_lit,y,G]
   refine⟨_,_,C,⟨aj,.inr ⟨g,Z,_,rfl,a,setRow_heap w g U _ e _ d,S,I,?_,?_⟩⟩,⟨rfl,rfl,rfl,bK,fun k _ f=>setRow_other w g k _ (fun e=>f (by simp[Value.ownBlock,e]))⟩,Or.inl rfl⟩
   ·simp only[tY,mG,xO,Hw,Array.length_toList,gJ]
    omega
   ·rw[lC]at T ⊢
    rw[T,←K];exact pJ
  ·have E:∀j u,R[j]? =some u→w.cell? (((aH g 0):Addr).add j)=some u:=Y.cells rfl
   have C:(Builtin.append_ #[t,D] p #[aG g n Z,.int k m]).run P w= .ok (aG w (n+m) (grownCap w (n+m) Z e)) (w.drew.alloc (aS (R.toArray++Builtin.zeroCells z.cells m++Builtin.zeroCells z.cells (grownCap w (n+m) Z e-(n+m))) e)):=by
    have hn:¬(n+m≤Z):=aj
    have r:¬(9223372036854775807<((n:Int)+(m:Int))):=aj
    have qe:=growslice_fits (need:=n+m) (old:=Z) (bytes:=1) aj aj;have q:¬(281474976710656<Builtin.nextslicecap (n+m) Z):=aj
    have N:¬m=0:=aj
    have s:=run_firstCells_some (P:=P) w.drew i.size n (aH g 0) n Z R (by rw[X];exact Y.1) (by simpa using E);rw[X]at s;simp[Builtin.append_,Q,O,sizeOf,typeInfo,zeroValue,hi,l,asInt,asIntOf,hw,M,L,hn,r,q,Question.forced,X,J,s,N,newRow,grownCap]
   have V:=grown Z aj (Value.ownBlock (aG g n Z));exact⟨_,_,C,V.1,V.2,Or.inr rfl⟩
theorem UC{K:Act→aK→Prop}(s x:Operand)(t T:TypeId)
  (H:o.op= .call {callee:=.builtin .append,args:=#[s,x],argTypes:=#[t,T]})
  (base:Nat) (e:TypeId) (i:TypeInfo) (z:cO) (k J:IntKind) (ht:P.underlying t=some (.slice e)) (R:P.underlying T=some (.int J)) (hi:P.info? e=some i) (G:i.zero=some z)
  (Y:i.size=1) (O:i.bytes=1) (N:z.cells.size=1) (M:(z.cells[0]!).oneCell'=true)
  (v:cO) (n:Nat) (S:List cO) (F:a.eval s=v) (V:w.ownsRow base e 1 v n S) (m:Nat) (hx:a.eval x= .int k m) (L:n+m≤1000000000) (X:base≤w)
  (h:∀B Z W,W.ownsRow base e 1 (aG B (n+m) Z) (n+m) (S++List.replicate m (z.cells[0]!))→w.grownBy W v.ownBlock→((Value.slice B (n+m) Z).ownBlock=v.ownBlock∨(Value.slice B (n+m) Z).ownBlock=some w.heap.size)→K (a.put o.dst (aG B (n+m) Z)) W):o.wp P a w K Q:=by
 obtain⟨C,W,U,I,E,D⟩:=SA w base t T o.type e i z k J ht R hi G Y O N M v n S V m L X;obtain⟨B,Z,rfl⟩:=IK I;unfold Oper.wp execOp;simp only[H,resolve,invoke,builtin,mJ,Sem.run_pure,Result.andThen_ok,List.map_toArray,oq,List.map_nil,F,hx,U];exact h B Z W I E D
theorem Rk{X:Array Oper}{K:Act→aK→Prop}(T:o.guard=none)(s x:Operand)(t V:TypeId)
  (J:o.op= .call {callee:=.builtin .append,args:=#[s,x],argTypes:=#[t,V]})
  (base:Nat) (e:TypeId) (i:TypeInfo) (z:cO) (k L:IntKind) (ht:P.underlying t=some (.slice e)) (S:P.underlying V=some (.int L)) (hi:P.info? e=some i) (I:i.zero=some z)
  (Z:i.size=1) (R:i.bytes=1) (O:z.cells.size=1) (N:(z.cells[0]!).oneCell'=true)
  (v:cO) (n:Nat) (U:List cO) (H:a.eval s=v) (W:w.ownsRow base e 1 v n U) (m:Nat) (hx:a.eval x= .int k m) (M:n+m≤1000000000) (Y:base≤w)
  (h:∀B cap w',w'.ownsRow base e 1 (aG B (n+m) cap) (n+m) (U++List.replicate m (z.cells[0]!))→w.grownBy w' v.ownBlock→((Value.slice B (n+m) cap).ownBlock=v.ownBlock∨(Value.slice B (n+m) cap).ownBlock=some w.heap.size)→K (a.put o.dst (aG B (n+m) cap)) w'):
  if Region.wanted o (yielded X a.tmps)=true then Oper.wp P o a w K Q else E:=by
 have G:Region.wanted o (yielded X a.tmps)=true:=by simp[Region.wanted,T]
 rw[aF G];exact UC w s x t V J base e i z k L ht S hi I Z R O N v n U H W m hx M Y h
end
theorem MO{P:Program}(w:aK)(d:Nat){X T:TypeId}{ms:Array (String × TypeId)}{i:TypeInfo}{k:IntKind}(a b:Int)
  (hi:P.underlying X=some (.interface ms)) (W:P.underlying T=some (.int k)) (Z:P.info? T=some i) (Y:i.comparable=true):
  (Op.equalIn (d+2) X (.iface T (.int k a)) (.iface T (.int k b))).run P w= .ok (a==b) w:=by
 simp[Op.equalIn,nM hi,nM W,typeInfo,Z,Y]
theorem aiU:(prog.info? 48).map (·.comparable)=some true:=aW
theorem am9(c d:Int)(w:aK):(binOp .eql 32 (.iface 48 c) (.iface 48 d)).run prog w= .ok (.bool (c==d)) w:=by
 obtain⟨i,Z,Y⟩:=nU.1 aiU;simp only[binOp];simp[Op.equal,Op.maxDepth,MO w 9998 c d underlying32 underlying48 Z Y]
theorem ana(x y:cO)(w:aK):(binOp .eql 32 (.iface 167 x) (.iface 48 y)).run prog w= .ok (.bool false) w:=
 run_eql_iface_types _ _ x y underlying32 bn w
def Uj(t:TypeId):Sem cO:=do Rtype.noPackHeld "Comparable" t;pure (.bool (←typeInfo t).comparable)
theorem anb(w:aK):((ReflectliteType.method Uj) #[.agg #[aY (some (aH 1 48))]]).run prog w= .ok (.bool true) w:=aW
theorem ab1(h:cO)(w:aK):(Go.method 575 219 (.agg #[h]) "Comparable").run prog w= .ok (364,.agg #[h]) w:=aW
theorem al5(v:cO)(x:TypeId)(w:aK):(Instr.typeAssert (.iface 167 v) x 221 true).run prog w= .ok (eP #[iI,.bool false]) w:=
 run_typeAssert_lacksB underlying221 aW aW v x w
theorem anc(v:cO)(x:TypeId)(w:aK):(Instr.typeAssert (.iface 48 v) x 221 true).run prog w= .ok (eP #[iI,.bool false]) w:=
 run_typeAssert_lacksB underlying221 aW aW v x w
theorem akN{path:List (ByteArray × Int)}{c d:Int}(w:aK)(U:ErrAt w path (.iface 48 c) v):
  Calls prog 85 #[v,.iface 48 d,.bool true] w fun e W=>e=bM (.bool (c==d))∧w=W:=by
 have Q:=am9;have P:=ana;have O:=al5;have N:=anc;have M:=SY;have L:=Yd;have K:=Yc;have J:=U4;go_enter func85,ntmps85;go_wp2
 go_loopg [0] path (fun k v wr=>∃r,r.length=k∧ErrAt w r (.iface 48 c) v∧wr=w)
 case atStart=>exact⟨path,rfl,U,rfl⟩
 case round=>
  obtain⟨r,S,V,rfl⟩:=hrel;cases r with
  |nil=>
   obtain rfl:_=_:=V
   by_cases Z:c=d
   ·have X:(c==d)=true:=by simpa using Z
    clear Z;go_wp2;go_ret;exact⟨by rw[X];rfl,rfl⟩
   ·have X:(c==d)=false:=by simpa using Z
    clear Z;go_wp2;go_ret;exact⟨by rw[X];rfl,rfl⟩
  |cons x r=>
   obtain⟨s,p⟩:=x;obtain⟨b,u,rfl,R,Y⟩:=V;obtain⟨T,x,rfl⟩:=Y.iface;go_wp2_with(go_at_call 361;refine(U5 b s p _ _ R).aQ ?_;rintro W rfl);go_roundg r.length
   case measure=>simp at S;omega
   case rel=>exact⟨r,rfl,Y,rfl⟩
theorem Rt{path:List (ByteArray × Int)}{c d:Int}(w:aK)(Z:ErrAt w path (.iface 48 c) v):
  Calls prog 47 #[v,.iface 48 d] w fun e Y=>e=bM (.bool (c==d))∧w=Y:=by
 have X:=@run_callFunc_extern prog 84 _ ReflectliteType.typeOf func84 aW aW aW aW;have W:=@run_callFunc_extern prog 364 _ (ReflectliteType.method Uj) func364 aW aW aW aW;have V:=YR;have U:=ab1;have S:=anb;obtain⟨T,x,rfl⟩:=Z.iface;change Hid _ at Z;go_enter func47,ntmps47;go_wp2_with(go_at_call 85;refine(akN _ Z).aQ ?_;rintro Y rfl);go_ret;exact sD
def ai9(lo hi:Nat)(w:aK)(g:Nat)(b:aO)(p:Nat)(e:Ending)(w':aK):Prop:=
 ∃A Z,e=bM (.agg #[aB (RP (iC b p (Af p))),.slice A (MK (iC b p (Af p))).length Z])∧
  Rd w' 2 A (MK (iC b p (Af p))).length (wH (MK (iC b p (Af p))))∧(∀a,A=some a→w.heap.size≤a.block)∧uj 145 lo hi w g b (p+Af p) w'
theorem adO{p:Nat}(hb:b.length≤1000000000)(w:aK)(qC:hi≤w)(h:yB 145 lo hi w g b p):
  Calls prog 69 #[aY g] w (ai9 lo hi w g b p):=by
 have hp:=h.1;have qD:=h.lt;have H:=ay h;clear h;unfold ai9;obtain⟨n,hn⟩:∃n,Af p=n:=⟨_,rfl⟩;have qe:(p+n)%8=0∧n<8:=by rw[←hn];unfold Af;omega
 obtain⟨qe,qE⟩:=qe;rw[hn];clear hn;have qF:p+n≤8*b.length:=aj
 go_enter func69,ntmps69;go_wp2
 go_loopg [] n (fun k wr=>∃(j:Nat) (A:dK) (Z:Nat),j+k=n∧uj 145 lo hi w g b (p+j) wr∧bF wr w 79 #[aB 0,bU]∧
  bF wr (w.heap.size+1) 79 #[(RP (iC b p j)),aG A (MK (iC b p j)) Z]∧Rd wr 2 A (MK (iC b p j)) (wH (MK (iC b p j)))∧Hid (∀a,A=some a→w.heap.size+2≤a.block))
 case atStart=>
  have qf:Below w w (w.alloc (aS #[aB 0,bU] 79)):=(aU _ _).alloc (bC _) _;have V:=qf.alloc qf.size (aS #[aB 0,bU] 79);exact⟨0,none,0,aj,⟨H.keep V,bQ.of_below V⟩,(bF.new w _ _).alloc _,bF.new1 _ _ _ _,Rd.nil,fun a S=>by cases S⟩
 case round=>
  obtain⟨j,A,Z,hj,E,qg,qh,qi,U⟩:=hrel;obtain⟨HO,qj,qk,l⟩:=jH E qg qh qi;obtain⟨⟨_,qv,A',c',D,_,_⟩,_⟩:=E;have qw:=D.c1;clear qv D qg qh qi
  by_cases qG:j<n
  ·have z:(((p+j:Nat):Int)%8!= 0)=true:=by rw[bne_iff_ne];omega
   obtain⟨q,hq⟩:∃q,p+j=q:=⟨_,rfl⟩;rw[hq]at qw z;have HQ:=ay hq;have ql:yB 145 lo hi wr g b q:=by rw[←hq];exact HO.1
   have HG:=ay (QL (n:=1) hb aj aj _ (by have:=HO.2.size;omega) ql);rw[UN]at HG;have qy:=Bi.Pj b q;obtain⟨x,hx⟩:∃x,Bi.bit b q=x:=⟨_,rfl⟩;rw[hx]at HG qy;have HX:=ay hx;clear hq hx ql;go_wp2_with fail;refine HG.aQ ?_;rintro K ⟨qm,T⟩;have qo:=qj.dH T aj;have f:=qk.dH T aj;have y:=l.dH T (fun a S e=>by have:=U.out a S;omega);have qB:=f.lt
   have qq:uj 145 lo hi w g b (p+(j+1)) (K.alloc (aS #[aB 0,bU] 79)):=by
    have h1:uj 145 lo hi w g b (q+1) K:=⟨qm,HO.2.trans T⟩;rw[show q+1=p+(j+1) by have:=HQ.out;omega]at h1;exact⟨h1.1.keep ((aU _ _).alloc (bC _) _),h1.2.alloc _⟩
   have u:=qo.alloc (aS #[aB 0,bU] 79);have t:=f.alloc (aS #[aB 0,bU] 79);have s:=y.alloc (aS #[aB 0,bU] 79);obtain⟨P,N,W,Q⟩:=jH qq u t s;clear qo f y qm T qq u t s
   by_cases J:x=0
   ·have qz:(x==1)=false:=by rw[J];rfl
    have G:iC b p (j+1)=iC b p j:=by
     simp only[iC];rw[HQ,HX,au aj];split<;>simp_all
    have F:=ay G;clear J G;go_wp2_with fail;go_roundg(gk-1)
    case measure=>omega
    case rel=>exact⟨j+1,A,Z,aj,P,N,by rw[F];exact W,by rw[F];exact Q,U⟩
   ·have I:x=1:=aj
    have qz:(x==1)=true:=by rw[I];rfl
    cases X:iC b p j with
    |some a=>
     have G:iC b p (j+1)=iC b p j:=by
      simp only[iC];rw[X]
     have F:=ay (G.trans X);rw[X]at W Q;obtain⟨d0,d1,_,_⟩:=og W;simp only[RP]at d0;clear J I G X;go_wp2_with(go_at_call 42;refine(EW 2 _ _).aQ ?_;rintro w' rfl);go_roundg(gk-1)
     case measure=>omega
     case rel=>
      have O:Below (K.alloc (aS #[aB 0,bU] 79)) (K.alloc (aS #[aB 0,bU] 79)) ((K.alloc (aS #[aB 0,bU] 79)).alloc (aS #[aB 2,aG A (MK (some a)) Z] 79)):=(aU _ _).alloc (bC _) _;exact⟨j+1,A,Z,aj,⟨P.1.keep O,P.2.trans (bQ.of_below O)⟩,N.alloc _,by rw[F];exact W.alloc _,by rw[F];exact Q.alloc _,U⟩
    |none=>
     have G:iC b p (j+1)=some q:=by
      simp only[iC];rw[X,HQ,HX,aF I]
     rw[X]at W Q;have F:=ay G;obtain⟨d0,d1,_,_⟩:=og W;simp only[RP]at d0;have O:Below (K.alloc (aS #[aB 0,bU] 79)) (K.alloc (aS #[aB 0,bU] 79)) ((K.alloc (aS #[aB 0,bU] 79)).alloc (aS #[aB 0,aG A (MK none) Z] 79)):=(aU _ _).alloc (bC _) _;have qA:Hid (uj 145 lo hi w g b (p+(j+1)) ((K.alloc (aS #[aB 0,bU] 79)).alloc (aS #[aB 0,aG A (MK none) Z] 79))):=⟨P.1.keep O,P.2.trans (bQ.of_below O)⟩;obtain⟨qs,r⟩:=aV (N.alloc (aS #[aB 0,aG A (MK none) Z] 79)) (W.alloc (aS #[aB 0,aG A (MK none) Z] 79));clear J I G X O P;go_wp2_with(go_at_call 42;refine(EW 0 _ _).aQ ?_;rintro w' rfl);refine(DK Ii _ aj _).mono ?_;rintro e w2 ⟨m,c2,rfl,qr,M,V⟩;have R:∀a,m=some a→w.heap.size+2≤a.block:=fun a S=>by have:=M a S;simp at this;omega
     obtain⟨e0,e1,f0,f1⟩:=og (r.keep V)
     have Y:bQ (fun i=>i=w+1) w2 ((w2.setCell ⟨w.heap.size+1,0,none⟩ (aB 2)).setCell ⟨w.heap.size+1,1,none⟩ (aG m 1 c2)):=
      ((bQ.refl (fun i=>i=w+1) w2).setCell (p:=(aH (w.heap.size+1) 0)) (fun _=>rfl) _).setCell (p:=(aH (w.heap.size+1) 1)) (fun _=>rfl) _
     have d:Hid (uj 145 lo hi w g b (p+(j+1)) ((w2.setCell ⟨w.heap.size+1,0,none⟩ (aB 2)).setCell ⟨w.heap.size+1,1,none⟩ (aG m 1 c2))):=by
      obtain⟨⟨r1,r2,B,c,r3,r4,r5⟩,r6⟩:=qA;exact⟨⟨r1,r2,B,c,(r3.keep V).dH Y aj,(r4.keep V).afD Y (fun a S h0 e=>by have:=(r5 a S h0).2.1;omega),r5⟩,(r6.trans (bQ.of_below V)).step Y (fun i hi e=>aj)⟩
     have qt:=ay ((qs.keep V).dH Y aj);have o:=((r.keep V).store 0 (aB 2)).store 1 (aG m 1 c2);obtain⟨qu,qa⟩:=aV (show bF ((w2.setCell ⟨w.heap.size+1,0,none⟩ (aB 2)).setCell ⟨w.heap.size+1,1,none⟩ (aG m 1 c2)) (w.heap.size+1) 79 #[aB 2,aG m 1 c2] by simpa using o) (Rd.dH qr Y (fun a S e=>by have:=R a S;omega));change Hid _ at R;clear qr M V Y o;go_wp2_with fail;go_roundg(gk-1)
     case measure=>omega
     case rel=>exact⟨j+1,m,c2,aj,d,qt,by rw[F];exact qu,by rw[F];exact qa,R⟩
  ·obtain rfl:j=n:=aj
   have z:(((p+j:Nat):Int)%8!= 0)=false:=jy
   obtain⟨d0,d1,_,_⟩:=og qk;obtain⟨e0,e1,f0,f1⟩:=og qj;obtain⟨fo,X⟩:∃fo,iC b p j=fo:=⟨_,rfl⟩;rw[X]at d0 d1 l;obtain⟨C,hC⟩:∃C,RP fo=C:=⟨_,rfl⟩;obtain⟨L,hL⟩:∃L,(MK fo)=L:=⟨_,rfl⟩;rw[hC]at d0;rw[hL]at d1;change Hid _ at X hC hL
   have Y:bQ (fun i=>i=w) wr ((wr.setCell ⟨w,0,none⟩ C).setCell ⟨w,1,none⟩ (aG A L Z)):=
    ((bQ.refl (fun i=>i=w) wr).setCell (p:=(aH w 0)) (fun _=>rfl) _).setCell (p:=(aH w 1)) (fun _=>rfl) _
   have d:Hid (uj 145 lo hi w g b (p+j) ((wr.setCell ⟨w,0,none⟩ C).setCell ⟨w,1,none⟩ (aG A L Z))):=by
    obtain⟨⟨r1,r2,B,c,r3,r4,r5⟩,r6⟩:=HO;exact⟨⟨r1,r2,B,c,r3.dH Y aj,r4.afD Y (fun a S h0 e=>by have:=(r5 a S h0).2.1;omega),r5⟩,r6.step Y (fun i hi e=>aj)⟩
   have qa:=ay (Rd.dH l Y (fun a S e=>by have:=U.out a S;omega));clear Y;go_wp2_with fail;refine aT (v:=.agg #[C,aG A L Z]) (by simp[results,results69,go_sem,e0,e1]) rfl ?_;rw[X,hC,hL];have h4:=qa.out;rw[hL]at h4;exact⟨A,Z,rfl,h4,fun a S=>by have:=U.out a S;omega,d⟩
end Go.Proofs.YtiaeohgghaaciaaGreatDoor
