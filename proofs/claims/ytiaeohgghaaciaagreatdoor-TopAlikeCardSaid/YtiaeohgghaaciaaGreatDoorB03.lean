import Derived.ChangeSame
import Derived.ChangeVars
import Derived.JoinedOf
import Derived.LaidHandle
import Derived.LaidLaws
import Derived.Lib.SmallJoins
import Derived.OpenShut
import Derived.ProofKit
import Derived.RowKit
import Derived.RowKitTokens
import Derived.SizedLaws
import Derived.Stop.Joined
import Derived.Test.YtiaeohgghaaciaaGreatDoorRows
import Derived.Test.YtiaeohgghaaciaaGreatDoorB02
namespace Go.Proofs.YtiaeohgghaaciaaGreatDoor
open Go Go.Maps Go.RowKit Go.Extern.Stop Go.Stop Go.Extern Go.Proofs.Tryz
set_option linter.all false
set_option maxRecDepth 100000
set_option maxHeartbeats 4000000
variable{v:Value}
section
open Go.ChangeShapes Go.WideShapes Go.Joins Go.Deep
theorem own:ownKnob prog.godebug=none:=aW
theorem laidOut:laidOutB prog=true:=aW
theorem et:prog.globalNamed "errors.errorType" =some 0:=aW
theorem rt:(prog.cutTypes.find? (·.1== "internal/reflectlite.rtype")).map (·.2)=some 219:=aW
theorem oneRow:((List.range 475).filter fun t=>prog.rowNamed t [101,114,114,111,114])=[32]:=aW
theorem aeT:prog.types.size=475:=aW
theorem handle_of_laid{W:aK}(h:laidMetH prog [("errors.errorType",Rows.laid_errors_errorType)] W):Gl W:=by
 have V:laidMet prog [] W∧handlesMet prog [("errors.errorType",Rows.laid_errors_errorType)] W:=h;obtain⟨Z,u,U,T,S,R,Q,Y⟩:=V.2 _ (iw.2 rfl);have P:Z=[101,114,114,111,114]:=(ou T).symm;subst P;obtain rfl:=ou (rt.symm.trans S);have X:U∈(List.range 475).filter fun t=>prog.rowNamed t [101,114,114,111,114]:=List.mem_filter.2 ⟨yH.2 (by rw[←aeT];exact R),Q⟩
 rw[oneRow]at X;obtain rfl:=iw.1 X;have O:typeHandle prog 32=aY (some (aH 1 32)):=aW
 rw[O]at Y;unfold Gl;simpa using World.var?_cell et Y 0
noncomputable def laidWorld(os:Os):aK:=
 let Z:=World.holding prog os ⟨#[],#[],[]⟩
 {Z with heap:=Z.heap.modify 0 fun
    | .cells _ t frozen=>.cells #[.iface 219 (.agg #[.pointer (some ⟨1,32,none⟩)])] t frozen
    |o=>o}
theorem laidWorld_met(os:Os)(Z:Array cO):laidMetH prog [("errors.errorType",Rows.laid_errors_errorType)] ((laidWorld os).forCall (fun _ _=>0) ⟨#[],Z,[]⟩).memory:=
 laidMetH_of_parts (laidMet_nil _ _) aW
section
variable{H:Type}{enc:TypeId × cO→H}{W:aK}{base b0:Nat}{spare:Nat→Bool}{held:Bool}
theorem aaB{d:DataW H}{p:List MemPlace}(L:Value.okWide prog W .any b0 23 v)(h:DataW.Trod enc prog W base spare held 23 v d p):
  ∃K J I G F E D C:Int,v= .agg #[K,J,I,G,F,E,D,C]:=by
 obtain⟨B,rfl,V⟩:=okWide_struct underlying23 L;obtain⟨l⟩:=B
 match l,V.trans (aW:prog.cellsOf 23=8)with
 | [A,z,y,x,w,u,t,s],_=>
   obtain⟨M,r⟩:=h;obtain⟨q,n,_,hx,_,X,Y⟩:=DataW.trod_struct underlying23 r;have Z:prog.cellsOf 3=1:=aW
   match q,X with
   | [o,m,k,j,i,g,f,e],_=>
     obtain⟨c,U,_⟩:=kZ underlying3 (show DataW.trod enc prog W base spare held n 3 [A]=some o by simpa[Value.cells,Z]using Y 0 _ rfl);obtain⟨b,T,_⟩:=kZ underlying3 (show DataW.trod enc prog W base spare held n 3 [z]=some m by simpa[Value.cells,Z]using Y 1 _ rfl);obtain⟨a,S,_⟩:=kZ underlying3 (show DataW.trod enc prog W base spare held n 3 [y]=some k by simpa[Value.cells,Z]using Y 2 _ rfl);obtain⟨a3,R,_⟩:=kZ underlying3 (show DataW.trod enc prog W base spare held n 3 [x]=some j by simpa[Value.cells,Z]using Y 3 _ rfl);obtain⟨a4,Q,_⟩:=kZ underlying3 (show DataW.trod enc prog W base spare held n 3 [w]=some i by simpa[Value.cells,Z]using Y 4 _ rfl);obtain⟨a5,P,_⟩:=kZ underlying3 (show DataW.trod enc prog W base spare held n 3 [u]=some g by simpa[Value.cells,Z]using Y 5 _ rfl);obtain⟨a6,O,_⟩:=kZ underlying3 (show DataW.trod enc prog W base spare held n 3 [t]=some f by simpa[Value.cells,Z]using Y 6 _ rfl);obtain⟨a7,N,_⟩:=kZ underlying3 (show DataW.trod enc prog W base spare held n 3 [s]=some e by simpa[Value.cells,Z]using Y 7 _ rfl);simp only[List.cons.injEq,and_true]at U T S R Q P O N;subst U T S R Q P O N;exact⟨c,b,a,a3,a4,a5,a6,a7,rfl⟩
theorem P7{d:DataW H}{p:List MemPlace}(Z:Value.okWide prog W .any b0 3 v)(h:DataW.Trod enc prog W base spare held 3 v d p):
  ∃n:Int,v=n∧-9223372036854775808≤n∧n≤9223372036854775807:=by
 obtain⟨n,rfl,_,_,Y⟩:=open_int underlying3 Z h;exact⟨n,rfl,bounds_i64 Y⟩
end
end
end Go.Proofs.YtiaeohgghaaciaaGreatDoor
