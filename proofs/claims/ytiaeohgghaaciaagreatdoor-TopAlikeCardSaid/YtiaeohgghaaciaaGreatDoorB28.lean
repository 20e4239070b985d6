import Derived.Test.YtiaeohgghaaciaaGreatDoorB26
import Derived.Test.YtiaeohgghaaciaaGreatDoorB27
namespace Go.Proofs.YtiaeohgghaaciaaGreatDoor
open Go Go.Maps Go.RowKit Go.Extern.Stop Go.Stop Go.Extern Go.Proofs.Tryz
set_option linter.all false
set_option maxRecDepth 100000
set_option maxHeartbeats 4000000
theorem TopAlike_j13:(Rows.topAlikeRow.named==prog.varsNamed 3)=true:=aW
theorem TopAlike_j14:(Rows.topAlikeRow.maps==(Tryz.f3.params.toList++Rows.topAlikeSpec.plain.varTypes prog).any (prog.mapsRec ·))=true:=aW
theorem TopAlike_j15:(Rows.topAlikeRow.ifaces==(Tryz.f3.params.toList++Rows.topAlikeSpec.plain.varTypes prog).any (prog.ifacesRec ·))=true:=aW
theorem TopAlike_j16:(Rows.topAlikeRow.mapsOut==prog.mapsAmong Tryz.f3.resultTypes.toList)=true:=aW
theorem TopAlike_j17:(Rows.topAlikeRow.loops==(Tryz.f3.params.toList++Rows.topAlikeSpec.plain.varTypes prog).any (prog.loopsFrom ·))=true:=aW
theorem TopAlike_j18:(Rows.topAlikeRow.wideKeys==(Tryz.f3.params.toList++Rows.topAlikeSpec.plain.varTypes prog++Tryz.f3.resultTypes.toList).any (prog.wideKeysFrom ·))=true:=aW
theorem TopAlike_j19:Rows.topAlikeSpec.vars.all (prog.varReadable ·)=true:=aW
theorem TopAlike_j20:Tryz.f3.resultTypes.all (fun t=>prog.readableRec t&&decide (t<prog.types.size))=true:=aW
theorem TopAlike_j21:(Rows.topAlikeRow.ifacesOut==Tryz.f3.resultTypes.toList.any (prog.ifacesRec ·))=true:=aW
theorem TopAlike_j22:(Rows.topAlikeRow.loopsOut==Tryz.f3.resultTypes.toList.any (prog.loopsFrom ·))=true:=aW
theorem TopAlike_j23:(Rows.topAlikeRow.plainKeys==prog.plainKeys)=true:=aW
theorem TopAlike_j24:Rows.topAlikeRow.shortTexts.isNone=true:=aW
theorem TopAlike_j25:prog.stopsHeard=true:=aW
theorem TopAlike_j26:prog.mayEnter=true:=aW
theorem TopAlike_j27:(Rows.topAlikeRow.lifted==prog.liftsFinal)=true:=aW
theorem TopAlike_j28:(prog.make==some Rows.topAlikeRow.make)=true:=aW
theorem TopAlike_j29:(Rows.topAlikeRow.kinds==(if Rows.topAlikeRow.domain.isEmpty then []else Tryz.f3.params.toList.map fun t=>match prog.underlying t with|some (.int k)=>some k|_=>none))=true:=aW
theorem TopAlike_j30:(Rows.topAlikeRow.pinned==Rows.topAlikeRow.pinnedBy)=true:=aW
theorem TopAlike_j31:(Rows.topAlikeRow.veiled==(Tryz.f3.params.toList++Rows.topAlikeSpec.plain.varTypes prog++Tryz.f3.resultTypes.toList).any (prog.veiledRec ·))=true:=aW
theorem TopAlike_j32:Rows.topAlikeRow.veiledFits prog Tryz.f3.params.toList (Tryz.f3.params.toList++Rows.topAlikeSpec.plain.varTypes prog++Tryz.f3.resultTypes.toList)=true:=aW
theorem TopAlike_hfn:prog.funcNamed "kinescope/kintop.TopAlike" =some 3:=aW
theorem kR{a b:Bool}(h:a=true)(k:b=true):(a&&b)=true:=by rw[h,k];rfl
theorem TopAlike_facts:joinedFacts prog 3 Tryz.f3 Rows.topAlikeSpec Rows.topAlikeRow=true:=kR (kR (kR (kR (kR (kR (kR (kR (kR (kR (kR (kR (kR (kR (kR (kR (kR (kR (kR (kR (kR (kR (kR (kR (kR (kR (kR (kR (kR (kR (kR (TopAlike_j1) TopAlike_j2) TopAlike_j3) TopAlike_j4) TopAlike_j5) TopAlike_j6) TopAlike_j7) TopAlike_j8) TopAlike_j9) TopAlike_j10) TopAlike_j11) TopAlike_j12) TopAlike_j13) TopAlike_j14) TopAlike_j15) TopAlike_j16) TopAlike_j17) TopAlike_j18) TopAlike_j19) TopAlike_j20) TopAlike_j21) TopAlike_j22) TopAlike_j23) TopAlike_j24) TopAlike_j25) TopAlike_j26) TopAlike_j27) TopAlike_j28) TopAlike_j29) TopAlike_j30) TopAlike_j31) TopAlike_j32
theorem TopAlike_inst:Tryz.f3.isInstance prog Rows.topAlikeRow.origin Rows.topAlikeRow.targs:=by
 unfold Func.isInstance;exact tu aW
theorem TopAlike_wrap:Tryz.f3.isWrapper prog Rows.topAlikeRow.wrapper Rows.topAlikeRow.mainSum:=by unfold Func.isWrapper;rw[au (of_decide_eq_false aW)];exact sD
theorem TopAlike_wf:Rows.topAlikeRow.wfByText (OpenSpec.ofChange Rows.topAlikeSpec)=true:=aW
theorem TopAlike_goes:false=Rows.topAlikeRow.goesBy prog:=aW
theorem TopAlike_looks:true=prog.looks []:=aW
theorem TopAlike_main:prog.mainIs=some (Rows.topAlikeCard.stood.harness.1,Rows.topAlikeCard.stood.harness.2.toList):=aW
theorem TopAlike_stand:(Tryz.f3.params.toList.all fun t=>!prog.wantsStandIn t)=true:=aW
section
open Go.ChangeShapes Go.WideShapes Go.Joins Go.Deep
theorem TopAlike_row:Rows.TopAlikeSaid:=
 OpenClaim.holds_of_wide 3 Tryz.f3 rfl rfl rfl rfl rfl rfl rfl ⟨rfl,rfl,rfl,rfl,rfl⟩ rfl rfl rfl rfl rfl TopAlike_hfn func3 TopAlike_facts TopAlike_inst TopAlike_wrap
  (fun X Z H Y _=>TopAlike_lifted X Z H Y)
end
end Go.Proofs.YtiaeohgghaaciaaGreatDoor
