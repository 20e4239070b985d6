import Derived.Test.YtiaeohgghaaciaaGreatDoorA26
import Derived.Test.YtiaeohgghaaciaaGreatDoorA27
namespace Go.Proofs.YtiaeohgghaaciaaGreatDoor
open Go Go.Maps Go.RowKit Go.Extern.Stop Go.Stop Go.Extern Go.Proofs.Tryz
set_option linter.all false
set_option maxRecDepth 100000
set_option maxHeartbeats 4000000
theorem TopEither_j13:(Rows.topEitherRow.named==prog.varsNamed 4)=true:=aW
theorem TopEither_j14:(Rows.topEitherRow.maps==(Tryz.f4.params.toList++Rows.topEitherSpec.plain.varTypes prog).any (prog.mapsRec ·))=true:=aW
theorem TopEither_j15:(Rows.topEitherRow.ifaces==(Tryz.f4.params.toList++Rows.topEitherSpec.plain.varTypes prog).any (prog.ifacesRec ·))=true:=aW
theorem TopEither_j16:(Rows.topEitherRow.mapsOut==prog.mapsAmong Tryz.f4.resultTypes.toList)=true:=aW
theorem TopEither_j17:(Rows.topEitherRow.loops==(Tryz.f4.params.toList++Rows.topEitherSpec.plain.varTypes prog).any (prog.loopsFrom ·))=true:=aW
theorem TopEither_j18:(Rows.topEitherRow.wideKeys==(Tryz.f4.params.toList++Rows.topEitherSpec.plain.varTypes prog++Tryz.f4.resultTypes.toList).any (prog.wideKeysFrom ·))=true:=aW
theorem TopEither_j19:Rows.topEitherSpec.vars.all (prog.varReadable ·)=true:=aW
theorem TopEither_j20:Tryz.f4.resultTypes.all (fun t=>prog.readableRec t&&decide (t<prog.types.size))=true:=aW
theorem TopEither_j21:(Rows.topEitherRow.ifacesOut==Tryz.f4.resultTypes.toList.any (prog.ifacesRec ·))=true:=aW
theorem TopEither_j22:(Rows.topEitherRow.loopsOut==Tryz.f4.resultTypes.toList.any (prog.loopsFrom ·))=true:=aW
theorem TopEither_j23:(Rows.topEitherRow.plainKeys==prog.plainKeys)=true:=aW
theorem TopEither_j24:Rows.topEitherRow.shortTexts.isNone=true:=aW
theorem TopEither_j25:prog.stopsHeard=true:=aW
theorem TopEither_j26:prog.mayEnter=true:=aW
theorem TopEither_j27:(Rows.topEitherRow.lifted==prog.liftsFinal)=true:=aW
theorem TopEither_j28:(prog.make==some Rows.topEitherRow.make)=true:=aW
theorem TopEither_j29:(Rows.topEitherRow.kinds==(if Rows.topEitherRow.domain.isEmpty then []else Tryz.f4.params.toList.map fun t=>match prog.underlying t with|some (.int k)=>some k|_=>none))=true:=aW
theorem TopEither_j30:(Rows.topEitherRow.pinned==Rows.topEitherRow.pinnedBy)=true:=aW
theorem TopEither_j31:(Rows.topEitherRow.veiled==(Tryz.f4.params.toList++Rows.topEitherSpec.plain.varTypes prog++Tryz.f4.resultTypes.toList).any (prog.veiledRec ·))=true:=aW
theorem TopEither_j32:Rows.topEitherRow.veiledFits prog Tryz.f4.params.toList (Tryz.f4.params.toList++Rows.topEitherSpec.plain.varTypes prog++Tryz.f4.resultTypes.toList)=true:=aW
theorem TopEither_hfn:prog.funcNamed "kinescope/kintop.TopEither" =some 4:=aW
theorem kR{a b:Bool}(h:a=true)(k:b=true):(a&&b)=true:=by rw[h,k];rfl
theorem TopEither_facts:joinedFacts prog 4 Tryz.f4 Rows.topEitherSpec Rows.topEitherRow=true:=kR (kR (kR (kR (kR (kR (kR (kR (kR (kR (kR (kR (kR (kR (kR (kR (kR (kR (kR (kR (kR (kR (kR (kR (kR (kR (kR (kR (kR (kR (kR (TopEither_j1) TopEither_j2) TopEither_j3) TopEither_j4) TopEither_j5) TopEither_j6) TopEither_j7) TopEither_j8) TopEither_j9) TopEither_j10) TopEither_j11) TopEither_j12) TopEither_j13) TopEither_j14) TopEither_j15) TopEither_j16) TopEither_j17) TopEither_j18) TopEither_j19) TopEither_j20) TopEither_j21) TopEither_j22) TopEither_j23) TopEither_j24) TopEither_j25) TopEither_j26) TopEither_j27) TopEither_j28) TopEither_j29) TopEither_j30) TopEither_j31) TopEither_j32
theorem TopEither_inst:Tryz.f4.isInstance prog Rows.topEitherRow.origin Rows.topEitherRow.targs:=by
 unfold Func.isInstance;exact tu aW
theorem TopEither_wrap:Tryz.f4.isWrapper prog Rows.topEitherRow.wrapper Rows.topEitherRow.mainSum:=by unfold Func.isWrapper;rw[au (of_decide_eq_false aW)];exact sD
theorem TopEither_wf:Rows.topEitherRow.wfByText (OpenSpec.ofChange Rows.topEitherSpec)=true:=aW
theorem TopEither_goes:false=Rows.topEitherRow.goesBy prog:=aW
theorem TopEither_looks:true=prog.looks []:=aW
theorem TopEither_main:prog.mainIs=some (Rows.topEitherCard.stood.harness.1,Rows.topEitherCard.stood.harness.2.toList):=aW
theorem TopEither_stand:(Tryz.f4.params.toList.all fun t=>!prog.wantsStandIn t)=true:=aW
section
open Go.ChangeShapes Go.WideShapes Go.Joins Go.Deep
theorem TopEither_row:Rows.TopEitherSaid:=
 OpenClaim.holds_of_wide 4 Tryz.f4 rfl rfl rfl rfl rfl rfl rfl ⟨rfl,rfl,rfl,rfl,rfl⟩ rfl rfl rfl rfl rfl TopEither_hfn func4 TopEither_facts TopEither_inst TopEither_wrap
  (fun X Z H Y _=>TopEither_lifted X Z H Y)
end
end Go.Proofs.YtiaeohgghaaciaaGreatDoor
