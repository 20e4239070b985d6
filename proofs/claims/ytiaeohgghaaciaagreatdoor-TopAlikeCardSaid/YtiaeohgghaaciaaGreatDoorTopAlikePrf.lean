/- For every input the law TopAlike returns true and leaves its arguments as they were. Conditions: the listed variable errors.errorType reads as listed (the card ties that to the program's text); what the form itself asks of every input (each slice takes at most 2^47 - 4096 bytes). -/
import Derived.Test.YtiaeohgghaaciaaGreatDoorCards
import Derived.Test.YtiaeohgghaaciaaGreatDoorTie
import Derived.Test.YtiaeohgghaaciaaGreatDoorB28
namespace Go.Proofs.YtiaeohgghaaciaaGreatDoor
open Go Go.Maps Go.RowKit Go.Extern.Stop Go.Stop Go.Extern Go.Proofs.Tryz
set_option linter.all false
set_option maxRecDepth 100000
set_option maxHeartbeats 4000000
section
open Go.ChangeShapes Go.WideShapes Go.Joins Go.Deep
theorem TopAlike_holds:Rows.TopAlikeCardSaid:=
 Claim7.holds_tied_plain_at .later [] _ _ _ _
  TopAlike_row (fun _ h=>by cases h) TopAlike_wf (fun _ h=>by cases h) topAlike_row_tie rfl ⟨rfl,rfl⟩ TopAlike_main rfl
  (fun f Y X Z=>by
    obtain rfl:f=3:=(ou (TopAlike_hfn.symm.trans X)).symm;obtain rfl:Y=Tryz.f3:=(ou (func3.symm.trans Z)).symm;refine⟨TopAlike_looks,fun j t W=>?_⟩;have h:=List.all_eq_true.1 TopAlike_stand t (Array.mem_toList_iff.2 (Array.mem_of_getElem? W));show prog.wantsStandIn t=false;simpa using h)
  TopAlike_goes
#print axioms TopAlike_holds
end
end Go.Proofs.YtiaeohgghaaciaaGreatDoor
