/- For every input the law TopEither returns true and leaves its arguments as they were. Conditions: the listed variable errors.errorType reads as listed (the card ties that to the program's text); what the form itself asks of every input (each slice takes at most 2^47 - 4096 bytes). -/
import Derived.Test.YtiaeohgghaaciaaGreatDoorCards
import Derived.Test.YtiaeohgghaaciaaGreatDoorTie
import Derived.Test.YtiaeohgghaaciaaGreatDoorA28
namespace Go.Proofs.YtiaeohgghaaciaaGreatDoor
open Go Go.Maps Go.RowKit Go.Extern.Stop Go.Stop Go.Extern Go.Proofs.Tryz
set_option linter.all false
set_option maxRecDepth 100000
set_option maxHeartbeats 4000000
section
open Go.ChangeShapes Go.WideShapes Go.Joins Go.Deep
theorem TopEither_holds:Rows.TopEitherCardSaid:=
 Claim7.holds_tied_plain_at .later [] _ _ _ _
  TopEither_row (fun _ h=>by cases h) TopEither_wf (fun _ h=>by cases h) topEither_row_tie rfl ⟨rfl,rfl⟩ TopEither_main rfl
  (fun f Y X Z=>by
    obtain rfl:f=4:=(ou (TopEither_hfn.symm.trans X)).symm;obtain rfl:Y=Tryz.f4:=(ou (func4.symm.trans Z)).symm;refine⟨TopEither_looks,fun j t W=>?_⟩;have h:=List.all_eq_true.1 TopEither_stand t (Array.mem_toList_iff.2 (Array.mem_of_getElem? W));show prog.wantsStandIn t=false;simpa using h)
  TopEither_goes
#print axioms TopEither_holds
end
end Go.Proofs.YtiaeohgghaaciaaGreatDoor
