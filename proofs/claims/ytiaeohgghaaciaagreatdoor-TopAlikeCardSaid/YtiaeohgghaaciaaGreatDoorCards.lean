/-
  DERIVED. GIVEN WITH THE SEED: THE CARDS: each row of YtiaeohgghaaciaaGreatDoorRows.lean that lists a variable, with what it lists TIED to the program's text (the seventh form; the later family's looks); each row that meets fmt, with fmt's text TOLD by the authors' own Lean function (tested against real Go, not proved from fmt's source: count such statements apart). THE CARD IS WHAT COUNTS. Prove the row's statement (the work); the ties are given (YtiaeohgghaaciaaGreatDoorTie.lean); close each card by the builder's one call (the guide's Derived/Test/ToyasCard.lean, 'card_holds'). Laid BY PROGRAM, IN A SANDBOX (cutbox-door.mjs). By AI agents, Wed Nov 11 2026. No macro, syntax, notation, axiom, sorry.
-/
import Derived.Test.YtiaeohgghaaciaaGreatDoorRows
import GoSem.ClaimSeven
namespace Go.Proofs.YtiaeohgghaaciaaGreatDoor
namespace Rows

/-- THE TIED CARD OF 'kintop.TopAlike'. -/
def topAlikeCard : Claim7 := { stood := { row := topAlikeRow, standIns := [], harness := (true, "6596f2c9d605a72a982e5f69a895b85533d31879c7116fc738bc0ea30e21cc81"), looks := true }, kinds := [], alts := [], laidByText := true, laidKinds := [.handle], laidTests := true, laidLooks := .later }
def TopAlikeCardSaid : Prop := Claim7.holds Tryz.pinned (.plain (OpenSpec.ofChange topAlikeSpec)) topAlikeCard

/-- THE TIED CARD OF 'kintop.TopEither'. -/
def topEitherCard : Claim7 := { stood := { row := topEitherRow, standIns := [], harness := (true, "6596f2c9d605a72a982e5f69a895b85533d31879c7116fc738bc0ea30e21cc81"), looks := true }, kinds := [], alts := [], laidByText := true, laidKinds := [.handle], laidTests := true, laidLooks := .later }
def TopEitherCardSaid : Prop := Claim7.holds Tryz.pinned (.plain (OpenSpec.ofChange topEitherSpec)) topEitherCard

/-- THE SECOND FORM's CARD OF 'kintop.TopAlike'. -/
def topAlikeUptoCard : Claim7 := { stood := { row := topAlikeUptoRow, standIns := [], harness := (true, "6596f2c9d605a72a982e5f69a895b85533d31879c7116fc738bc0ea30e21cc81"), looks := true }, kinds := [], alts := [], laidByText := true, laidKinds := [.handle], laidTests := true, laidLooks := .later }
def TopAlikeUptoCardSaid : Prop := Claim7.holds Tryz.pinned (.plain (OpenSpec.upto topAlikeSpec)) topAlikeUptoCard

/-- THE SECOND FORM's CARD OF 'kintop.TopEither'. -/
def topEitherUptoCard : Claim7 := { stood := { row := topEitherUptoRow, standIns := [], harness := (true, "6596f2c9d605a72a982e5f69a895b85533d31879c7116fc738bc0ea30e21cc81"), looks := true }, kinds := [], alts := [], laidByText := true, laidKinds := [.handle], laidTests := true, laidLooks := .later }
def TopEitherUptoCardSaid : Prop := Claim7.holds Tryz.pinned (.plain (OpenSpec.upto topEitherSpec)) topEitherUptoCard
end Rows
end Go.Proofs.YtiaeohgghaaciaaGreatDoor
