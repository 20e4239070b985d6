/-
  DERIVED. GIVEN WITH THE SEED: THE CARDS: each row of YtnccebfapihpjaaDoorRows.lean that lists a variable, with what it lists TIED to the program's text (the seventh form; the later family's looks); each row that meets fmt, with fmt's text TOLD by the authors' own Lean function (tested against real Go, not proved from fmt's source: count such statements apart). THE CARD IS WHAT COUNTS. Prove the row's statement (the work); the ties are given (YtnccebfapihpjaaDoorTie.lean); close each card by the builder's one call (the guide's Derived/Test/ToyasCard.lean, 'card_holds'). Laid BY PROGRAM, IN A SANDBOX (cutbox-door.mjs). By AI agents, Wed Nov 11 2026. No macro, syntax, notation, axiom, sorry.
-/
import Derived.Test.YtnccebfapihpjaaDoorRows
import GoSem.ClaimSeven
namespace Go.Proofs.YtnccebfapihpjaaDoor
namespace Rows

/-- THE TIED CARD OF 'kinlaw15.SourceBack'. -/
def sourceBackCard : Claim7 := { stood := { row := sourceBackRow, standIns := [], harness := (true, "2f463e7cd066c5862051dc52aa568bc2098eb03e08a75823139e66bf938ebad5"), looks := true }, kinds := [], alts := [], laidByText := true, laidKinds := [.data, .data, .data, .handle], laidTests := true, laidLooks := .later }
def SourceBackCardSaid : Prop := Claim7.holds Tryd.pinned (.plain (OpenSpec.ofChange sourceBackSpec)) sourceBackCard

/-- THE TIED CARD OF 'kinlaw15.SourceHeads'. -/
def sourceHeadsCard : Claim7 := { stood := { row := sourceHeadsRow, standIns := [], harness := (true, "2f463e7cd066c5862051dc52aa568bc2098eb03e08a75823139e66bf938ebad5"), looks := true }, kinds := [], alts := [], laidByText := true, laidKinds := [.data, .data, .data, .handle], laidTests := true, laidLooks := .later }
def SourceHeadsCardSaid : Prop := Claim7.holds Tryd.pinned (.plain (OpenSpec.ofChange sourceHeadsSpec)) sourceHeadsCard

/-- THE TIED CARD OF 'kinlaw15.SourceGuesses'. -/
def sourceGuessesCard : Claim7 := { stood := { row := sourceGuessesRow, standIns := [], harness := (true, "2f463e7cd066c5862051dc52aa568bc2098eb03e08a75823139e66bf938ebad5"), looks := true }, kinds := [], alts := [], laidByText := true, laidKinds := [.data, .data, .data, .handle], laidTests := true, laidLooks := .later }
def SourceGuessesCardSaid : Prop := Claim7.holds Tryd.pinned (.plain (OpenSpec.ofChange sourceGuessesSpec)) sourceGuessesCard

/-- THE TIED CARD OF 'kinlaw15.SourceTotal'. -/
def sourceTotalCard : Claim7 := { stood := { row := sourceTotalRow, standIns := [], harness := (true, "2f463e7cd066c5862051dc52aa568bc2098eb03e08a75823139e66bf938ebad5"), looks := true }, kinds := [], alts := [], laidByText := true, laidKinds := [.data, .data, .data, .handle], laidTests := true, laidLooks := .later }
def SourceTotalCardSaid : Prop := Claim7.holds Tryd.pinned (.plain (OpenSpec.ofChange sourceTotalSpec)) sourceTotalCard

/-- THE SECOND FORM's CARD OF 'kinlaw15.SourceBack'. -/
def sourceBackUptoCard : Claim7 := { stood := { row := sourceBackUptoRow, standIns := [], harness := (true, "2f463e7cd066c5862051dc52aa568bc2098eb03e08a75823139e66bf938ebad5"), looks := true }, kinds := [], alts := [], laidByText := true, laidKinds := [.data, .data, .data, .handle], laidTests := true, laidLooks := .later }
def SourceBackUptoCardSaid : Prop := Claim7.holds Tryd.pinned (.plain (OpenSpec.upto sourceBackSpec)) sourceBackUptoCard

/-- THE SECOND FORM's CARD OF 'kinlaw15.SourceHeads'. -/
def sourceHeadsUptoCard : Claim7 := { stood := { row := sourceHeadsUptoRow, standIns := [], harness := (true, "2f463e7cd066c5862051dc52aa568bc2098eb03e08a75823139e66bf938ebad5"), looks := true }, kinds := [], alts := [], laidByText := true, laidKinds := [.data, .data, .data, .handle], laidTests := true, laidLooks := .later }
def SourceHeadsUptoCardSaid : Prop := Claim7.holds Tryd.pinned (.plain (OpenSpec.upto sourceHeadsSpec)) sourceHeadsUptoCard

/-- THE SECOND FORM's CARD OF 'kinlaw15.SourceGuesses'. -/
def sourceGuessesUptoCard : Claim7 := { stood := { row := sourceGuessesUptoRow, standIns := [], harness := (true, "2f463e7cd066c5862051dc52aa568bc2098eb03e08a75823139e66bf938ebad5"), looks := true }, kinds := [], alts := [], laidByText := true, laidKinds := [.data, .data, .data, .handle], laidTests := true, laidLooks := .later }
def SourceGuessesUptoCardSaid : Prop := Claim7.holds Tryd.pinned (.plain (OpenSpec.upto sourceGuessesSpec)) sourceGuessesUptoCard

/-- THE SECOND FORM's CARD OF 'kinlaw15.SourceTotal'. -/
def sourceTotalUptoCard : Claim7 := { stood := { row := sourceTotalUptoRow, standIns := [], harness := (true, "2f463e7cd066c5862051dc52aa568bc2098eb03e08a75823139e66bf938ebad5"), looks := true }, kinds := [], alts := [], laidByText := true, laidKinds := [.data, .data, .data, .handle], laidTests := true, laidLooks := .later }
def SourceTotalUptoCardSaid : Prop := Claim7.holds Tryd.pinned (.plain (OpenSpec.upto sourceTotalSpec)) sourceTotalUptoCard
end Rows
end Go.Proofs.YtnccebfapihpjaaDoor
