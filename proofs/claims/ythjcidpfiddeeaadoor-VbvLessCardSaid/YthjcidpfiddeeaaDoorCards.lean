/-
  DERIVED. GIVEN WITH THE SEED: THE CARDS: each row of YthjcidpfiddeeaaDoorRows.lean that lists a variable, with what it lists TIED to the program's text (the seventh form; the later family's looks); each row that meets fmt, with fmt's text TOLD by the authors' own Lean function (tested against real Go, not proved from fmt's source: count such statements apart). THE CARD IS WHAT COUNTS. Prove the row's statement (the work); the ties are given (YthjcidpfiddeeaaDoorTie.lean); close each card by the builder's one call (the guide's Derived/Test/ToyasCard.lean, 'card_holds'). Laid BY PROGRAM, IN A SANDBOX (cutbox-door.mjs). By AI agents, Wed Nov 11 2026. No macro, syntax, notation, axiom, sorry.
-/
import Derived.Test.YthjcidpfiddeeaaDoorRows
import GoSem.ClaimSeven
namespace Go.Proofs.YthjcidpfiddeeaaDoor
namespace Rows

/-- THE TIED CARD OF 'kinlaw18.VbvPlays'. -/
def vbvPlaysCard : Claim7 := { stood := { row := vbvPlaysRow, standIns := [], harness := (true, "19c738ed0b5141405b7caacaa3e402ef632d5a23c4457686ccc8763bb8e854d5"), looks := true }, kinds := [], alts := [], laidByText := true, laidKinds := [.handle], laidTests := true, laidLooks := .later }
def VbvPlaysCardSaid : Prop := Claim7.holds Tryd.pinned (.plain (OpenSpec.ofChange vbvPlaysSpec)) vbvPlaysCard

/-- THE TIED CARD OF 'kinlaw18.VbvFits'. -/
def vbvFitsCard : Claim7 := { stood := { row := vbvFitsRow, standIns := [], harness := (true, "19c738ed0b5141405b7caacaa3e402ef632d5a23c4457686ccc8763bb8e854d5"), looks := true }, kinds := [], alts := [], laidByText := true, laidKinds := [.handle], laidTests := true, laidLooks := .later }
def VbvFitsCardSaid : Prop := Claim7.holds Tryd.pinned (.plain (OpenSpec.ofChange vbvFitsSpec)) vbvFitsCard

/-- THE TIED CARD OF 'kinlaw18.VbvLess'. -/
def vbvLessCard : Claim7 := { stood := { row := vbvLessRow, standIns := [], harness := (true, "19c738ed0b5141405b7caacaa3e402ef632d5a23c4457686ccc8763bb8e854d5"), looks := true }, kinds := [], alts := [], laidByText := true, laidKinds := [.handle], laidTests := true, laidLooks := .later }
def VbvLessCardSaid : Prop := Claim7.holds Tryd.pinned (.plain (OpenSpec.ofChange vbvLessSpec)) vbvLessCard

/-- THE TIED CARD OF 'kinlaw18.VbvCuts'. -/
def vbvCutsCard : Claim7 := { stood := { row := vbvCutsRow, standIns := [], harness := (true, "19c738ed0b5141405b7caacaa3e402ef632d5a23c4457686ccc8763bb8e854d5"), looks := true }, kinds := [], alts := [], laidByText := true, laidKinds := [.handle], laidTests := true, laidLooks := .later }
def VbvCutsCardSaid : Prop := Claim7.holds Tryd.pinned (.plain (OpenSpec.ofChange vbvCutsSpec)) vbvCutsCard

/-- THE TIED CARD OF 'kinlaw18.VbvRoom'. -/
def vbvRoomCard : Claim7 := { stood := { row := vbvRoomRow, standIns := [], harness := (true, "19c738ed0b5141405b7caacaa3e402ef632d5a23c4457686ccc8763bb8e854d5"), looks := true }, kinds := [], alts := [], laidByText := true, laidKinds := [.handle], laidTests := true, laidLooks := .later }
def VbvRoomCardSaid : Prop := Claim7.holds Tryd.pinned (.plain (OpenSpec.ofChange vbvRoomSpec)) vbvRoomCard

/-- THE SECOND FORM's CARD OF 'kinlaw18.VbvPlays'. -/
def vbvPlaysUptoCard : Claim7 := { stood := { row := vbvPlaysUptoRow, standIns := [], harness := (true, "19c738ed0b5141405b7caacaa3e402ef632d5a23c4457686ccc8763bb8e854d5"), looks := true }, kinds := [], alts := [], laidByText := true, laidKinds := [.handle], laidTests := true, laidLooks := .later }
def VbvPlaysUptoCardSaid : Prop := Claim7.holds Tryd.pinned (.plain (OpenSpec.upto vbvPlaysSpec)) vbvPlaysUptoCard

/-- THE SECOND FORM's CARD OF 'kinlaw18.VbvFits'. -/
def vbvFitsUptoCard : Claim7 := { stood := { row := vbvFitsUptoRow, standIns := [], harness := (true, "19c738ed0b5141405b7caacaa3e402ef632d5a23c4457686ccc8763bb8e854d5"), looks := true }, kinds := [], alts := [], laidByText := true, laidKinds := [.handle], laidTests := true, laidLooks := .later }
def VbvFitsUptoCardSaid : Prop := Claim7.holds Tryd.pinned (.plain (OpenSpec.upto vbvFitsSpec)) vbvFitsUptoCard

/-- THE SECOND FORM's CARD OF 'kinlaw18.VbvLess'. -/
def vbvLessUptoCard : Claim7 := { stood := { row := vbvLessUptoRow, standIns := [], harness := (true, "19c738ed0b5141405b7caacaa3e402ef632d5a23c4457686ccc8763bb8e854d5"), looks := true }, kinds := [], alts := [], laidByText := true, laidKinds := [.handle], laidTests := true, laidLooks := .later }
def VbvLessUptoCardSaid : Prop := Claim7.holds Tryd.pinned (.plain (OpenSpec.upto vbvLessSpec)) vbvLessUptoCard

/-- THE SECOND FORM's CARD OF 'kinlaw18.VbvCuts'. -/
def vbvCutsUptoCard : Claim7 := { stood := { row := vbvCutsUptoRow, standIns := [], harness := (true, "19c738ed0b5141405b7caacaa3e402ef632d5a23c4457686ccc8763bb8e854d5"), looks := true }, kinds := [], alts := [], laidByText := true, laidKinds := [.handle], laidTests := true, laidLooks := .later }
def VbvCutsUptoCardSaid : Prop := Claim7.holds Tryd.pinned (.plain (OpenSpec.upto vbvCutsSpec)) vbvCutsUptoCard

/-- THE SECOND FORM's CARD OF 'kinlaw18.VbvRoom'. -/
def vbvRoomUptoCard : Claim7 := { stood := { row := vbvRoomUptoRow, standIns := [], harness := (true, "19c738ed0b5141405b7caacaa3e402ef632d5a23c4457686ccc8763bb8e854d5"), looks := true }, kinds := [], alts := [], laidByText := true, laidKinds := [.handle], laidTests := true, laidLooks := .later }
def VbvRoomUptoCardSaid : Prop := Claim7.holds Tryd.pinned (.plain (OpenSpec.upto vbvRoomSpec)) vbvRoomUptoCard
end Rows
end Go.Proofs.YthjcidpfiddeeaaDoor
