/-
  DERIVED. GIVEN WITH THE SEED: THE CARDS: each row of YtbdabjnmocnfpaaDoorRows.lean that lists a variable, with what it lists TIED to the program's text (the seventh form; the later family's looks); each row that meets fmt, with fmt's text TOLD by the authors' own Lean function (tested against real Go, not proved from fmt's source: count such statements apart). THE CARD IS WHAT COUNTS. Prove the row's statement (the work); the ties are given (YtbdabjnmocnfpaaDoorTie.lean); close each card by the builder's one call (the guide's Derived/Test/ToyasCard.lean, 'card_holds'). Laid BY PROGRAM, IN A SANDBOX (cutbox-door.mjs). By AI agents, Wed Nov 11 2026. No macro, syntax, notation, axiom, sorry.
-/
import Derived.Test.YtbdabjnmocnfpaaDoorRows
import GoSem.ClaimSeven
namespace Go.Proofs.YtbdabjnmocnfpaaDoor
namespace Rows

/-- THE TIED CARD OF 'kinlaw2.BitsWrites'. -/
def bitsWritesCard : Claim7 := { stood := { row := bitsWritesRow, standIns := [], harness := (true, "2c190567a575d75eb1f724954cd55e55a0eca5a1bc179b446822a9d7d6d79304"), looks := true }, kinds := [], alts := [], laidByText := true, laidKinds := [.handle], laidTests := true, laidLooks := .later }
def BitsWritesCardSaid : Prop := Claim7.holds Tryd.pinned (.plain (OpenSpec.ofChange bitsWritesSpec)) bitsWritesCard

/-- THE TIED CARD OF 'kinlaw2.BitsTwo'. -/
def bitsTwoCard : Claim7 := { stood := { row := bitsTwoRow, standIns := [], harness := (true, "2c190567a575d75eb1f724954cd55e55a0eca5a1bc179b446822a9d7d6d79304"), looks := true }, kinds := [], alts := [], laidByText := true, laidKinds := [.handle], laidTests := true, laidLooks := .later }
def BitsTwoCardSaid : Prop := Claim7.holds Tryd.pinned (.plain (OpenSpec.ofChange bitsTwoSpec)) bitsTwoCard

/-- THE TIED CARD OF 'kinlaw2.BitsStops'. -/
def bitsStopsCard : Claim7 := { stood := { row := bitsStopsRow, standIns := [], harness := (true, "2c190567a575d75eb1f724954cd55e55a0eca5a1bc179b446822a9d7d6d79304"), looks := true }, kinds := [], alts := [], laidByText := true, laidKinds := [.handle], laidTests := true, laidLooks := .later }
def BitsStopsCardSaid : Prop := Claim7.holds Tryd.pinned (.plain (OpenSpec.ofChange bitsStopsSpec)) bitsStopsCard

/-- THE TIED CARD OF 'kinlaw2.BitsAligns'. -/
def bitsAlignsCard : Claim7 := { stood := { row := bitsAlignsRow, standIns := [], harness := (true, "2c190567a575d75eb1f724954cd55e55a0eca5a1bc179b446822a9d7d6d79304"), looks := true }, kinds := [], alts := [], laidByText := true, laidKinds := [.handle], laidTests := true, laidLooks := .later }
def BitsAlignsCardSaid : Prop := Claim7.holds Tryd.pinned (.plain (OpenSpec.ofChange bitsAlignsSpec)) bitsAlignsCard

/-- THE TIED CARD OF 'kinlaw2.BitsReads'. -/
def bitsReadsCard : Claim7 := { stood := { row := bitsReadsRow, standIns := [], harness := (true, "2c190567a575d75eb1f724954cd55e55a0eca5a1bc179b446822a9d7d6d79304"), looks := true }, kinds := [], alts := [], laidByText := true, laidKinds := [.handle], laidTests := true, laidLooks := .later }
def BitsReadsCardSaid : Prop := Claim7.holds Tryd.pinned (.plain (OpenSpec.ofChange bitsReadsSpec)) bitsReadsCard

/-- THE TIED CARD OF 'kinlaw2.BitsBack'. -/
def bitsBackCard : Claim7 := { stood := { row := bitsBackRow, standIns := [], harness := (true, "2c190567a575d75eb1f724954cd55e55a0eca5a1bc179b446822a9d7d6d79304"), looks := true }, kinds := [], alts := [], laidByText := true, laidKinds := [.handle], laidTests := true, laidLooks := .later }
def BitsBackCardSaid : Prop := Claim7.holds Tryd.pinned (.plain (OpenSpec.ofChange bitsBackSpec)) bitsBackCard

/-- THE SECOND FORM's CARD OF 'kinlaw2.BitsWrites'. -/
def bitsWritesUptoCard : Claim7 := { stood := { row := bitsWritesUptoRow, standIns := [], harness := (true, "2c190567a575d75eb1f724954cd55e55a0eca5a1bc179b446822a9d7d6d79304"), looks := true }, kinds := [], alts := [], laidByText := true, laidKinds := [.handle], laidTests := true, laidLooks := .later }
def BitsWritesUptoCardSaid : Prop := Claim7.holds Tryd.pinned (.plain (OpenSpec.upto bitsWritesSpec)) bitsWritesUptoCard

/-- THE SECOND FORM's CARD OF 'kinlaw2.BitsTwo'. -/
def bitsTwoUptoCard : Claim7 := { stood := { row := bitsTwoUptoRow, standIns := [], harness := (true, "2c190567a575d75eb1f724954cd55e55a0eca5a1bc179b446822a9d7d6d79304"), looks := true }, kinds := [], alts := [], laidByText := true, laidKinds := [.handle], laidTests := true, laidLooks := .later }
def BitsTwoUptoCardSaid : Prop := Claim7.holds Tryd.pinned (.plain (OpenSpec.upto bitsTwoSpec)) bitsTwoUptoCard

/-- THE SECOND FORM's CARD OF 'kinlaw2.BitsStops'. -/
def bitsStopsUptoCard : Claim7 := { stood := { row := bitsStopsUptoRow, standIns := [], harness := (true, "2c190567a575d75eb1f724954cd55e55a0eca5a1bc179b446822a9d7d6d79304"), looks := true }, kinds := [], alts := [], laidByText := true, laidKinds := [.handle], laidTests := true, laidLooks := .later }
def BitsStopsUptoCardSaid : Prop := Claim7.holds Tryd.pinned (.plain (OpenSpec.upto bitsStopsSpec)) bitsStopsUptoCard

/-- THE SECOND FORM's CARD OF 'kinlaw2.BitsAligns'. -/
def bitsAlignsUptoCard : Claim7 := { stood := { row := bitsAlignsUptoRow, standIns := [], harness := (true, "2c190567a575d75eb1f724954cd55e55a0eca5a1bc179b446822a9d7d6d79304"), looks := true }, kinds := [], alts := [], laidByText := true, laidKinds := [.handle], laidTests := true, laidLooks := .later }
def BitsAlignsUptoCardSaid : Prop := Claim7.holds Tryd.pinned (.plain (OpenSpec.upto bitsAlignsSpec)) bitsAlignsUptoCard

/-- THE SECOND FORM's CARD OF 'kinlaw2.BitsReads'. -/
def bitsReadsUptoCard : Claim7 := { stood := { row := bitsReadsUptoRow, standIns := [], harness := (true, "2c190567a575d75eb1f724954cd55e55a0eca5a1bc179b446822a9d7d6d79304"), looks := true }, kinds := [], alts := [], laidByText := true, laidKinds := [.handle], laidTests := true, laidLooks := .later }
def BitsReadsUptoCardSaid : Prop := Claim7.holds Tryd.pinned (.plain (OpenSpec.upto bitsReadsSpec)) bitsReadsUptoCard

/-- THE SECOND FORM's CARD OF 'kinlaw2.BitsBack'. -/
def bitsBackUptoCard : Claim7 := { stood := { row := bitsBackUptoRow, standIns := [], harness := (true, "2c190567a575d75eb1f724954cd55e55a0eca5a1bc179b446822a9d7d6d79304"), looks := true }, kinds := [], alts := [], laidByText := true, laidKinds := [.handle], laidTests := true, laidLooks := .later }
def BitsBackUptoCardSaid : Prop := Claim7.holds Tryd.pinned (.plain (OpenSpec.upto bitsBackSpec)) bitsBackUptoCard
end Rows
end Go.Proofs.YtbdabjnmocnfpaaDoor
