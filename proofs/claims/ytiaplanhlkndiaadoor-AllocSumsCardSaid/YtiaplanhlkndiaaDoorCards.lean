/-
  DERIVED. GIVEN WITH THE SEED: THE CARDS: each row of YtiaplanhlkndiaaDoorRows.lean that lists a variable, with what it lists TIED to the program's text (the seventh form; the later family's looks); each row that meets fmt, with fmt's text TOLD by the authors' own Lean function (tested against real Go, not proved from fmt's source: count such statements apart). THE CARD IS WHAT COUNTS. Prove the row's statement (the work); the ties are given (YtiaplanhlkndiaaDoorTie.lean); close each card by the builder's one call (the guide's Derived/Test/ToyasCard.lean, 'card_holds'). Laid BY PROGRAM, IN A SANDBOX (cutbox-door.mjs). By AI agents, Wed Nov 11 2026. No macro, syntax, notation, axiom, sorry.
-/
import Derived.Test.YtiaplanhlkndiaaDoorRows
import GoSem.ClaimSeven
namespace Go.Proofs.YtiaplanhlkndiaaDoor
namespace Rows

/-- THE TIED CARD OF 'kinlaw19.AllocCaps'. -/
def allocCapsCard : Claim7 := { stood := { row := allocCapsRow, standIns := [], harness := (true, "159d9d1d074d1259e9c93e441e51c57f89e43f6942a823ee559e374016d98d63"), looks := true }, kinds := [], alts := [], laidByText := true, laidKinds := [.handle], laidTests := true, laidLooks := .later }
def AllocCapsCardSaid : Prop := Claim7.holds Tryd.pinned (.plain (OpenSpec.ofChange allocCapsSpec)) allocCapsCard

/-- THE TIED CARD OF 'kinlaw19.AllocSums'. -/
def allocSumsCard : Claim7 := { stood := { row := allocSumsRow, standIns := [], harness := (true, "159d9d1d074d1259e9c93e441e51c57f89e43f6942a823ee559e374016d98d63"), looks := true }, kinds := [], alts := [], laidByText := true, laidKinds := [.handle], laidTests := true, laidLooks := .later }
def AllocSumsCardSaid : Prop := Claim7.holds Tryd.pinned (.plain (OpenSpec.ofChange allocSumsSpec)) allocSumsCard

/-- THE TIED CARD OF 'kinlaw19.AllocBounds'. -/
def allocBoundsCard : Claim7 := { stood := { row := allocBoundsRow, standIns := [], harness := (true, "159d9d1d074d1259e9c93e441e51c57f89e43f6942a823ee559e374016d98d63"), looks := true }, kinds := [], alts := [], laidByText := true, laidKinds := [.handle], laidTests := true, laidLooks := .later }
def AllocBoundsCardSaid : Prop := Claim7.holds Tryd.pinned (.plain (OpenSpec.ofChange allocBoundsSpec)) allocBoundsCard

/-- THE TIED CARD OF 'kinlaw19.AllocFits'. -/
def allocFitsCard : Claim7 := { stood := { row := allocFitsRow, standIns := [], harness := (true, "159d9d1d074d1259e9c93e441e51c57f89e43f6942a823ee559e374016d98d63"), looks := true }, kinds := [], alts := [], laidByText := true, laidKinds := [.handle], laidTests := true, laidLooks := .later }
def AllocFitsCardSaid : Prop := Claim7.holds Tryd.pinned (.plain (OpenSpec.ofChange allocFitsSpec)) allocFitsCard

/-- THE SECOND FORM's CARD OF 'kinlaw19.AllocCaps'. -/
def allocCapsUptoCard : Claim7 := { stood := { row := allocCapsUptoRow, standIns := [], harness := (true, "159d9d1d074d1259e9c93e441e51c57f89e43f6942a823ee559e374016d98d63"), looks := true }, kinds := [], alts := [], laidByText := true, laidKinds := [.handle], laidTests := true, laidLooks := .later }
def AllocCapsUptoCardSaid : Prop := Claim7.holds Tryd.pinned (.plain (OpenSpec.upto allocCapsSpec)) allocCapsUptoCard

/-- THE SECOND FORM's CARD OF 'kinlaw19.AllocSums'. -/
def allocSumsUptoCard : Claim7 := { stood := { row := allocSumsUptoRow, standIns := [], harness := (true, "159d9d1d074d1259e9c93e441e51c57f89e43f6942a823ee559e374016d98d63"), looks := true }, kinds := [], alts := [], laidByText := true, laidKinds := [.handle], laidTests := true, laidLooks := .later }
def AllocSumsUptoCardSaid : Prop := Claim7.holds Tryd.pinned (.plain (OpenSpec.upto allocSumsSpec)) allocSumsUptoCard

/-- THE SECOND FORM's CARD OF 'kinlaw19.AllocBounds'. -/
def allocBoundsUptoCard : Claim7 := { stood := { row := allocBoundsUptoRow, standIns := [], harness := (true, "159d9d1d074d1259e9c93e441e51c57f89e43f6942a823ee559e374016d98d63"), looks := true }, kinds := [], alts := [], laidByText := true, laidKinds := [.handle], laidTests := true, laidLooks := .later }
def AllocBoundsUptoCardSaid : Prop := Claim7.holds Tryd.pinned (.plain (OpenSpec.upto allocBoundsSpec)) allocBoundsUptoCard

/-- THE SECOND FORM's CARD OF 'kinlaw19.AllocFits'. -/
def allocFitsUptoCard : Claim7 := { stood := { row := allocFitsUptoRow, standIns := [], harness := (true, "159d9d1d074d1259e9c93e441e51c57f89e43f6942a823ee559e374016d98d63"), looks := true }, kinds := [], alts := [], laidByText := true, laidKinds := [.handle], laidTests := true, laidLooks := .later }
def AllocFitsUptoCardSaid : Prop := Claim7.holds Tryd.pinned (.plain (OpenSpec.upto allocFitsSpec)) allocFitsUptoCard
end Rows
end Go.Proofs.YtiaplanhlkndiaaDoor
