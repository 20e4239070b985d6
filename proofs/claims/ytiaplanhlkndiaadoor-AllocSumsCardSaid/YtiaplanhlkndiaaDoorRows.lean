/-
  NARROWER THAN 'FOR EVERY INPUT', by the rows' own cells (each row's printed sentence says how): AllocCaps: laid · AllocSums: laid · AllocBounds: laid · AllocFits: laid.
  DERIVED. THE GIVEN ROWS OF THIS SEAT. 4 by the template 'for every input the law returns true; each argument reads behind the call as it read before'; 0 by the template 'total and deterministic' (their statements: YtiaplanhlkndiaaDoorTotals.lean).
  GIVEN WITH THE SEED: the statements are not yours to turn. If you find one false, say at which input.
  Laid BY PROGRAM, IN A SANDBOX (cutbox-rows.mjs): the forced cells as the released guide's own fill.sh prints them over the translation 16b41b7b6beb026f… (all of the seat's roots in one cut). By AI agents, Wed Nov 11 2026. No macro, syntax, notation, axiom, sorry.
-/
import Derived.Test.YtiaplanhlkndiaaDoorChecked
import GoSem.Claim
import GoSem.ClaimJoined
import GoSem.ClaimMapViews
import Derived.JoinedTies
import Derived.KernelRfl
namespace Go.Proofs.YtiaplanhlkndiaaDoor
/- THE CELL 'sum', in the pinned program and in every row, IS THE sha256 OF THE DUMP (.gsa) THAT YtiaplanhlkndiaaDoorProg.lean LOADS. Nothing in Lean hashes anything: it is a label: what it is worth is what the hold of that sum in a sandbox is worth. -/
noncomputable def Tryd.pinned : Pinned := { name := "ytiaplanhlkndiaadoor", sum := "16b41b7b6beb026f02ac4f1bc1968e9d4ba6baf7db346b4e3945adcd30ad095b", checked := Tryd.checked }
namespace Rows
def none {H : Type} : Left H := { results := [], args := [] }

/- WHAT THE LISTED PACKAGE-LEVEL VARIABLES READ AS WHEN THE CALL BEGINS. Each datum BY PROGRAM (the guide's laid-datum.mjs) off the statement by which the dump's own 'gosem.cut.vars' lays the variable. In a bare row this is a premise. The card (YtiaplanhlkndiaaDoorCards.lean) ties it to the program's text. -/
def laid_errors_errorType {H : Type} : DataW H := .iface "internal/reflectlite.rtype" (.agg [.ptr (.lit (.string [101, 114, 114, 111, 114]))])

/-- 'kinlaw19.AllocCaps': WHATEVER THE INPUT: true; the input reads as it did. -/
def allocCapsSpec : ChangeSpec := { name := "allocCaps", fn := fun _ => fun
  | [d1, d2] => { results := [.lit (.bool true)], args := [d1, d2] }
  | _ => none }
def allocCapsRow : OpenClaim := { program := "ytiaplanhlkndiaadoor", sum := "16b41b7b6beb026f02ac4f1bc1968e9d4ba6baf7db346b4e3945adcd30ad095b", func := "kinescope/kinlaw19.AllocCaps", spec := "allocCaps", inPlace := ["internal/reflectlite.ValueOf", "(internal/reflectlite.Value).Type", "(internal/reflectlite.Value).IsNil", "internal/reflectlite.TypeOf", "(internal/reflectlite.Value).Elem", "(internal/reflectlite.Value).Set"], unfollowed := true, recurses := true, named := ["errors.errorType"], apart := false, laid := [("errors.errorType", laid_errors_errorType)] }
def AllocCapsSaid : Prop := allocCapsRow.holds Tryd.pinned (OpenSpec.ofChange allocCapsSpec)

/-- ITS FALSE NEIGHBOUR: 'it returns false'. Refute it at one input. -/
def allocCapsWrong : ChangeSpec := { name := "allocCaps", fn := fun _ => fun
  | [d1, d2] => { results := [.lit (.bool false)], args := [d1, d2] }
  | _ => none }
def AllocCapsWrongFalsely : Prop := allocCapsRow.holds Tryd.pinned (OpenSpec.ofChange allocCapsWrong)

/-- 'kinlaw19.AllocSums': WHATEVER THE INPUT: true; the input reads as it did. -/
def allocSumsSpec : ChangeSpec := { name := "allocSums", fn := fun _ => fun
  | [d1, d2] => { results := [.lit (.bool true)], args := [d1, d2] }
  | _ => none }
def allocSumsRow : OpenClaim := { program := "ytiaplanhlkndiaadoor", sum := "16b41b7b6beb026f02ac4f1bc1968e9d4ba6baf7db346b4e3945adcd30ad095b", func := "kinescope/kinlaw19.AllocSums", spec := "allocSums", inPlace := ["internal/reflectlite.ValueOf", "(internal/reflectlite.Value).Type", "(internal/reflectlite.Value).IsNil", "internal/reflectlite.TypeOf", "(internal/reflectlite.Value).Elem", "(internal/reflectlite.Value).Set"], unfollowed := true, recurses := true, named := ["errors.errorType"], apart := false, laid := [("errors.errorType", laid_errors_errorType)] }
def AllocSumsSaid : Prop := allocSumsRow.holds Tryd.pinned (OpenSpec.ofChange allocSumsSpec)

/-- ITS FALSE NEIGHBOUR: 'it returns false'. Refute it at one input. -/
def allocSumsWrong : ChangeSpec := { name := "allocSums", fn := fun _ => fun
  | [d1, d2] => { results := [.lit (.bool false)], args := [d1, d2] }
  | _ => none }
def AllocSumsWrongFalsely : Prop := allocSumsRow.holds Tryd.pinned (OpenSpec.ofChange allocSumsWrong)

/-- 'kinlaw19.AllocBounds': WHATEVER THE INPUT: true; the input reads as it did. -/
def allocBoundsSpec : ChangeSpec := { name := "allocBounds", fn := fun _ => fun
  | [d1, d2] => { results := [.lit (.bool true)], args := [d1, d2] }
  | _ => none }
def allocBoundsRow : OpenClaim := { program := "ytiaplanhlkndiaadoor", sum := "16b41b7b6beb026f02ac4f1bc1968e9d4ba6baf7db346b4e3945adcd30ad095b", func := "kinescope/kinlaw19.AllocBounds", spec := "allocBounds", inPlace := ["internal/reflectlite.ValueOf", "(internal/reflectlite.Value).Type", "(internal/reflectlite.Value).IsNil", "internal/reflectlite.TypeOf", "(internal/reflectlite.Value).Elem", "(internal/reflectlite.Value).Set"], unfollowed := true, recurses := true, named := ["errors.errorType"], apart := false, laid := [("errors.errorType", laid_errors_errorType)] }
def AllocBoundsSaid : Prop := allocBoundsRow.holds Tryd.pinned (OpenSpec.ofChange allocBoundsSpec)

/-- ITS FALSE NEIGHBOUR: 'it returns false'. Refute it at one input. -/
def allocBoundsWrong : ChangeSpec := { name := "allocBounds", fn := fun _ => fun
  | [d1, d2] => { results := [.lit (.bool false)], args := [d1, d2] }
  | _ => none }
def AllocBoundsWrongFalsely : Prop := allocBoundsRow.holds Tryd.pinned (OpenSpec.ofChange allocBoundsWrong)

/-- 'kinlaw19.AllocFits': WHATEVER THE INPUT: true; the input reads as it did. -/
def allocFitsSpec : ChangeSpec := { name := "allocFits", fn := fun _ => fun
  | [d1, d2, d3] => { results := [.lit (.bool true)], args := [d1, d2, d3] }
  | _ => none }
def allocFitsRow : OpenClaim := { program := "ytiaplanhlkndiaadoor", sum := "16b41b7b6beb026f02ac4f1bc1968e9d4ba6baf7db346b4e3945adcd30ad095b", func := "kinescope/kinlaw19.AllocFits", spec := "allocFits", inPlace := ["internal/reflectlite.ValueOf", "(internal/reflectlite.Value).Type", "(internal/reflectlite.Value).IsNil", "internal/reflectlite.TypeOf", "(internal/reflectlite.Value).Elem", "(internal/reflectlite.Value).Set"], unfollowed := true, recurses := true, named := ["errors.errorType"], apart := false, laid := [("errors.errorType", laid_errors_errorType)] }
def AllocFitsSaid : Prop := allocFitsRow.holds Tryd.pinned (OpenSpec.ofChange allocFitsSpec)

/-- ITS FALSE NEIGHBOUR: 'it returns false'. Refute it at one input. -/
def allocFitsWrong : ChangeSpec := { name := "allocFits", fn := fun _ => fun
  | [d1, d2, d3] => { results := [.lit (.bool false)], args := [d1, d2, d3] }
  | _ => none }
def AllocFitsWrongFalsely : Prop := allocFitsRow.holds Tryd.pinned (OpenSpec.ofChange allocFitsWrong)

/- THE SECOND FORM. 'bulk': how many values and letters a reading holds, each counted each time it is reached (what is shared counts as often as it is met; a slice's spare places count too). A statement '..UptoSaid' is the law's where the arguments, and the package variables that the reading takes, are together of bulk at most 1048576: NARROWER than '..Said'. Prove '..Said' where nothing that the law and all that it calls make is longer than what came in: it says more and counts as full. Else prove '..UptoSaid'. A law counts once. -/
mutual
def uptoBulk {H : Type} : DataW H → Nat
  | .lit (.string bytes) => bytes.length + 1
  | .lit _ => 1
  | .nil => 1
  | .ptr d => uptoBulk d + 1
  | .slice elems spare => uptoBulkAll elems + uptoBulkAll spare + 1
  | .agg parts => uptoBulkAll parts + 1
  | .iface _ d => uptoBulk d + 1
  | .map entries => uptoBulkEntries entries + 1
  | .held _ => 1
def uptoBulkAll {H : Type} : List (DataW H) → Nat
  | [] => 0
  | d :: r => uptoBulk d + uptoBulkAll r
def uptoBulkEntries {H : Type} : List (Lit × DataW H) → Nat
  | [] => 0
  | x :: r => uptoBulkEntry x + uptoBulkEntries r
def uptoBulkEntry {H : Type} : Lit × DataW H → Nat
  | (.string bytes, d) => bytes.length + uptoBulk d + 1
  | (_, d) => uptoBulk d + 1
 end
def uptoSmall : (H : Type) → List (DataW H) → Bool := fun _ ds => decide (uptoBulkAll ds ≤ 1048576)
def OpenSpec.upto (s : _root_.Go.ChangeSpec) : _root_.Go.OpenSpec := { _root_.Go.OpenSpec.ofChange s with cond := some uptoSmall }

/-- 'kinlaw19.AllocCaps', WHERE WHAT IT READS IS OF BULK AT MOST 1048576: true; the input reads as it did. -/
def allocCapsUptoRow : OpenClaim := { program := "ytiaplanhlkndiaadoor", sum := "16b41b7b6beb026f02ac4f1bc1968e9d4ba6baf7db346b4e3945adcd30ad095b", func := "kinescope/kinlaw19.AllocCaps", spec := "allocCaps", inPlace := ["internal/reflectlite.ValueOf", "(internal/reflectlite.Value).Type", "(internal/reflectlite.Value).IsNil", "internal/reflectlite.TypeOf", "(internal/reflectlite.Value).Elem", "(internal/reflectlite.Value).Set"], unfollowed := true, recurses := true, named := ["errors.errorType"], apart := false, laid := [("errors.errorType", laid_errors_errorType)], narrowed := true }
def AllocCapsUptoSaid : Prop := allocCapsUptoRow.holds Tryd.pinned (OpenSpec.upto allocCapsSpec)

/-- 'kinlaw19.AllocSums', WHERE WHAT IT READS IS OF BULK AT MOST 1048576: true; the input reads as it did. -/
def allocSumsUptoRow : OpenClaim := { program := "ytiaplanhlkndiaadoor", sum := "16b41b7b6beb026f02ac4f1bc1968e9d4ba6baf7db346b4e3945adcd30ad095b", func := "kinescope/kinlaw19.AllocSums", spec := "allocSums", inPlace := ["internal/reflectlite.ValueOf", "(internal/reflectlite.Value).Type", "(internal/reflectlite.Value).IsNil", "internal/reflectlite.TypeOf", "(internal/reflectlite.Value).Elem", "(internal/reflectlite.Value).Set"], unfollowed := true, recurses := true, named := ["errors.errorType"], apart := false, laid := [("errors.errorType", laid_errors_errorType)], narrowed := true }
def AllocSumsUptoSaid : Prop := allocSumsUptoRow.holds Tryd.pinned (OpenSpec.upto allocSumsSpec)

/-- 'kinlaw19.AllocBounds', WHERE WHAT IT READS IS OF BULK AT MOST 1048576: true; the input reads as it did. -/
def allocBoundsUptoRow : OpenClaim := { program := "ytiaplanhlkndiaadoor", sum := "16b41b7b6beb026f02ac4f1bc1968e9d4ba6baf7db346b4e3945adcd30ad095b", func := "kinescope/kinlaw19.AllocBounds", spec := "allocBounds", inPlace := ["internal/reflectlite.ValueOf", "(internal/reflectlite.Value).Type", "(internal/reflectlite.Value).IsNil", "internal/reflectlite.TypeOf", "(internal/reflectlite.Value).Elem", "(internal/reflectlite.Value).Set"], unfollowed := true, recurses := true, named := ["errors.errorType"], apart := false, laid := [("errors.errorType", laid_errors_errorType)], narrowed := true }
def AllocBoundsUptoSaid : Prop := allocBoundsUptoRow.holds Tryd.pinned (OpenSpec.upto allocBoundsSpec)

/-- 'kinlaw19.AllocFits', WHERE WHAT IT READS IS OF BULK AT MOST 1048576: true; the input reads as it did. -/
def allocFitsUptoRow : OpenClaim := { program := "ytiaplanhlkndiaadoor", sum := "16b41b7b6beb026f02ac4f1bc1968e9d4ba6baf7db346b4e3945adcd30ad095b", func := "kinescope/kinlaw19.AllocFits", spec := "allocFits", inPlace := ["internal/reflectlite.ValueOf", "(internal/reflectlite.Value).Type", "(internal/reflectlite.Value).IsNil", "internal/reflectlite.TypeOf", "(internal/reflectlite.Value).Elem", "(internal/reflectlite.Value).Set"], unfollowed := true, recurses := true, named := ["errors.errorType"], apart := false, laid := [("errors.errorType", laid_errors_errorType)], narrowed := true }
def AllocFitsUptoSaid : Prop := allocFitsUptoRow.holds Tryd.pinned (OpenSpec.upto allocFitsSpec)

end Rows
end Go.Proofs.YtiaplanhlkndiaaDoor
