/-
  NARROWER THAN 'FOR EVERY INPUT', by the rows' own cells (each row's printed sentence says how): VbvPlays: laid · VbvFits: laid · VbvLess: laid · VbvCuts: laid · VbvRoom: laid.
  DERIVED. THE GIVEN ROWS OF THIS SEAT. 5 by the template 'for every input the law returns true; each argument reads behind the call as it read before'; 0 by the template 'total and deterministic' (their statements: YthjcidpfiddeeaaDoorTotals.lean).
  GIVEN WITH THE SEED: the statements are not yours to turn. If you find one false, say at which input.
  Laid BY PROGRAM, IN A SANDBOX (cutbox-rows.mjs): the forced cells as the released guide's own fill.sh prints them over the translation 74445e7690e85e12… (all of the seat's roots in one cut). By AI agents, Wed Nov 11 2026. No macro, syntax, notation, axiom, sorry.
-/
import Derived.Test.YthjcidpfiddeeaaDoorChecked
import GoSem.Claim
import GoSem.ClaimJoined
import GoSem.ClaimMapViews
import Derived.JoinedTies
import Derived.KernelRfl
namespace Go.Proofs.YthjcidpfiddeeaaDoor
/- THE CELL 'sum', in the pinned program and in every row, IS THE sha256 OF THE DUMP (.gsa) THAT YthjcidpfiddeeaaDoorProg.lean LOADS. Nothing in Lean hashes anything: it is a label: what it is worth is what the hold of that sum in a sandbox is worth. -/
noncomputable def Tryd.pinned : Pinned := { name := "ythjcidpfiddeeaadoor", sum := "74445e7690e85e1223c4783de0a972f289367316164937ffe64ceedf66368b9b", checked := Tryd.checked }
namespace Rows
def none {H : Type} : Left H := { results := [], args := [] }

/- WHAT THE LISTED PACKAGE-LEVEL VARIABLES READ AS WHEN THE CALL BEGINS. Each datum BY PROGRAM (the guide's laid-datum.mjs) off the statement by which the dump's own 'gosem.cut.vars' lays the variable. In a bare row this is a premise. The card (YthjcidpfiddeeaaDoorCards.lean) ties it to the program's text. -/
def laid_errors_errorType {H : Type} : DataW H := .iface "internal/reflectlite.rtype" (.agg [.ptr (.lit (.string [101, 114, 114, 111, 114]))])

/-- 'kinlaw18.VbvPlays': WHATEVER THE INPUT: true; the input reads as it did. -/
def vbvPlaysSpec : ChangeSpec := { name := "vbvPlays", fn := fun _ => fun
  | [d1, d2] => { results := [.lit (.bool true)], args := [d1, d2] }
  | _ => none }
def vbvPlaysRow : OpenClaim := { program := "ythjcidpfiddeeaadoor", sum := "74445e7690e85e1223c4783de0a972f289367316164937ffe64ceedf66368b9b", func := "kinescope/kinlaw18.VbvPlays", spec := "vbvPlays", inPlace := ["internal/reflectlite.ValueOf", "(internal/reflectlite.Value).Type", "(internal/reflectlite.Value).IsNil", "internal/reflectlite.TypeOf", "(internal/reflectlite.Value).Elem", "(internal/reflectlite.Value).Set"], unfollowed := true, recurses := true, named := ["errors.errorType"], apart := false, laid := [("errors.errorType", laid_errors_errorType)] }
def VbvPlaysSaid : Prop := vbvPlaysRow.holds Tryd.pinned (OpenSpec.ofChange vbvPlaysSpec)

/-- ITS FALSE NEIGHBOUR: 'it returns false'. Refute it at one input. -/
def vbvPlaysWrong : ChangeSpec := { name := "vbvPlays", fn := fun _ => fun
  | [d1, d2] => { results := [.lit (.bool false)], args := [d1, d2] }
  | _ => none }
def VbvPlaysWrongFalsely : Prop := vbvPlaysRow.holds Tryd.pinned (OpenSpec.ofChange vbvPlaysWrong)

/-- 'kinlaw18.VbvFits': WHATEVER THE INPUT: true; the input reads as it did. -/
def vbvFitsSpec : ChangeSpec := { name := "vbvFits", fn := fun _ => fun
  | [d1, d2] => { results := [.lit (.bool true)], args := [d1, d2] }
  | _ => none }
def vbvFitsRow : OpenClaim := { program := "ythjcidpfiddeeaadoor", sum := "74445e7690e85e1223c4783de0a972f289367316164937ffe64ceedf66368b9b", func := "kinescope/kinlaw18.VbvFits", spec := "vbvFits", inPlace := ["internal/reflectlite.ValueOf", "(internal/reflectlite.Value).Type", "(internal/reflectlite.Value).IsNil", "internal/reflectlite.TypeOf", "(internal/reflectlite.Value).Elem", "(internal/reflectlite.Value).Set"], unfollowed := true, recurses := true, named := ["errors.errorType"], apart := false, laid := [("errors.errorType", laid_errors_errorType)] }
def VbvFitsSaid : Prop := vbvFitsRow.holds Tryd.pinned (OpenSpec.ofChange vbvFitsSpec)

/-- ITS FALSE NEIGHBOUR: 'it returns false'. Refute it at one input. -/
def vbvFitsWrong : ChangeSpec := { name := "vbvFits", fn := fun _ => fun
  | [d1, d2] => { results := [.lit (.bool false)], args := [d1, d2] }
  | _ => none }
def VbvFitsWrongFalsely : Prop := vbvFitsRow.holds Tryd.pinned (OpenSpec.ofChange vbvFitsWrong)

/-- 'kinlaw18.VbvLess': WHATEVER THE INPUT: true; the input reads as it did. -/
def vbvLessSpec : ChangeSpec := { name := "vbvLess", fn := fun _ => fun
  | [d1, d2, d3] => { results := [.lit (.bool true)], args := [d1, d2, d3] }
  | _ => none }
def vbvLessRow : OpenClaim := { program := "ythjcidpfiddeeaadoor", sum := "74445e7690e85e1223c4783de0a972f289367316164937ffe64ceedf66368b9b", func := "kinescope/kinlaw18.VbvLess", spec := "vbvLess", inPlace := ["internal/reflectlite.ValueOf", "(internal/reflectlite.Value).Type", "(internal/reflectlite.Value).IsNil", "internal/reflectlite.TypeOf", "(internal/reflectlite.Value).Elem", "(internal/reflectlite.Value).Set"], unfollowed := true, recurses := true, named := ["errors.errorType"], apart := false, laid := [("errors.errorType", laid_errors_errorType)] }
def VbvLessSaid : Prop := vbvLessRow.holds Tryd.pinned (OpenSpec.ofChange vbvLessSpec)

/-- ITS FALSE NEIGHBOUR: 'it returns false'. Refute it at one input. -/
def vbvLessWrong : ChangeSpec := { name := "vbvLess", fn := fun _ => fun
  | [d1, d2, d3] => { results := [.lit (.bool false)], args := [d1, d2, d3] }
  | _ => none }
def VbvLessWrongFalsely : Prop := vbvLessRow.holds Tryd.pinned (OpenSpec.ofChange vbvLessWrong)

/-- 'kinlaw18.VbvCuts': WHATEVER THE INPUT: true; the input reads as it did. -/
def vbvCutsSpec : ChangeSpec := { name := "vbvCuts", fn := fun _ => fun
  | [d1, d2, d3] => { results := [.lit (.bool true)], args := [d1, d2, d3] }
  | _ => none }
def vbvCutsRow : OpenClaim := { program := "ythjcidpfiddeeaadoor", sum := "74445e7690e85e1223c4783de0a972f289367316164937ffe64ceedf66368b9b", func := "kinescope/kinlaw18.VbvCuts", spec := "vbvCuts", inPlace := ["internal/reflectlite.ValueOf", "(internal/reflectlite.Value).Type", "(internal/reflectlite.Value).IsNil", "internal/reflectlite.TypeOf", "(internal/reflectlite.Value).Elem", "(internal/reflectlite.Value).Set"], unfollowed := true, recurses := true, named := ["errors.errorType"], apart := false, laid := [("errors.errorType", laid_errors_errorType)] }
def VbvCutsSaid : Prop := vbvCutsRow.holds Tryd.pinned (OpenSpec.ofChange vbvCutsSpec)

/-- ITS FALSE NEIGHBOUR: 'it returns false'. Refute it at one input. -/
def vbvCutsWrong : ChangeSpec := { name := "vbvCuts", fn := fun _ => fun
  | [d1, d2, d3] => { results := [.lit (.bool false)], args := [d1, d2, d3] }
  | _ => none }
def VbvCutsWrongFalsely : Prop := vbvCutsRow.holds Tryd.pinned (OpenSpec.ofChange vbvCutsWrong)

/-- 'kinlaw18.VbvRoom': WHATEVER THE INPUT: true; the input reads as it did. -/
def vbvRoomSpec : ChangeSpec := { name := "vbvRoom", fn := fun _ => fun
  | [d1, d2, d3] => { results := [.lit (.bool true)], args := [d1, d2, d3] }
  | _ => none }
def vbvRoomRow : OpenClaim := { program := "ythjcidpfiddeeaadoor", sum := "74445e7690e85e1223c4783de0a972f289367316164937ffe64ceedf66368b9b", func := "kinescope/kinlaw18.VbvRoom", spec := "vbvRoom", inPlace := ["internal/reflectlite.ValueOf", "(internal/reflectlite.Value).Type", "(internal/reflectlite.Value).IsNil", "internal/reflectlite.TypeOf", "(internal/reflectlite.Value).Elem", "(internal/reflectlite.Value).Set"], unfollowed := true, recurses := true, named := ["errors.errorType"], apart := false, laid := [("errors.errorType", laid_errors_errorType)] }
def VbvRoomSaid : Prop := vbvRoomRow.holds Tryd.pinned (OpenSpec.ofChange vbvRoomSpec)

/-- ITS FALSE NEIGHBOUR: 'it returns false'. Refute it at one input. -/
def vbvRoomWrong : ChangeSpec := { name := "vbvRoom", fn := fun _ => fun
  | [d1, d2, d3] => { results := [.lit (.bool false)], args := [d1, d2, d3] }
  | _ => none }
def VbvRoomWrongFalsely : Prop := vbvRoomRow.holds Tryd.pinned (OpenSpec.ofChange vbvRoomWrong)

/- THE SECOND FORM. 'bulk': how many values and letters a reading holds, each counted each time it is reached (what is shared counts as often as it is met; a slice's spare places count too). A statement '..UptoSaid' is the law's where the arguments, and the package variables that the reading takes, are together of bulk at most 1048576: NARROWER than '..Said'. Prove '..Said' where nothing that the law and all that it calls make is longer than what came in: it says more and counts as full. Else prove '..UptoSaid'. A law counts once. -/
mutual
def uptoBulk {H : Type} : DataW H → Nat
  | .lit (.string bytes) => bytes.length + 1
  | .lit _ => 1
  | .nil => 1
  | .ptr d => uptoBulk d + 1
  | .slice elems spare => uptoBulkAll elems + uptoBulkAll spare + 1
  | .agg parts => uptoBulkAll parts + 1
  | .iface _ d => uptoBulk d + 1
  | .map entries => uptoBulkEntries entries + 1
  | .held _ => 1
def uptoBulkAll {H : Type} : List (DataW H) → Nat
  | [] => 0
  | d :: r => uptoBulk d + uptoBulkAll r
def uptoBulkEntries {H : Type} : List (Lit × DataW H) → Nat
  | [] => 0
  | x :: r => uptoBulkEntry x + uptoBulkEntries r
def uptoBulkEntry {H : Type} : Lit × DataW H → Nat
  | (.string bytes, d) => bytes.length + uptoBulk d + 1
  | (_, d) => uptoBulk d + 1
 end
def uptoSmall : (H : Type) → List (DataW H) → Bool := fun _ ds => decide (uptoBulkAll ds ≤ 1048576)
def OpenSpec.upto (s : _root_.Go.ChangeSpec) : _root_.Go.OpenSpec := { _root_.Go.OpenSpec.ofChange s with cond := some uptoSmall }

/-- 'kinlaw18.VbvPlays', WHERE WHAT IT READS IS OF BULK AT MOST 1048576: true; the input reads as it did. -/
def vbvPlaysUptoRow : OpenClaim := { program := "ythjcidpfiddeeaadoor", sum := "74445e7690e85e1223c4783de0a972f289367316164937ffe64ceedf66368b9b", func := "kinescope/kinlaw18.VbvPlays", spec := "vbvPlays", inPlace := ["internal/reflectlite.ValueOf", "(internal/reflectlite.Value).Type", "(internal/reflectlite.Value).IsNil", "internal/reflectlite.TypeOf", "(internal/reflectlite.Value).Elem", "(internal/reflectlite.Value).Set"], unfollowed := true, recurses := true, named := ["errors.errorType"], apart := false, laid := [("errors.errorType", laid_errors_errorType)], narrowed := true }
def VbvPlaysUptoSaid : Prop := vbvPlaysUptoRow.holds Tryd.pinned (OpenSpec.upto vbvPlaysSpec)

/-- 'kinlaw18.VbvFits', WHERE WHAT IT READS IS OF BULK AT MOST 1048576: true; the input reads as it did. -/
def vbvFitsUptoRow : OpenClaim := { program := "ythjcidpfiddeeaadoor", sum := "74445e7690e85e1223c4783de0a972f289367316164937ffe64ceedf66368b9b", func := "kinescope/kinlaw18.VbvFits", spec := "vbvFits", inPlace := ["internal/reflectlite.ValueOf", "(internal/reflectlite.Value).Type", "(internal/reflectlite.Value).IsNil", "internal/reflectlite.TypeOf", "(internal/reflectlite.Value).Elem", "(internal/reflectlite.Value).Set"], unfollowed := true, recurses := true, named := ["errors.errorType"], apart := false, laid := [("errors.errorType", laid_errors_errorType)], narrowed := true }
def VbvFitsUptoSaid : Prop := vbvFitsUptoRow.holds Tryd.pinned (OpenSpec.upto vbvFitsSpec)

/-- 'kinlaw18.VbvLess', WHERE WHAT IT READS IS OF BULK AT MOST 1048576: true; the input reads as it did. -/
def vbvLessUptoRow : OpenClaim := { program := "ythjcidpfiddeeaadoor", sum := "74445e7690e85e1223c4783de0a972f289367316164937ffe64ceedf66368b9b", func := "kinescope/kinlaw18.VbvLess", spec := "vbvLess", inPlace := ["internal/reflectlite.ValueOf", "(internal/reflectlite.Value).Type", "(internal/reflectlite.Value).IsNil", "internal/reflectlite.TypeOf", "(internal/reflectlite.Value).Elem", "(internal/reflectlite.Value).Set"], unfollowed := true, recurses := true, named := ["errors.errorType"], apart := false, laid := [("errors.errorType", laid_errors_errorType)], narrowed := true }
def VbvLessUptoSaid : Prop := vbvLessUptoRow.holds Tryd.pinned (OpenSpec.upto vbvLessSpec)

/-- 'kinlaw18.VbvCuts', WHERE WHAT IT READS IS OF BULK AT MOST 1048576: true; the input reads as it did. -/
def vbvCutsUptoRow : OpenClaim := { program := "ythjcidpfiddeeaadoor", sum := "74445e7690e85e1223c4783de0a972f289367316164937ffe64ceedf66368b9b", func := "kinescope/kinlaw18.VbvCuts", spec := "vbvCuts", inPlace := ["internal/reflectlite.ValueOf", "(internal/reflectlite.Value).Type", "(internal/reflectlite.Value).IsNil", "internal/reflectlite.TypeOf", "(internal/reflectlite.Value).Elem", "(internal/reflectlite.Value).Set"], unfollowed := true, recurses := true, named := ["errors.errorType"], apart := false, laid := [("errors.errorType", laid_errors_errorType)], narrowed := true }
def VbvCutsUptoSaid : Prop := vbvCutsUptoRow.holds Tryd.pinned (OpenSpec.upto vbvCutsSpec)

/-- 'kinlaw18.VbvRoom', WHERE WHAT IT READS IS OF BULK AT MOST 1048576: true; the input reads as it did. -/
def vbvRoomUptoRow : OpenClaim := { program := "ythjcidpfiddeeaadoor", sum := "74445e7690e85e1223c4783de0a972f289367316164937ffe64ceedf66368b9b", func := "kinescope/kinlaw18.VbvRoom", spec := "vbvRoom", inPlace := ["internal/reflectlite.ValueOf", "(internal/reflectlite.Value).Type", "(internal/reflectlite.Value).IsNil", "internal/reflectlite.TypeOf", "(internal/reflectlite.Value).Elem", "(internal/reflectlite.Value).Set"], unfollowed := true, recurses := true, named := ["errors.errorType"], apart := false, laid := [("errors.errorType", laid_errors_errorType)], narrowed := true }
def VbvRoomUptoSaid : Prop := vbvRoomUptoRow.holds Tryd.pinned (OpenSpec.upto vbvRoomSpec)

end Rows
end Go.Proofs.YthjcidpfiddeeaaDoor
