/- What every statement of this seat wants of its row: the four listed variables' cells, a world that meets the condition, an argument of each type opened. -/
import Derived.Test.YtnccebfapihpjaaGreatDoorRows
import Derived.Test.YtnccebfapihpjaaGreatDoorFaultText2
import Derived.ChangeSame
import Derived.ChangeVars
import Derived.JoinedOf
import Derived.RowKit
import Derived.RowKitTokens
import Derived.LaidLaws
import Derived.LaidHandle
import Derived.LaidSub
import Derived.Stop.Joined
import Derived.ProofKit
import Derived.OpenShut
import Derived.Lib.SmallJoins
import Derived.Lib.LaidTab
import Derived.SizedLaws
import Derived.ChangeMaps5
import Derived.Deep.Slices
import Derived.Deep.Fields
namespace Go.Proofs.YtnccebfapihpjaaGreatDoor
open Go Go.ChangeShapes Go.WideShapes Go.RowKit Go.Joins Go.Deep

theorem own : ownKnob Tryz.prog.godebug = none := by kernel_rfl
theorem laidOut : laidOutB Tryz.prog = true := by kernel_rfl
theorem et : Tryz.prog.globalNamed "errors.errorType" = some 0 := by kernel_rfl
theorem rt : (Tryz.prog.cutTypes.find? (·.1 == "internal/reflectlite.rtype")).map (·.2) = some 136 := by kernel_rfl
theorem oneRow : ((List.range 190).filter fun t => Tryz.prog.rowNamed t [101, 114, 114, 111, 114]) = [28] := by kernel_rfl
theorem typesSize : Tryz.prog.types.size = 190 := by kernel_rfl

/-- What the rows list. -/
abbrev L4 : List (String × DataW Unit) := [("math/bits.deBruijn32tab", Rows.laid_math_bits_deBruijn32tab), ("math/bits.deBruijn64tab", Rows.laid_math_bits_deBruijn64tab), ("internal/strconv.uint64pow10", Rows.laid_internal_strconv_uint64pow10), ("errors.errorType", Rows.laid_errors_errorType)]
theorem L4_handle : (L4.filter fun x => x.2.handleName?.isSome) = [("errors.errorType", Rows.laid_errors_errorType)] := by kernel_rfl
theorem L4_pow : ((L4.filter fun x => x.2.handleName?.isNone).filter fun x => x.1 == "internal/strconv.uint64pow10") = [("internal/strconv.uint64pow10", Lib.tabData .u64 Lib.pow10Tab)] := by kernel_rfl

/-- What the condition gives a walk: the variable's one cell. -/
theorem handle_of_laid {W : World} (h : laidMetH Tryz.prog L4 W) : Gl W := by
  have h2 := (laidMetH_iff.1 h).2
  rw [L4_handle] at h2
  obtain ⟨name, u, ty, e1, e2, e3, e4, e5⟩ := h2 _ (List.mem_singleton.2 rfl)
  have en : name = [101, 114, 114, 111, 114] := (Option.some.inj e1).symm
  subst en
  obtain rfl := Option.some.inj (rt.symm.trans e2)
  have hm : ty ∈ (List.range 190).filter fun t => Tryz.prog.rowNamed t [101, 114, 114, 111, 114] := List.mem_filter.2 ⟨List.mem_range.2 (by rw [← typesSize]; exact e3), e4⟩
  rw [oneRow] at hm
  obtain rfl := List.mem_singleton.1 hm
  have hh : typeHandle Tryz.prog 28 = .pointer (some ⟨4, 28, none⟩) := by kernel_rfl
  rw [hh] at e5
  unfold Gl
  simpa using World.var?_cell et e5 0
/-- .. the table of powers. -/
theorem pow_of_laid {W : World} (h : laidMetH Tryz.prog L4 W) : Tb W := by
  have h1 := (laidMetH_iff.1 h).1.filter (fun x => x.1 == "internal/strconv.uint64pow10")
  rw [L4_pow] at h1
  exact Lib.tabIs_of_head (g := 1) (t := 156) (e := 149) (n := 20) (by kernel_rfl) (by kernel_rfl) Tryz.underlying156 Tryz.underlying149 (by kernel_rfl) (by kernel_rfl) h1

/-- A world that meets the condition: the settled one, the variables' cells laid. -/
noncomputable def laidWorld (os : Os) : World :=
  let w0 := World.holding Tryz.prog os ⟨#[], #[], []⟩
  let lay (h : Array Obj) (g : Nat) (cs : Array Value) : Array Obj := h.modify g fun
    | .cells _ t frozen => .cells cs t frozen
    | o => o
  let lits (d : DataW Unit) : Array Value := match d with
    | .agg xs => (xs.map fun x => match x with | .lit (.int k n) => Value.int k n | _ => .nilIface).toArray
    | _ => #[]
  { w0 with heap := lay (lay (lay (lay w0.heap 0 #[.iface 136 (.agg #[.pointer (some ⟨4, 28, none⟩)])])
      1 (lits Rows.laid_internal_strconv_uint64pow10)) 2 (lits Rows.laid_math_bits_deBruijn32tab)) 3 (lits Rows.laid_math_bits_deBruijn64tab) }
theorem laidWorld_met (os : Os) (args : Array Value) : laidMetH Tryz.prog L4 ((laidWorld os).forCall (fun _ _ => 0) ⟨#[], args, []⟩).memory :=
  laidMetH_of_parts (laidMet_of_run' 8 (by kernel_rfl) (by kernel_rfl)) (by kernel_rfl)

theorem list_of {α : Type} {Q : Nat → α → Prop} : ∀ (n : Nat), (∀ i, i < n → ∃ o, Q i o) → ∃ l : List α, l.length = n ∧ ∀ i (h : i < l.length), Q i l[i] := by
  intro n
  induction n with
  | zero => intro _; exact ⟨[], rfl, fun i h => by simp at h⟩
  | succ n ih =>
    intro h
    obtain ⟨l, hl, hq⟩ := ih (fun i hi => h i (by omega))
    obtain ⟨o, ho⟩ := h n (by omega)
    refine ⟨l ++ [o], by simp [hl], fun i hi => ?_⟩
    by_cases h1 : i < l.length
    · rw [List.getElem_append_left h1]; exact hq i h1
    · have : i = n := by simp at hi; omega
      subst this
      rw [List.getElem_append_right (by omega)]
      simpa [hl] using ho

section
variable {H : Type} {enc : TypeId × Value → H} {W : World} {base b0 : Nat} {spare : Nat → Bool} {held : Bool}
set_option maxRecDepth 100000 in
/-- An integer, opened. -/
theorem open_i64 {v : Value} {d : DataW H} {p : List MemPlace} (hv : Value.okWide Tryz.prog W .any b0 3 v) (h : DataW.Trod enc Tryz.prog W base spare held 3 v d p) :
    ∃ n : Int, v = .int .i64 n ∧ -9223372036854775808 ≤ n ∧ n ≤ 9223372036854775807 := by
  obtain ⟨n, rfl, _, _, hw⟩ := open_int Tryz.underlying3 hv h
  exact ⟨n, rfl, bounds_i64 hw⟩
set_option maxRecDepth 100000 in
/-- A code, opened. -/
theorem open_code {v : Value} {d : DataW H} {p : List MemPlace} (hv : Value.okWide Tryz.prog W .any b0 31 v) (h : DataW.Trod enc Tryz.prog W base spare held 31 v d p) :
    ∃ n : Int, v = .int .i64 n ∧ -9223372036854775808 ≤ n ∧ n ≤ 9223372036854775807 := by
  obtain ⟨n, rfl, _, _, hw⟩ := open_int Tryz.underlying31 hv h
  exact ⟨n, rfl, bounds_i64 hw⟩
set_option maxRecDepth 100000 in
theorem open_bool' {v : Value} {d : DataW H} {p : List MemPlace} (hv : Value.okWide Tryz.prog W .any b0 4 v) (h : DataW.Trod enc Tryz.prog W base spare held 4 v d p) : ∃ b : Bool, v = .bool b := by
  obtain ⟨b, rfl, _⟩ := open_bool Tryz.underlying4 hv h
  exact ⟨b, rfl⟩
set_option maxRecDepth 100000 in
theorem open_str {v : Value} {d : DataW H} {p : List MemPlace} (hv : Value.okWide Tryz.prog W .any b0 9 v) (h : DataW.Trod enc Tryz.prog W base spare held 9 v d p) : ∃ s : ByteArray, v = .string s ∧ s.size ≤ 9223372036854775807 := by
  obtain ⟨s, rfl, _, _, hs⟩ := Go.ChangeMaps.open_string Tryz.underlying9 hv h
  exact ⟨s, rfl, by unfold maxLen at hs; omega⟩
set_option maxRecDepth 100000 in
/-- A slice of steps, opened. -/
theorem open_steps {v : Value} {d : DataW H} {p : List MemPlace} (hv : Value.okWide Tryz.prog W .any b0 68 v) (h : DataW.Trod enc Tryz.prog W base spare held 68 v d p) :
    ∃ (A : Option Addr) (l : Fa.Steps) (c : Nat), v = .slice A l.length c ∧ Rd W 2 A l.length (flatP l) ∧ l.length ≤ 9223372036854775807 ∧ l.length ≤ c ∧ ∀ x ∈ l, Fa.InI x.2 := by
  obtain ⟨a0, len0, cap0, rfl⟩ := okWide_slice Tryz.underlying68 hv
  obtain ⟨fuel, hf⟩ := h
  rcases open_slice Tryz.underlying68 hf with ⟨hcs, _⟩ | ⟨a, len, cap, m, n, D, Pl, hcs, _, hl, hm, hmm, _, hi⟩
  · simp [Value.cells] at hcs
    obtain ⟨rfl, rfl, rfl⟩ := hcs
    exact ⟨none, [], 0, rfl, Rd.nil, by simp, by simp, by simp⟩
  · simp [Value.cells] at hcs
    obtain ⟨rfl, rfl, rfl⟩ := hcs
    unfold maxLen at hm
    have hml : len0 ≤ m := by rw [hmm]; split <;> omega
    have hC : Tryz.prog.cellsOf 71 = 2 := by kernel_rfl
    have hc1 : Tryz.prog.cellsOf 3 = 1 := by kernel_rfl
    have hc9 : Tryz.prog.cellsOf 9 = 1 := by kernel_rfl
    have key : ∀ i, i < len0 → ∃ o : ByteArray × Int, (W.cell? (a.add (i * 2)) = some (.string o.1) ∧ W.cell? (a.add (i * 2 + 1)) = some (.int .i64 o.2)) ∧ Fa.InI o.2 := by
      intro i hlt
      obtain ⟨cs', hc, ht⟩ := hi i (by omega)
      rw [hC] at hc
      obtain ⟨_, hcl, hat⟩ := World.cells?_some hc
      obtain ⟨xs, n', _, hx, _, hlen, hg⟩ := DataW.trod_struct Tryz.underlying71 ht
      match cs', hcl with
      | [c0, c1], _ =>
        match xs, hlen with
        | [y0, y1], _ =>
          obtain ⟨s0, e0, _⟩ := DataW.trod_string Tryz.underlying9 (show DataW.trod enc Tryz.prog W base spare held n' 9 [c0] = some y0 by simpa [hc9] using hg 0 _ rfl)
          obtain ⟨k1, e1, _, w1⟩ := DataW.trod_int Tryz.underlying3 (show DataW.trod enc Tryz.prog W base spare held n' 3 [c1] = some y1 by simpa [hc1] using hg 1 _ rfl)
          simp only [List.cons.injEq, and_true] at e0 e1
          subst e0 e1
          have a0 := hat 0 (by omega)
          have a1 := hat 1 (by omega)
          rw [Go.Proofs.YtnccebfapihpjaaGreatDoor.add_add] at a0 a1
          exact ⟨⟨s0, k1⟩, ⟨a0, a1⟩, bounds_i64 w1⟩
    obtain ⟨l, hll, hq⟩ := list_of len0 key
    refine ⟨some a, l, cap0, by rw [hll], Rd.of_arg (flatP_length l) (fun j u hu => ?_) (by omega), by omega, by omega, fun o ho => ?_⟩
    · have hj : j < (flatP l).length := (List.getElem?_eq_some_iff.1 hu).1
      rw [flatP_length] at hj
      have hil : j / 2 < l.length := by omega
      obtain ⟨⟨q0, q1⟩, _⟩ := hq _ hil
      obtain ⟨f0, f1⟩ := flatP_get l _ hil
      rcases (show j = j / 2 * 2 ∨ j = j / 2 * 2 + 1 by omega) with e | e
      · rw [← e] at f0 q0; rw [f0] at hu; rw [q0]; exact hu
      · rw [← e] at f1 q1; rw [f1] at hu; rw [q1]; exact hu
    · obtain ⟨i, hil, rfl⟩ := List.getElem_of_mem ho
      exact (hq i hil).2
end

end Go.Proofs.YtnccebfapihpjaaGreatDoor
