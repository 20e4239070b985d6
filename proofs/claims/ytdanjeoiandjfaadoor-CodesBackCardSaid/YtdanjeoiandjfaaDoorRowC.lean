/- Arguments of the statements of chapter 3 opened: bytes, operations. -/
import Derived.Test.YtdanjeoiandjfaaDoorRow
import Derived.Test.YtdanjeoiandjfaaDoorCodesOps
import Derived.Deep.Slices
import Derived.Deep.Fields
namespace Go.Proofs.YtdanjeoiandjfaaDoor
open Go Go.ChangeShapes Go.WideShapes Go.RowKit Go.Joins Go.Deep

theorem list_of {α : Type} {Q : Nat → α → Prop} : ∀ (n : Nat), (∀ i, i < n → ∃ o, Q i o) → ∃ l : List α, l.length = n ∧ ∀ i (h : i < l.length), Q i l[i] := by
  intro n
  induction n with
  | zero => intro _; exact ⟨[], rfl, fun i h => by simp at h⟩
  | succ n ih =>
    intro h
    obtain ⟨l, hl, hq⟩ := ih (fun i hi => h i (by omega))
    obtain ⟨o, ho⟩ := h n (by omega)
    refine ⟨l ++ [o], by simp [hl], fun i hi => ?_⟩
    by_cases h1 : i < l.length
    · rw [List.getElem_append_left h1]; exact hq i h1
    · have : i = n := by simp at hi; omega
      subst this
      rw [List.getElem_append_right (by omega)]
      simpa [hl] using ho

section
variable {H : Type} {enc : TypeId × Value → H} {W : World} {base b0 : Nat} {spare : Nat → Bool} {held : Bool}
set_option maxRecDepth 100000 in
/-- A slice of bytes, opened. -/
theorem open_bytes' {v : Value} {d : DataW H} {p : List MemPlace} (hv : Value.okWide Tryd.prog W .any b0 43 v) (h : DataW.Trod enc Tryd.prog W base spare held 43 v d p) :
    ∃ (A : Option Addr) (l : List Int) (c : Nat), v = .slice A l.length c ∧ RdI .u8 W A l ∧ l.length ≤ 9223372036854775807 ∧ l.length ≤ c ∧ c ≤ 9223372036854775807 ∧ ∀ n ∈ l, 0 ≤ n ∧ n ≤ 255 := by
  obtain ⟨a0, len0, cap0, rfl⟩ := okWide_slice Tryd.underlying43 hv
  obtain ⟨fuel, hf⟩ := h
  rcases open_ints Tryd.underlying43 Tryd.underlying5 (by kernel_rfl) hf with ⟨hcs, _⟩ | ⟨x, n, c, zs, hcs, _, hl, hm, hz, _, hcell, hwz⟩
  · simp [Value.cells] at hcs
    obtain ⟨rfl, rfl, rfl⟩ := hcs
    exact ⟨none, [], 0, rfl, RdI.nil, by simp, by simp, by simp, by simp⟩
  · simp [Value.cells] at hcs
    obtain ⟨rfl, rfl, rfl⟩ := hcs
    unfold maxLen at hm
    have hzl : len0 ≤ zs.length := by rw [hz]; split <;> omega
    have hln : (zs.take len0).length = len0 := by rw [List.length_take]; omega
    refine ⟨some x, zs.take len0, cap0, by rw [hln], RdI.of_arg (fun i hi => ?_), by omega, by omega, by omega, fun n hn => ?_⟩
    · rw [hln] at hi
      have := hcell i (by omega)
      rw [List.getD_eq_getElem?_getD, List.getElem?_eq_getElem (by omega)] at this
      rw [this, List.getElem_take]; rfl
    · exact bounds_u8 (hwz n (List.mem_of_mem_take hn))

set_option maxRecDepth 100000 in
/-- A slice of operations, opened. -/
theorem open_ops3 {v : Value} {d : DataW H} {p : List MemPlace} (hv : Value.okWide Tryd.prog W .any b0 34 v) (h : DataW.Trod enc Tryd.prog W base spare held 34 v d p) :
    ∃ (A : Option Addr) (l : List Op3) (c : Nat), v = .slice A l.length c ∧ RdO3 W A l ∧ l.length ≤ 9223372036854775807 ∧ l.length ≤ c ∧
      ∀ o ∈ l, InB o := by
  obtain ⟨a0, len0, cap0, rfl⟩ := okWide_slice Tryd.underlying34 hv
  obtain ⟨fuel, hf⟩ := h
  rcases open_slice Tryd.underlying34 hf with ⟨hcs, _⟩ | ⟨a, len, cap, m, n, D, Pl, hcs, _, hl, hm, hmm, _, hi⟩
  · simp [Value.cells] at hcs
    obtain ⟨rfl, rfl, rfl⟩ := hcs
    exact ⟨none, [], 0, rfl, Rd.nil, by simp, by simp, by simp⟩
  · simp [Value.cells] at hcs
    obtain ⟨rfl, rfl, rfl⟩ := hcs
    unfold maxLen at hm
    have hml : len0 ≤ m := by rw [hmm]; split <;> omega
    have hC : Tryd.prog.cellsOf 41 = 4 := by kernel_rfl
    have hc1 : Tryd.prog.cellsOf 3 = 1 := by kernel_rfl
    have key : ∀ i, i < len0 → ∃ o : Op3, (W.cell? (a.add (i * 4)) = some (.int .i64 o.k) ∧ W.cell? (a.add (i * 4 + 1)) = some (.int .i64 o.v) ∧ W.cell? (a.add (i * 4 + 2)) = some (.int .i64 o.n) ∧ W.cell? (a.add (i * 4 + 3)) = some (.int .i64 o.m)) ∧ InB o := by
      intro i hlt
      obtain ⟨cs', hc, ht⟩ := hi i (by omega)
      rw [hC] at hc
      obtain ⟨_, hcl, hat⟩ := World.cells?_some hc
      obtain ⟨xs, n', _, hx, _, hlen, hg⟩ := DataW.trod_struct Tryd.underlying41 ht
      match cs', hcl with
      | [c0, c1, c2, c3], _ =>
        match xs, hlen with
        | [y0, y1, y2, y3], _ =>
          obtain ⟨k0, e0, _⟩ := DataW.trod_int Tryd.underlying3 (show DataW.trod enc Tryd.prog W base spare held n' 3 [c0] = some y0 by simpa [hc1] using hg 0 _ rfl)
          obtain ⟨k1, e1, _, w1⟩ := DataW.trod_int Tryd.underlying3 (show DataW.trod enc Tryd.prog W base spare held n' 3 [c1] = some y1 by simpa [hc1] using hg 1 _ rfl)
          obtain ⟨k2, e2, _, w2⟩ := DataW.trod_int Tryd.underlying3 (show DataW.trod enc Tryd.prog W base spare held n' 3 [c2] = some y2 by simpa [hc1] using hg 2 _ rfl)
          obtain ⟨k3, e3, _, w3⟩ := DataW.trod_int Tryd.underlying3 (show DataW.trod enc Tryd.prog W base spare held n' 3 [c3] = some y3 by simpa [hc1] using hg 3 _ rfl)
          simp only [List.cons.injEq, and_true] at e0 e1 e2 e3
          subst e0 e1 e2 e3
          have a0 := hat 0 (by omega)
          have a1 := hat 1 (by omega)
          have a2 := hat 2 (by omega)
          have a3 := hat 3 (by omega)
          rw [Go.Proofs.YtdanjeoiandjfaaDoor.add_add] at a0 a1 a2 a3
          exact ⟨⟨k0, k1, k2, k3⟩, ⟨a0, a1, a2, a3⟩, bounds_i64 w1, bounds_i64 w2, bounds_i64 w3⟩
    obtain ⟨l, hll, hq⟩ := list_of len0 key
    refine ⟨some a, l, cap0, by rw [hll], Rd.of_arg (flat3_length l) (fun j u hu => ?_) (by omega), by omega, by omega, fun o ho => ?_⟩
    · have hj : j < (flat3 l).length := (List.getElem?_eq_some_iff.1 hu).1
      rw [flat3_length] at hj
      have hil : j / 4 < l.length := by omega
      obtain ⟨⟨q0, q1, q2, q3⟩, _⟩ := hq _ hil
      obtain ⟨f0, f1, f2, f3⟩ := flat3_get l _ hil
      rcases (show j = j / 4 * 4 ∨ j = j / 4 * 4 + 1 ∨ j = j / 4 * 4 + 2 ∨ j = j / 4 * 4 + 3 by omega) with e | e | e | e
      · rw [← e] at f0 q0; rw [f0] at hu; rw [q0]; exact hu
      · rw [← e] at f1 q1; rw [f1] at hu; rw [q1]; exact hu
      · rw [← e] at f2 q2; rw [f2] at hu; rw [q2]; exact hu
      · rw [← e] at f3 q3; rw [f3] at hu; rw [q3]; exact hu
    · obtain ⟨i, hil, rfl⟩ := List.getElem_of_mem ho
      exact (hq i hil).2
end

end Go.Proofs.YtdanjeoiandjfaaDoor
