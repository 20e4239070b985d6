/- Contracts of vbv.from, vbv.May and kinref18.May. -/
import Derived.Test.YtiaplanhlkndiaaDoorSame
namespace Go.Proofs.YtiaplanhlkndiaaDoor
open Go Go.RowKit Go.Extern.Stop Go.Stop Go.Extern

theorem from_yes {v l m : Int} (w : World) (h1 : l ≤ v) (h2 : v ≤ m) : Calls Tryd.prog 26 #[.int .i64 v, .int .i64 l, .int .i64 m] w fun e w' => e = .returned (.bool true) ∧ w = w' := by
  go_enter Tryd.func26, Tryd.ntmps26
  go_wp2
  go_ret
  exact ⟨rfl, rfl⟩
theorem from_no {v l m : Int} (w : World) (h : ¬ (l ≤ v ∧ v ≤ m)) : Calls Tryd.prog 26 #[.int .i64 v, .int .i64 l, .int .i64 m] w fun e w' => e = .returned (.bool false) ∧ w = w' := by
  by_cases h1 : l ≤ v
  · have h2 : decide (v ≤ m) = false := by simp; omega
    clear h
    go_enter Tryd.func26, Tryd.ntmps26
    go_wp2
    go_ret
    exact ⟨by simp, rfl⟩
  · have h2 : v < l := by omega
    clear h h1
    go_enter Tryd.func26, Tryd.ntmps26
    go_wp2
    go_ret
    exact ⟨rfl, rfl⟩

section
variable {qn qx re cu go ra ro fi : Int}
theorem mayB_yes (h : 0 ≤ qn ∧ qn ≤ qx ∧ qx ≤ 15 ∧ 0 ≤ re ∧ re ≤ 7 ∧ 0 ≤ cu ∧ cu ≤ 16320 ∧ 1 ≤ go ∧ go ≤ 16 ∧ 8 ≤ ra ∧ ra ≤ ro ∧ ro ≤ 16384 ∧ 8 ≤ fi ∧ fi ≤ ro) : Vb.mayB qn qx re cu go ra ro fi = true := by
  simpa [Vb.mayB] using h
theorem mayB_no (h : ¬ (0 ≤ qn ∧ qn ≤ qx ∧ qx ≤ 15 ∧ 0 ≤ re ∧ re ≤ 7 ∧ 0 ≤ cu ∧ cu ≤ 16320 ∧ 1 ≤ go ∧ go ≤ 16 ∧ 8 ≤ ra ∧ ra ≤ ro ∧ ro ≤ 16384 ∧ 8 ≤ fi ∧ fi ≤ ro)) : Vb.mayB qn qx re cu go ra ro fi = false := by
  unfold Vb.mayB; exact decide_eq_false h
theorem mayB_of (h : Vb.mayB qn qx re cu go ra ro fi = true) : 0 ≤ qn ∧ qn ≤ qx ∧ qx ≤ 15 ∧ 0 ≤ re ∧ re ≤ 7 ∧ 0 ≤ cu ∧ cu ≤ 16320 ∧ 1 ≤ go ∧ go ≤ 16 ∧ 8 ≤ ra ∧ ra ≤ ro ∧ ro ≤ 16384 ∧ 8 ≤ fi ∧ fi ≤ ro := by
  simpa [Vb.mayB] using h
end

/-- A configuration as a value. -/
abbrev cfgV (qn qx re cu go ra ro fi : Int) : Value := .agg #[.int .i64 qn, .int .i64 qx, .int .i64 re, .int .i64 cu, .int .i64 go, .int .i64 ra, .int .i64 ro, .int .i64 fi]
abbrev cfgC (qn qx re cu go ra ro fi : Int) : Obj := .cells #[.int .i64 qn, .int .i64 qx, .int .i64 re, .int .i64 cu, .int .i64 go, .int .i64 ra, .int .i64 ro, .int .i64 fi] 23

set_option maxHeartbeats 4000000 in
theorem May_any {qn qx re cu go ra ro fi : Int} (w : World) : Calls Tryd.prog 24 #[.agg #[.int .i64 qn, .int .i64 qx, .int .i64 re, .int .i64 cu, .int .i64 go, .int .i64 ra, .int .i64 ro, .int .i64 fi]] w
    fun e w' => e = .returned (.bool (Vb.mayB qn qx re cu go ra ro fi)) ∧ Below w.heap.size w w' := by
  have hfin : Below w.heap.size w (w.alloc (cfgC qn qx re cu go ra ro fi)) := (Below.refl _ _).alloc (Nat.le_refl _) _
  rcases (show ¬ (0 ≤ qn ∧ qn ≤ qx) ∨ (0 ≤ qn ∧ qn ≤ qx ∧ 15 < qx) ∨ (0 ≤ qn ∧ qn ≤ qx ∧ qx ≤ 15) by omega) with h1 | ⟨h1, h2, h3⟩ | ⟨h1, h2, h3⟩
  all_goals rcases (show ¬ (0 ≤ re ∧ re ≤ 7) ∨ (0 ≤ re ∧ re ≤ 7 ∧ ¬ (0 ≤ cu ∧ cu ≤ 16320)) ∨ (0 ≤ re ∧ re ≤ 7 ∧ 0 ≤ cu ∧ cu ≤ 16320 ∧ ¬ (1 ≤ go ∧ go ≤ 16)) ∨ (0 ≤ re ∧ re ≤ 7 ∧ 0 ≤ cu ∧ cu ≤ 16320 ∧ 1 ≤ go ∧ go ≤ 16) by omega) with k1 | ⟨k1, k2, k3⟩ | ⟨k1, k2, k3, k4, k5⟩ | ⟨k1, k2, k3, k4, k5, k6⟩
  rotate_left 11
  rcases (show ¬ (8 ≤ ra ∧ ra ≤ ro) ∨ (8 ≤ ra ∧ ra ≤ ro ∧ 16384 < ro) ∨ (8 ≤ ra ∧ ra ≤ ro ∧ ro ≤ 16384 ∧ ¬ (8 ≤ fi ∧ fi ≤ ro)) ∨ (8 ≤ ra ∧ ra ≤ ro ∧ ro ≤ 16384 ∧ 8 ≤ fi ∧ fi ≤ ro) by omega) with l1 | ⟨l1, l2, l3⟩ | ⟨l1, l2, l3, l4⟩ | ⟨l1, l2, l3, l4, l5⟩
  all_goals (
    first | rw [mayB_yes (by omega)] | rw [mayB_no (by omega)]
    have d1 : 15 < qx → decide (qx ≤ 15) = false := fun h => by simp; omega
    have d2 : 16384 < ro → decide (ro ≤ 16384) = false := fun h => by simp; omega
    go_enter Tryd.func24, Tryd.ntmps24
    go_wp2_with (first
      | (go_at_call 26; refine (from_yes _ (by omega) (by omega)).mono ?_; rintro e w' ⟨rfl, rfl⟩)
      | (go_at_call 26; refine (from_no _ (by omega)).mono ?_; rintro e w' ⟨rfl, rfl⟩))
    go_ret
    exact ⟨rfl, hfin⟩)

set_option maxHeartbeats 4000000 in
theorem RMay_any {qn qx re cu go ra ro fi : Int} (w : World) : Calls Tryd.prog 18 #[.agg #[.int .i64 qn, .int .i64 qx, .int .i64 re, .int .i64 cu, .int .i64 go, .int .i64 ra, .int .i64 ro, .int .i64 fi]] w
    fun e w' => e = .returned (.bool (Vb.mayB qn qx re cu go ra ro fi)) ∧ Below w.heap.size w w' := by
  have hfin : Below w.heap.size w (w.alloc (cfgC qn qx re cu go ra ro fi)) := (Below.refl _ _).alloc (Nat.le_refl _) _
  rcases (show qn < 0 ∨ (0 ≤ qn ∧ qx < qn) ∨ (0 ≤ qn ∧ qn ≤ qx ∧ 15 < qx) ∨ (0 ≤ qn ∧ qn ≤ qx ∧ qx ≤ 15) by omega) with h1 | ⟨h1, h2⟩ | ⟨h1, h2, h3⟩ | ⟨h1, h2, h3⟩
  rotate_left 3
  rcases (show re < 0 ∨ (0 ≤ re ∧ 7 < re) ∨ (0 ≤ re ∧ re ≤ 7 ∧ cu < 0) ∨ (0 ≤ re ∧ re ≤ 7 ∧ 0 ≤ cu ∧ 16320 < cu) ∨ (0 ≤ re ∧ re ≤ 7 ∧ 0 ≤ cu ∧ cu ≤ 16320 ∧ go < 1) ∨ (0 ≤ re ∧ re ≤ 7 ∧ 0 ≤ cu ∧ cu ≤ 16320 ∧ 1 ≤ go ∧ 16 < go) ∨ (0 ≤ re ∧ re ≤ 7 ∧ 0 ≤ cu ∧ cu ≤ 16320 ∧ 1 ≤ go ∧ go ≤ 16) by omega) with k1 | ⟨k1, k2⟩ | ⟨k1, k2, k3⟩ | ⟨k1, k2, k3, k4⟩ | ⟨k1, k2, k3, k4, k5⟩ | ⟨k1, k2, k3, k4, k5, k6⟩ | ⟨k1, k2, k3, k4, k5, k6⟩
  rotate_left 6
  rcases (show ra < 8 ∨ (8 ≤ ra ∧ ro < ra) ∨ (8 ≤ ra ∧ ra ≤ ro ∧ 16384 < ro) ∨ (8 ≤ ra ∧ ra ≤ ro ∧ ro ≤ 16384 ∧ fi < 8) ∨ (8 ≤ ra ∧ ra ≤ ro ∧ ro ≤ 16384 ∧ 8 ≤ fi ∧ ro < fi) ∨ (8 ≤ ra ∧ ra ≤ ro ∧ ro ≤ 16384 ∧ 8 ≤ fi ∧ fi ≤ ro) by omega) with l1 | ⟨l1, l2⟩ | ⟨l1, l2, l3⟩ | ⟨l1, l2, l3, l4⟩ | ⟨l1, l2, l3, l4, l5⟩ | ⟨l1, l2, l3, l4, l5⟩
  all_goals (
    first | rw [mayB_yes (by omega)] | rw [mayB_no (by omega)]
    have d : ro < fi → decide (fi ≤ ro) = false := fun h => by simp; omega
    go_enter Tryd.func18, Tryd.ntmps18
    go_wp2_with fail
    go_ret
    exact ⟨rfl, hfin⟩)

end Go.Proofs.YtiaplanhlkndiaaDoor
