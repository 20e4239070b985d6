/- The walk of kinlaw3.CodesUnfolds: it returns true, whatever the input. -/
import Derived.Test.YtdanjeoiandjfaaDoorCodesFirst
namespace Go.Proofs.YtdanjeoiandjfaaDoor
open Go Go.RowKit Go.Extern.Stop Go.Stop Go.Extern

set_option maxRecDepth 100000 in
set_option maxHeartbeats 2000000 in
theorem CodesUnfolds_walk {a b : Int} (ha : -9223372036854775808 ≤ a ∧ a ≤ 9223372036854775807) (hb : -9223372036854775808 ≤ b ∧ b ≤ 9223372036854775807) (w : World) (hg : Gl w) :
    Calls Tryd.prog 4 #[.int .i64 a, .int .i64 b] w fun e w' => e = .returned (.bool true) ∧ Below w.heap.size w w' := by
  have HG := Lib.hid hg
  clear hg
  by_cases hin : (a ≤ 2305843009213693952 ∧ -2305843009213693952 ≤ a) ∧ (b ≤ 2305843009213693952 ∧ -2305843009213693952 ≤ b)
  · obtain ⟨⟨a1, a2⟩, b1, b2⟩ := hin
    have ua := Lib.hid (Co.unfold_fold a1 a2)
    have ub := Lib.hid (Co.unfold_fold b1 b2)
    have hinj := Co.fold_inj a1 a2 b1 b2
    have hx0 := Co.fold_nonneg a
    have hgr := Co.fold_rises a1 a2 b1 b2
    have hfa : Co.fold a ≤ 4611686018427387904 := by
      by_cases h : 0 < a
      · rw [Co.fold_pos a1 h]; omega
      · rw [Co.fold_neg a2 (by omega)]; omega
    have hfb : Co.fold b ≤ 4611686018427387904 := by
      by_cases h : 0 < b
      · rw [Co.fold_pos b1 h]; omega
      · rw [Co.fold_neg b2 (by omega)]; omega
    have hy0 := Co.fold_nonneg b
    obtain ⟨x, hx⟩ : ∃ x, Co.fold a = x := ⟨_, rfl⟩
    obtain ⟨y, hy⟩ : ∃ y, Co.fold b = y := ⟨_, rfl⟩
    have HX := Lib.hid hx
    have HY := Lib.hid hy
    rw [hx] at ua hinj hx0 hgr hfa
    rw [hy] at ub hinj hgr hfb hy0
    have HI : Hid ((x == y) = (a == b)) := by
      by_cases h : a = b
      · rw [beq_iff_eq.2 h, beq_iff_eq.2 (hinj.2 h)]; trivial
      · rw [beq_eq_false_iff_ne.2 h, beq_eq_false_iff_ne.2 (fun h2 => h (hinj.1 h2))]; trivial
    obtain ⟨za, hza⟩ : ∃ z, max a (-a) = z := ⟨_, rfl⟩
    obtain ⟨zb, hzb⟩ : ∃ z, max b (-b) = z := ⟨_, rfl⟩
    rw [hza, hzb] at hgr
    have HGR := Lib.hid hgr
    clear hx hy hinj hgr
    go_enter Tryd.func4, Tryd.ntmps4
    go_wp2_with fail
    refine (first_true _ HG.out).mono ?_
    rintro e w1 ⟨rfl, hb1⟩
    go_wp2_with fail
    refine (Fold_any a ha _).mono ?_
    rintro e w' ⟨rfl, rfl⟩
    rw [HX.out]
    go_wp2_with fail
    refine (Fold_any b hb _).mono ?_
    rintro e w' ⟨rfl, rfl⟩
    rw [HY.out]
    go_wp2_with fail
    all_goals (
      refine (first_true _ (HG.out.keep hb1)).mono ?_
      rintro e w2 ⟨rfl, hb2⟩
      have hbl := hb1.trans (hb2.mono hb1.size)
      clear hb1 hb2
      go_wp2_with fail
      refine (Unfold_any x ⟨by omega, by omega⟩ _).mono ?_
      rintro e w' ⟨rfl, rfl⟩
      rw [ua.out]
      go_wp2_with fail
      refine (Unfold_any y ⟨by omega, by omega⟩ _).mono ?_
      rintro e w' ⟨rfl, rfl⟩
      rw [ub.out]
      have hio := HI.out
      go_wp2_with fail
      all_goals (
        go_ret
        exact ⟨by first | rfl | (simp; exact HGR.out (by assumption)), hbl⟩))
  · go_enter Tryd.func4, Tryd.ntmps4
    go_wp2_with fail
    refine (first_true _ HG.out).mono ?_
    rintro e w1 ⟨rfl, hb1⟩
    rcases (show 2305843009213693952 < a ∨ (a ≤ 2305843009213693952 ∧ a < -2305843009213693952) ∨ (a ≤ 2305843009213693952 ∧ -2305843009213693952 ≤ a ∧ 2305843009213693952 < b) ∨ (a ≤ 2305843009213693952 ∧ -2305843009213693952 ≤ a ∧ b ≤ 2305843009213693952 ∧ b < -2305843009213693952) by omega) with h | ⟨h, h2⟩ | ⟨h, h2, h3⟩ | ⟨h, h2, h3, h4⟩
    all_goals (
      go_wp2_with fail
      refine (first_true _ (HG.out.keep hb1)).mono ?_
      rintro e w2 ⟨rfl, hb2⟩
      go_wp2_with fail
      go_ret
      exact ⟨rfl, hb1.trans (hb2.mono hb1.size)⟩)

end Go.Proofs.YtdanjeoiandjfaaDoor
