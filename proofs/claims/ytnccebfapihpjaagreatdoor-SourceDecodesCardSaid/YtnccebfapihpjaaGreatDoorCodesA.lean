/- Contracts of package codes: Len, folds, sizes; and the document's. -/
import Derived.Shelf.Lay
import Derived.Shelf.Small.Bits
import Derived.Test.YtnccebfapihpjaaGreatDoorCodesLaw
import Derived.Test.YtnccebfapihpjaaGreatDoorAs
import Derived.Deep.LoopGhost
import Derived.Outline
namespace Go.Proofs.YtnccebfapihpjaaGreatDoor
open Go Go.RowKit Go.Shelf

theorem blen_bitLen : ∀ (n x : Nat), x < 2 ^ n → Lib.bitLenAux n x = Co.blen (x : Int) := by
  intro n
  induction n with
  | zero => intro x hx; have : x = 0 := by simpa using hx
            subst this; rfl
  | succ n ih =>
    intro x hx
    simp only [Lib.bitLenAux]
    by_cases h0 : x = 0
    · subst h0; rfl
    · rw [if_neg h0, ih (x / 2) (by rw [Nat.pow_succ] at hx; omega), Co.blen_half (u := (x : Int)) (by omega), show ((x / 2 : Nat) : Int) = (x : Int) / 2 by omega]
      omega
theorem Fold_any (v : Int) (hv : -9223372036854775808 ≤ v ∧ v ≤ 9223372036854775807) (w : World) : Calls Tryz.prog 51 #[.int .i64 v] w fun e w' => e = .returned (.int .i64 (Co.fold v)) ∧ w = w' := by
  unfold Co.fold
  obtain ⟨h1, h2⟩ := hv
  by_cases ha : v > 2305843009213693952
  · rw [if_pos (.inl ha)]
    go_enter Tryz.func51, Tryz.ntmps51
    go_wp2_with fail
    go_ret
    exact ⟨rfl, rfl⟩
  · by_cases hb : v < -2305843009213693952
    · rw [if_pos (.inr hb)]
      go_enter Tryz.func51, Tryz.ntmps51
      go_wp2_with fail
      go_ret
      exact ⟨rfl, rfl⟩
    · rw [if_neg (by omega)]
      by_cases hc : v > 0
      · rw [if_pos hc]
        go_enter Tryz.func51, Tryz.ntmps51
        go_wp2_with fail
        go_ret
        exact ⟨rfl, rfl⟩
      · rw [if_neg hc]
        go_enter Tryz.func51, Tryz.ntmps51
        go_wp2_with fail
        go_ret
        exact ⟨rfl, rfl⟩
theorem RFold_any (v : Int) (hv : -9223372036854775808 ≤ v ∧ v ≤ 9223372036854775807) (w : World) : Calls Tryz.prog 59 #[.int .i64 v] w fun e w' => e = .returned (.int .i64 (Co.fold v)) ∧ w = w' := by
  unfold Co.fold
  obtain ⟨h1, h2⟩ := hv
  by_cases ha : v > 2305843009213693952
  · rw [if_pos (.inl ha)]
    go_enter Tryz.func59, Tryz.ntmps59
    go_wp2_with fail
    go_ret
    exact ⟨rfl, rfl⟩
  · by_cases hb : v < -2305843009213693952
    · rw [if_pos (.inr hb)]
      go_enter Tryz.func59, Tryz.ntmps59
      go_wp2_with fail
      go_ret
      exact ⟨rfl, rfl⟩
    · rw [if_neg (by omega)]
      by_cases hc : v > 0
      · rw [if_pos hc]
        go_enter Tryz.func59, Tryz.ntmps59
        go_wp2_with fail
        go_ret
        exact ⟨rfl, rfl⟩
      · rw [if_neg hc]
        go_enter Tryz.func59, Tryz.ntmps59
        go_wp2_with fail
        go_ret
        exact ⟨rfl, rfl⟩
theorem Unfold_any (v : Int) (hv : -9223372036854775808 ≤ v ∧ v ≤ 9223372036854775807) (w : World) : Calls Tryz.prog 66 #[.int .i64 v] w fun e w' => e = .returned (.int .i64 (Co.unfold' v)) ∧ w = w' := by
  unfold Co.unfold'
  obtain ⟨h1, h2⟩ := hv
  by_cases ha : v < 0
  · rw [if_pos (.inl ha)]
    go_enter Tryz.func66, Tryz.ntmps66
    go_wp2_with fail
    go_ret
    exact ⟨rfl, rfl⟩
  · by_cases hb : v > 4611686018427387904
    · rw [if_pos (.inr hb)]
      go_enter Tryz.func66, Tryz.ntmps66
      go_wp2_with fail
      go_ret
      exact ⟨rfl, rfl⟩
    · rw [if_neg (by omega)]
      by_cases hc : v % 2 = 1
      · rw [if_pos hc]
        have hc' : (v % 2 == 1) = true := by rw [beq_iff_eq]; exact hc
        go_enter Tryz.func66, Tryz.ntmps66
        go_wp2_with fail
        go_ret
        exact ⟨rfl, rfl⟩
      · rw [if_neg hc]
        have hc' : (v % 2 == 1) = false := by rw [beq_eq_false_iff_ne]; exact hc
        go_enter Tryz.func66, Tryz.ntmps66
        go_wp2_with fail
        go_ret
        exact ⟨rfl, rfl⟩
theorem RUnfold_any (v : Int) (hv : -9223372036854775808 ≤ v ∧ v ≤ 9223372036854775807) (w : World) : Calls Tryz.prog 70 #[.int .i64 v] w fun e w' => e = .returned (.int .i64 (Co.unfold' v)) ∧ w = w' := by
  unfold Co.unfold'
  obtain ⟨h1, h2⟩ := hv
  by_cases ha : v < 0
  · rw [if_pos (.inl ha)]
    go_enter Tryz.func70, Tryz.ntmps70
    go_wp2_with fail
    go_ret
    exact ⟨rfl, rfl⟩
  · by_cases hb : v > 4611686018427387904
    · rw [if_pos (.inr hb)]
      go_enter Tryz.func70, Tryz.ntmps70
      go_wp2_with fail
      go_ret
      exact ⟨rfl, rfl⟩
    · rw [if_neg (by omega)]
      by_cases hc : v % 2 = 1
      · rw [if_pos hc]
        have hc' : (v % 2 == 1) = true := by rw [beq_iff_eq]; exact hc
        have he : (v + 1) / 2 = v / 2 + 1 := by omega
        rw [← he]
        go_enter Tryz.func70, Tryz.ntmps70
        go_wp2_with fail
        go_ret
        exact ⟨rfl, rfl⟩
      · rw [if_neg hc]
        have hc' : (v % 2 == 1) = false := by rw [beq_eq_false_iff_ne]; exact hc
        go_enter Tryz.func70, Tryz.ntmps70
        go_wp2_with fail
        go_ret
        exact ⟨rfl, rfl⟩

theorem rice_any (v k : Int) (hv : -9223372036854775808 ≤ v ∧ v ≤ 9223372036854775807) (hk : -9223372036854775808 ≤ k ∧ k ≤ 9223372036854775807) (w : World) : Calls Tryz.prog 55 #[.int .i64 v, .int .i64 k] w fun e w' => e = .returned (.bool (Co.riceMay v k)) ∧ w = w' := by
  obtain ⟨h1, h2⟩ := hv
  obtain ⟨h3, h4⟩ := hk
  by_cases h'0 : v < 0
  · rw [show Co.riceMay v k = false by simp [Co.riceMay]; omega]
    go_enter Tryz.func55, Tryz.ntmps55
    go_wp2_with fail
    go_ret
    exact ⟨by first | rfl | (simp; omega), rfl⟩
  · skip
    by_cases h'1 : 1073741824 < v
    · rw [show Co.riceMay v k = false by simp [Co.riceMay]; omega]
      go_enter Tryz.func55, Tryz.ntmps55
      go_wp2_with fail
      go_ret
      exact ⟨by first | rfl | (simp; omega), rfl⟩
    · skip
      by_cases h'2 : k < 0
      · rw [show Co.riceMay v k = false by simp [Co.riceMay]; omega]
        go_enter Tryz.func55, Tryz.ntmps55
        go_wp2_with fail
        go_ret
        exact ⟨by first | rfl | (simp; omega), rfl⟩
      · skip
        by_cases h'3 : 15 < k
        · rw [show Co.riceMay v k = false by simp [Co.riceMay]; omega]
          go_enter Tryz.func55, Tryz.ntmps55
          go_wp2_with fail
          go_ret
          exact ⟨by first | rfl | (simp; omega), rfl⟩
        · skip
          rw [show Co.riceMay v k = true by simp [Co.riceMay]; omega]
          go_enter Tryz.func55, Tryz.ntmps55
          go_wp2_with fail
          go_ret
          exact ⟨by first | rfl | (simp; omega), rfl⟩
theorem SizeRice_any (v k : Int) (hv : -9223372036854775808 ≤ v ∧ v ≤ 9223372036854775807) (hk : -9223372036854775808 ≤ k ∧ k ≤ 9223372036854775807) (w : World) : Calls Tryz.prog 53 #[.int .i64 v, .int .i64 k] w fun e w' => e = .returned (.int .i64 (Co.sizeRice v k)) ∧ w = w' := by
  obtain ⟨h1, h2⟩ := hv
  obtain ⟨h3, h4⟩ := hk
  unfold Co.sizeRice
  by_cases h'0 : v < 0
  · rw [if_neg (by simp [Co.riceMay]; omega)]
    go_enter Tryz.func53, Tryz.ntmps53
    go_wp2_with fail
    refine (rice_any _ _ ⟨by omega, by omega⟩ ⟨by omega, by omega⟩ _).mono ?_
    rintro e w1 ⟨rfl, rfl⟩
    rw [show Co.riceMay v k = false by simp [Co.riceMay]; omega]
    go_wp2_with fail
    go_ret
    exact ⟨rfl, rfl⟩
  · skip
    by_cases h'1 : 1073741824 < v
    · rw [if_neg (by simp [Co.riceMay]; omega)]
      go_enter Tryz.func53, Tryz.ntmps53
      go_wp2_with fail
      refine (rice_any _ _ ⟨by omega, by omega⟩ ⟨by omega, by omega⟩ _).mono ?_
      rintro e w1 ⟨rfl, rfl⟩
      rw [show Co.riceMay v k = false by simp [Co.riceMay]; omega]
      go_wp2_with fail
      go_ret
      exact ⟨rfl, rfl⟩
    · skip
      by_cases h'2 : k < 0
      · rw [if_neg (by simp [Co.riceMay]; omega)]
        go_enter Tryz.func53, Tryz.ntmps53
        go_wp2_with fail
        refine (rice_any _ _ ⟨by omega, by omega⟩ ⟨by omega, by omega⟩ _).mono ?_
        rintro e w1 ⟨rfl, rfl⟩
        rw [show Co.riceMay v k = false by simp [Co.riceMay]; omega]
        go_wp2_with fail
        go_ret
        exact ⟨rfl, rfl⟩
      · skip
        by_cases h'3 : 15 < k
        · rw [if_neg (by simp [Co.riceMay]; omega)]
          go_enter Tryz.func53, Tryz.ntmps53
          go_wp2_with fail
          refine (rice_any _ _ ⟨by omega, by omega⟩ ⟨by omega, by omega⟩ _).mono ?_
          rintro e w1 ⟨rfl, rfl⟩
          rw [show Co.riceMay v k = false by simp [Co.riceMay]; omega]
          go_wp2_with fail
          go_ret
          exact ⟨rfl, rfl⟩
        · skip
          rw [if_pos (by simp [Co.riceMay]; omega)]
          obtain ⟨m, rfl⟩ := Int.eq_ofNat_of_zero_le (show 0 ≤ k by omega)
          simp only [Int.toNat_natCast]
          have hd0 := Co.div_pow_nonneg (v := v) (by omega) m
          have hd1 : v / 2 ^ m ≤ v := Int.ediv_le_self _ (by omega)
          by_cases hq : v / 2 ^ m < 24
          · rw [if_pos hq]
            go_enter Tryz.func53, Tryz.ntmps53
            go_wp2_with fail
            refine (rice_any _ _ ⟨by omega, by omega⟩ ⟨by omega, by omega⟩ _).mono ?_
            rintro e w1 ⟨rfl, rfl⟩
            rw [show Co.riceMay v (m : Int) = true by simp [Co.riceMay]; omega]
            go_wp2_with fail
            go_ret
            exact ⟨rfl, rfl⟩
          · rw [if_neg hq]
            go_enter Tryz.func53, Tryz.ntmps53
            go_wp2_with fail
            refine (rice_any _ _ ⟨by omega, by omega⟩ ⟨by omega, by omega⟩ _).mono ?_
            rintro e w1 ⟨rfl, rfl⟩
            rw [show Co.riceMay v (m : Int) = true by simp [Co.riceMay]; omega]
            go_wp2_with fail
            go_ret
            exact ⟨rfl, rfl⟩
theorem RSizeRice_any (v k : Int) (hv : -9223372036854775808 ≤ v ∧ v ≤ 9223372036854775807) (hk : -9223372036854775808 ≤ k ∧ k ≤ 9223372036854775807) (w : World) : Calls Tryz.prog 61 #[.int .i64 v, .int .i64 k] w fun e w' => e = .returned (.int .i64 (Co.sizeRice v k)) ∧ w = w' := by
  obtain ⟨h1, h2⟩ := hv
  obtain ⟨h3, h4⟩ := hk
  unfold Co.sizeRice
  by_cases h'0 : v < 0
  · rw [if_neg (by simp [Co.riceMay]; omega)]
    go_enter Tryz.func61, Tryz.ntmps61
    go_wp2_with fail
    go_ret
    exact ⟨rfl, rfl⟩
  · skip
    by_cases h'1 : 1073741824 < v
    · rw [if_neg (by simp [Co.riceMay]; omega)]
      go_enter Tryz.func61, Tryz.ntmps61
      go_wp2_with fail
      go_ret
      exact ⟨rfl, rfl⟩
    · skip
      by_cases h'2 : k < 0
      · rw [if_neg (by simp [Co.riceMay]; omega)]
        go_enter Tryz.func61, Tryz.ntmps61
        go_wp2_with fail
        go_ret
        exact ⟨rfl, rfl⟩
      · skip
        by_cases h'3 : 15 < k
        · rw [if_neg (by simp [Co.riceMay]; omega)]
          go_enter Tryz.func61, Tryz.ntmps61
          go_wp2_with fail
          go_ret
          exact ⟨rfl, rfl⟩
        · skip
          rw [if_pos (by simp [Co.riceMay]; omega)]
          obtain ⟨m, rfl⟩ := Int.eq_ofNat_of_zero_le (show 0 ≤ k by omega)
          simp only [Int.toNat_natCast]
          have hd0 := Co.div_pow_nonneg (v := v) (by omega) m
          have hd1 : v / 2 ^ m ≤ v := Int.ediv_le_self _ (by omega)
          by_cases hq : v / 2 ^ m < 24
          · rw [if_pos hq]
            go_enter Tryz.func61, Tryz.ntmps61
            go_wp2_with fail
            go_ret
            exact ⟨rfl, rfl⟩
          · rw [if_neg hq]
            go_enter Tryz.func61, Tryz.ntmps61
            go_wp2_with fail
            go_ret
            exact ⟨rfl, rfl⟩

end Go.Proofs.YtnccebfapihpjaaGreatDoor
