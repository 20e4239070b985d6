/- Contracts of package codes: Len, folds, sizes; and the document's. -/
import Derived.Shelf.Lay
import Derived.Shelf.Small.Bits
import Derived.Test.YtdanjeoiandjfaaDoorCodesLaw
import Derived.Test.YtdanjeoiandjfaaDoorAs
import Derived.Deep.LoopGhost
import Derived.Outline
namespace Go.Proofs.YtdanjeoiandjfaaDoor
open Go Go.RowKit Go.Shelf

def lays125_ren : Go.Shelf.Ren := ⟨fun | 125 => 38 | 128 => 59 | 129 => 60 | n => n, fun | 46 => 66 | 3 => 3 | 51 => 91 | 53 => 93 | 4 => 4 | 5 => 5 | 9 => 9 | n => n, fun | n => n⟩
theorem lays125 : Go.Proofs.Lays.n125 Tryd.prog lays125_ren := {
  mixed := by kernel_rfl
  f125 := Tryd.func38.trans (congrArg some (by kernel_rfl))
  f128 := Tryd.func59.trans (congrArg some (by kernel_rfl))
  f129 := Tryd.func60.trans (congrArg some (by kernel_rfl))
  t3 := Tryd.underlying3
  a3 := Tryd.isAgg3
  z3 := Tryd.sizeOf3
  v3 := Tryd.zeroValue3
  t4 := Tryd.underlying4
  a4 := Tryd.isAgg4
  z4 := Tryd.sizeOf4
  v4 := Tryd.zeroValue4
  t5 := Tryd.underlying5
  a5 := Tryd.isAgg5
  z5 := Tryd.sizeOf5
  v5 := Tryd.zeroValue5
  t9 := Tryd.underlying9
  a9 := Tryd.isAgg9
  z9 := Tryd.sizeOf9
  v9 := Tryd.zeroValue9
  t46 := Tryd.underlying66
  a46 := Tryd.isAgg66
  z46 := Tryd.sizeOf66
  v46 := Tryd.zeroValue66
  t51 := Tryd.underlying91
  a51 := Tryd.isAgg91
  z51 := Tryd.sizeOf91
  v51 := Tryd.zeroValue91
  t53 := Tryd.underlying93
  a53 := Tryd.isAgg93
  z53 := Tryd.sizeOf93
  v53 := Tryd.zeroValue93 }

theorem blen_bitLen : ∀ (n x : Nat), x < 2 ^ n → Lib.bitLenAux n x = Co.blen (x : Int) := by
  intro n
  induction n with
  | zero => intro x hx; have : x = 0 := by simpa using hx
            subst this; rfl
  | succ n ih =>
    intro x hx
    simp only [Lib.bitLenAux]
    by_cases h0 : x = 0
    · subst h0; rfl
    · rw [if_neg h0, ih (x / 2) (by rw [Nat.pow_succ] at hx; omega), Co.blen_half (u := (x : Int)) (by omega), show ((x / 2 : Nat) : Int) = (x : Int) / 2 by omega]
      omega
theorem Len_any {x : Int} (h0 : 0 ≤ x) (h1 : x ≤ 18446744073709551615) (w : World) :
    Calls Tryd.prog 38 #[.int .u64 x] w fun e w' => e = .returned (.int .i64 (Co.blen x)) ∧ w = w' := by
  refine (Any.bits_Len lays125 x w h0 h1).mono ?_
  rintro e w' ⟨rfl, rfl⟩
  have := blen_bitLen 64 x.toNat (by omega)
  refine ⟨?_, rfl⟩
  unfold Lib.bitLen
  rw [this, Int.toNat_of_nonneg h0]

theorem Fold_any (v : Int) (hv : -9223372036854775808 ≤ v ∧ v ≤ 9223372036854775807) (w : World) : Calls Tryd.prog 12 #[.int .i64 v] w fun e w' => e = .returned (.int .i64 (Co.fold v)) ∧ w = w' := by
  unfold Co.fold
  obtain ⟨h1, h2⟩ := hv
  by_cases ha : v > 2305843009213693952
  · rw [if_pos (.inl ha)]
    go_enter Tryd.func12, Tryd.ntmps12
    go_wp2_with fail
    go_ret
    exact ⟨rfl, rfl⟩
  · by_cases hb : v < -2305843009213693952
    · rw [if_pos (.inr hb)]
      go_enter Tryd.func12, Tryd.ntmps12
      go_wp2_with fail
      go_ret
      exact ⟨rfl, rfl⟩
    · rw [if_neg (by omega)]
      by_cases hc : v > 0
      · rw [if_pos hc]
        go_enter Tryd.func12, Tryd.ntmps12
        go_wp2_with fail
        go_ret
        exact ⟨rfl, rfl⟩
      · rw [if_neg hc]
        go_enter Tryd.func12, Tryd.ntmps12
        go_wp2_with fail
        go_ret
        exact ⟨rfl, rfl⟩
theorem RFold_any (v : Int) (hv : -9223372036854775808 ≤ v ∧ v ≤ 9223372036854775807) (w : World) : Calls Tryd.prog 13 #[.int .i64 v] w fun e w' => e = .returned (.int .i64 (Co.fold v)) ∧ w = w' := by
  unfold Co.fold
  obtain ⟨h1, h2⟩ := hv
  by_cases ha : v > 2305843009213693952
  · rw [if_pos (.inl ha)]
    go_enter Tryd.func13, Tryd.ntmps13
    go_wp2_with fail
    go_ret
    exact ⟨rfl, rfl⟩
  · by_cases hb : v < -2305843009213693952
    · rw [if_pos (.inr hb)]
      go_enter Tryd.func13, Tryd.ntmps13
      go_wp2_with fail
      go_ret
      exact ⟨rfl, rfl⟩
    · rw [if_neg (by omega)]
      by_cases hc : v > 0
      · rw [if_pos hc]
        go_enter Tryd.func13, Tryd.ntmps13
        go_wp2_with fail
        go_ret
        exact ⟨rfl, rfl⟩
      · rw [if_neg hc]
        go_enter Tryd.func13, Tryd.ntmps13
        go_wp2_with fail
        go_ret
        exact ⟨rfl, rfl⟩
theorem Unfold_any (v : Int) (hv : -9223372036854775808 ≤ v ∧ v ≤ 9223372036854775807) (w : World) : Calls Tryd.prog 14 #[.int .i64 v] w fun e w' => e = .returned (.int .i64 (Co.unfold' v)) ∧ w = w' := by
  unfold Co.unfold'
  obtain ⟨h1, h2⟩ := hv
  by_cases ha : v < 0
  · rw [if_pos (.inl ha)]
    go_enter Tryd.func14, Tryd.ntmps14
    go_wp2_with fail
    go_ret
    exact ⟨rfl, rfl⟩
  · by_cases hb : v > 4611686018427387904
    · rw [if_pos (.inr hb)]
      go_enter Tryd.func14, Tryd.ntmps14
      go_wp2_with fail
      go_ret
      exact ⟨rfl, rfl⟩
    · rw [if_neg (by omega)]
      by_cases hc : v % 2 = 1
      · rw [if_pos hc]
        have hc' : (v % 2 == 1) = true := by rw [beq_iff_eq]; exact hc
        go_enter Tryd.func14, Tryd.ntmps14
        go_wp2_with fail
        go_ret
        exact ⟨rfl, rfl⟩
      · rw [if_neg hc]
        have hc' : (v % 2 == 1) = false := by rw [beq_eq_false_iff_ne]; exact hc
        go_enter Tryd.func14, Tryd.ntmps14
        go_wp2_with fail
        go_ret
        exact ⟨rfl, rfl⟩
theorem RUnfold_any (v : Int) (hv : -9223372036854775808 ≤ v ∧ v ≤ 9223372036854775807) (w : World) : Calls Tryd.prog 15 #[.int .i64 v] w fun e w' => e = .returned (.int .i64 (Co.unfold' v)) ∧ w = w' := by
  unfold Co.unfold'
  obtain ⟨h1, h2⟩ := hv
  by_cases ha : v < 0
  · rw [if_pos (.inl ha)]
    go_enter Tryd.func15, Tryd.ntmps15
    go_wp2_with fail
    go_ret
    exact ⟨rfl, rfl⟩
  · by_cases hb : v > 4611686018427387904
    · rw [if_pos (.inr hb)]
      go_enter Tryd.func15, Tryd.ntmps15
      go_wp2_with fail
      go_ret
      exact ⟨rfl, rfl⟩
    · rw [if_neg (by omega)]
      by_cases hc : v % 2 = 1
      · rw [if_pos hc]
        have hc' : (v % 2 == 1) = true := by rw [beq_iff_eq]; exact hc
        have he : (v + 1) / 2 = v / 2 + 1 := by omega
        rw [← he]
        go_enter Tryd.func15, Tryd.ntmps15
        go_wp2_with fail
        go_ret
        exact ⟨rfl, rfl⟩
      · rw [if_neg hc]
        have hc' : (v % 2 == 1) = false := by rw [beq_eq_false_iff_ne]; exact hc
        go_enter Tryd.func15, Tryd.ntmps15
        go_wp2_with fail
        go_ret
        exact ⟨rfl, rfl⟩

/-- How many bits a number has, in the document's words. -/
theorem length_any {u : Int} (h0 : 0 ≤ u) (h1 : u ≤ 1073741825) (w : World) : Calls Tryd.prog 39 #[.int .i64 u] w fun e w' => e = .returned (.int .i64 (Co.blen u)) ∧ w = w' := by
  have hb : Co.blen u ≤ 31 := Co.blen_le (by omega)
  go_enter Tryd.func39, Tryd.ntmps39
  go_wp2_with fail
  go_loopg [0, 3] (Co.blen u) (fun m vx vn wr => ∃ (x : Int) (n : Nat), vx = .int .i64 x ∧ vn = .int .i64 n ∧ 0 ≤ x ∧ x ≤ 1073741825 ∧ Co.blen x = m ∧ n + m = Co.blen u ∧ w = wr)
  case atStart => exact ⟨u, 0, rfl, rfl, h0, h1, rfl, by omega, rfl⟩
  case round =>
    obtain ⟨x, n, rfl, rfl, hx0, hx1, hm, hn, rfl⟩ := hrel
    by_cases hx : 0 < x
    · have hh := Co.blen_half (u := x) (by omega)
      have HH := Lib.hid hh
      have HM := Lib.hid hm
      clear hh hm
      go_wp2_with fail
      go_roundg (gk - 1)
      case measure => have := HH.out; have := HM.out; omega
      case rel => exact ⟨x / 2, n + 1, rfl, by go_num, by omega, by omega, by have := HH.out; have := HM.out; omega, by have := HH.out; have := HM.out; omega, rfl⟩
    · obtain rfl : x = 0 := by omega
      have hz : Co.blen 0 = 0 := rfl
      rw [hz] at hm
      obtain rfl : n = Co.blen u := by omega
      go_wp2_with fail
      go_ret
      exact ⟨rfl, rfl⟩
theorem SizeUe_any (v : Int) (hv : -9223372036854775808 ≤ v ∧ v ≤ 9223372036854775807) (w : World) : Calls Tryd.prog 16 #[.int .i64 v] w fun e w' => e = .returned (.int .i64 (Co.sizeUe v)) ∧ w = w' := by
  unfold Co.sizeUe
  obtain ⟨h1, h2⟩ := hv
  by_cases ha : v < 0
  · rw [if_neg (by simp [Co.ueMay]; omega)]
    go_enter Tryd.func16, Tryd.ntmps16
    go_wp2_with fail
    go_ret
    exact ⟨rfl, rfl⟩
  · by_cases hb : v > 1073741824
    · rw [if_neg (by simp [Co.ueMay]; omega)]
      go_enter Tryd.func16, Tryd.ntmps16
      go_wp2_with fail
      go_ret
      exact ⟨rfl, rfl⟩
    · rw [if_pos (by simp [Co.ueMay]; omega)]
      have hl := Co.blen_top (v := v) (by omega) (by omega)
      obtain ⟨n, hn⟩ : ∃ n, Co.blen (v + 1) = n := ⟨_, rfl⟩
      have HN := Lib.hid hn
      rw [hn] at hl ⊢
      clear hn
      go_enter Tryd.func16, Tryd.ntmps16
      go_wp2_with fail
      refine (Len_any (by omega) (by omega) _).mono ?_
      rintro e w1 ⟨rfl, rfl⟩
      rw [HN.out]
      go_wp2_with fail
      go_ret
      exact ⟨rfl, rfl⟩
theorem RSizeUe_any (v : Int) (hv : -9223372036854775808 ≤ v ∧ v ≤ 9223372036854775807) (w : World) : Calls Tryd.prog 17 #[.int .i64 v] w fun e w' => e = .returned (.int .i64 (Co.sizeUe v)) ∧ w = w' := by
  unfold Co.sizeUe
  obtain ⟨h1, h2⟩ := hv
  by_cases ha : v < 0
  · rw [if_neg (by simp [Co.ueMay]; omega)]
    go_enter Tryd.func17, Tryd.ntmps17
    go_wp2_with fail
    go_ret
    exact ⟨rfl, rfl⟩
  · by_cases hb : v > 1073741824
    · rw [if_neg (by simp [Co.ueMay]; omega)]
      go_enter Tryd.func17, Tryd.ntmps17
      go_wp2_with fail
      go_ret
      exact ⟨rfl, rfl⟩
    · rw [if_pos (by simp [Co.ueMay]; omega)]
      have hl := Co.blen_top (v := v) (by omega) (by omega)
      obtain ⟨n, hn⟩ : ∃ n, Co.blen (v + 1) = n := ⟨_, rfl⟩
      have HN := Lib.hid hn
      rw [hn] at hl ⊢
      clear hn
      go_enter Tryd.func17, Tryd.ntmps17
      go_wp2_with fail
      refine (length_any (by omega) (by omega) _).mono ?_
      rintro e w1 ⟨rfl, rfl⟩
      rw [HN.out]
      go_wp2_with fail
      go_ret
      exact ⟨rfl, rfl⟩
theorem rice_any (v k : Int) (hv : -9223372036854775808 ≤ v ∧ v ≤ 9223372036854775807) (hk : -9223372036854775808 ≤ k ∧ k ≤ 9223372036854775807) (w : World) : Calls Tryd.prog 40 #[.int .i64 v, .int .i64 k] w fun e w' => e = .returned (.bool (Co.riceMay v k)) ∧ w = w' := by
  obtain ⟨h1, h2⟩ := hv
  obtain ⟨h3, h4⟩ := hk
  by_cases h'0 : v < 0
  · rw [show Co.riceMay v k = false by simp [Co.riceMay]; omega]
    go_enter Tryd.func40, Tryd.ntmps40
    go_wp2_with fail
    go_ret
    exact ⟨by first | rfl | (simp; omega), rfl⟩
  · skip
    by_cases h'1 : 1073741824 < v
    · rw [show Co.riceMay v k = false by simp [Co.riceMay]; omega]
      go_enter Tryd.func40, Tryd.ntmps40
      go_wp2_with fail
      go_ret
      exact ⟨by first | rfl | (simp; omega), rfl⟩
    · skip
      by_cases h'2 : k < 0
      · rw [show Co.riceMay v k = false by simp [Co.riceMay]; omega]
        go_enter Tryd.func40, Tryd.ntmps40
        go_wp2_with fail
        go_ret
        exact ⟨by first | rfl | (simp; omega), rfl⟩
      · skip
        by_cases h'3 : 15 < k
        · rw [show Co.riceMay v k = false by simp [Co.riceMay]; omega]
          go_enter Tryd.func40, Tryd.ntmps40
          go_wp2_with fail
          go_ret
          exact ⟨by first | rfl | (simp; omega), rfl⟩
        · skip
          rw [show Co.riceMay v k = true by simp [Co.riceMay]; omega]
          go_enter Tryd.func40, Tryd.ntmps40
          go_wp2_with fail
          go_ret
          exact ⟨by first | rfl | (simp; omega), rfl⟩
theorem SizeRice_any (v k : Int) (hv : -9223372036854775808 ≤ v ∧ v ≤ 9223372036854775807) (hk : -9223372036854775808 ≤ k ∧ k ≤ 9223372036854775807) (w : World) : Calls Tryd.prog 18 #[.int .i64 v, .int .i64 k] w fun e w' => e = .returned (.int .i64 (Co.sizeRice v k)) ∧ w = w' := by
  obtain ⟨h1, h2⟩ := hv
  obtain ⟨h3, h4⟩ := hk
  unfold Co.sizeRice
  by_cases h'0 : v < 0
  · rw [if_neg (by simp [Co.riceMay]; omega)]
    go_enter Tryd.func18, Tryd.ntmps18
    go_wp2_with fail
    refine (rice_any _ _ ⟨by omega, by omega⟩ ⟨by omega, by omega⟩ _).mono ?_
    rintro e w1 ⟨rfl, rfl⟩
    rw [show Co.riceMay v k = false by simp [Co.riceMay]; omega]
    go_wp2_with fail
    go_ret
    exact ⟨rfl, rfl⟩
  · skip
    by_cases h'1 : 1073741824 < v
    · rw [if_neg (by simp [Co.riceMay]; omega)]
      go_enter Tryd.func18, Tryd.ntmps18
      go_wp2_with fail
      refine (rice_any _ _ ⟨by omega, by omega⟩ ⟨by omega, by omega⟩ _).mono ?_
      rintro e w1 ⟨rfl, rfl⟩
      rw [show Co.riceMay v k = false by simp [Co.riceMay]; omega]
      go_wp2_with fail
      go_ret
      exact ⟨rfl, rfl⟩
    · skip
      by_cases h'2 : k < 0
      · rw [if_neg (by simp [Co.riceMay]; omega)]
        go_enter Tryd.func18, Tryd.ntmps18
        go_wp2_with fail
        refine (rice_any _ _ ⟨by omega, by omega⟩ ⟨by omega, by omega⟩ _).mono ?_
        rintro e w1 ⟨rfl, rfl⟩
        rw [show Co.riceMay v k = false by simp [Co.riceMay]; omega]
        go_wp2_with fail
        go_ret
        exact ⟨rfl, rfl⟩
      · skip
        by_cases h'3 : 15 < k
        · rw [if_neg (by simp [Co.riceMay]; omega)]
          go_enter Tryd.func18, Tryd.ntmps18
          go_wp2_with fail
          refine (rice_any _ _ ⟨by omega, by omega⟩ ⟨by omega, by omega⟩ _).mono ?_
          rintro e w1 ⟨rfl, rfl⟩
          rw [show Co.riceMay v k = false by simp [Co.riceMay]; omega]
          go_wp2_with fail
          go_ret
          exact ⟨rfl, rfl⟩
        · skip
          rw [if_pos (by simp [Co.riceMay]; omega)]
          obtain ⟨m, rfl⟩ := Int.eq_ofNat_of_zero_le (show 0 ≤ k by omega)
          simp only [Int.toNat_natCast]
          have hd0 := Co.div_pow_nonneg (v := v) (by omega) m
          have hd1 : v / 2 ^ m ≤ v := Int.ediv_le_self _ (by omega)
          by_cases hq : v / 2 ^ m < 24
          · rw [if_pos hq]
            go_enter Tryd.func18, Tryd.ntmps18
            go_wp2_with fail
            refine (rice_any _ _ ⟨by omega, by omega⟩ ⟨by omega, by omega⟩ _).mono ?_
            rintro e w1 ⟨rfl, rfl⟩
            rw [show Co.riceMay v (m : Int) = true by simp [Co.riceMay]; omega]
            go_wp2_with fail
            go_ret
            exact ⟨rfl, rfl⟩
          · rw [if_neg hq]
            go_enter Tryd.func18, Tryd.ntmps18
            go_wp2_with fail
            refine (rice_any _ _ ⟨by omega, by omega⟩ ⟨by omega, by omega⟩ _).mono ?_
            rintro e w1 ⟨rfl, rfl⟩
            rw [show Co.riceMay v (m : Int) = true by simp [Co.riceMay]; omega]
            go_wp2_with fail
            go_ret
            exact ⟨rfl, rfl⟩
theorem RSizeRice_any (v k : Int) (hv : -9223372036854775808 ≤ v ∧ v ≤ 9223372036854775807) (hk : -9223372036854775808 ≤ k ∧ k ≤ 9223372036854775807) (w : World) : Calls Tryd.prog 19 #[.int .i64 v, .int .i64 k] w fun e w' => e = .returned (.int .i64 (Co.sizeRice v k)) ∧ w = w' := by
  obtain ⟨h1, h2⟩ := hv
  obtain ⟨h3, h4⟩ := hk
  unfold Co.sizeRice
  by_cases h'0 : v < 0
  · rw [if_neg (by simp [Co.riceMay]; omega)]
    go_enter Tryd.func19, Tryd.ntmps19
    go_wp2_with fail
    go_ret
    exact ⟨rfl, rfl⟩
  · skip
    by_cases h'1 : 1073741824 < v
    · rw [if_neg (by simp [Co.riceMay]; omega)]
      go_enter Tryd.func19, Tryd.ntmps19
      go_wp2_with fail
      go_ret
      exact ⟨rfl, rfl⟩
    · skip
      by_cases h'2 : k < 0
      · rw [if_neg (by simp [Co.riceMay]; omega)]
        go_enter Tryd.func19, Tryd.ntmps19
        go_wp2_with fail
        go_ret
        exact ⟨rfl, rfl⟩
      · skip
        by_cases h'3 : 15 < k
        · rw [if_neg (by simp [Co.riceMay]; omega)]
          go_enter Tryd.func19, Tryd.ntmps19
          go_wp2_with fail
          go_ret
          exact ⟨rfl, rfl⟩
        · skip
          rw [if_pos (by simp [Co.riceMay]; omega)]
          obtain ⟨m, rfl⟩ := Int.eq_ofNat_of_zero_le (show 0 ≤ k by omega)
          simp only [Int.toNat_natCast]
          have hd0 := Co.div_pow_nonneg (v := v) (by omega) m
          have hd1 : v / 2 ^ m ≤ v := Int.ediv_le_self _ (by omega)
          by_cases hq : v / 2 ^ m < 24
          · rw [if_pos hq]
            go_enter Tryd.func19, Tryd.ntmps19
            go_wp2_with fail
            go_ret
            exact ⟨rfl, rfl⟩
          · rw [if_neg hq]
            go_enter Tryd.func19, Tryd.ntmps19
            go_wp2_with fail
            go_ret
            exact ⟨rfl, rfl⟩

end Go.Proofs.YtdanjeoiandjfaaDoor
