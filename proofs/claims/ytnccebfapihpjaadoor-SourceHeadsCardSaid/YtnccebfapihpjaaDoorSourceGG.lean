/- Contracts of plane.In, source.Guess and kinref15.Guess: the guess at any place of any frame. -/
import Derived.Test.YtnccebfapihpjaaDoorSourceG
namespace Go.Proofs.YtnccebfapihpjaaDoor
open Go Go.RowKit Go.Extern.Stop Go.Stop Go.Extern

theorem In_any {fw fh x y : Int} {A : Option Addr} {n c : Nat} (hw : 8 ≤ fw ∧ fw ≤ 32) (hh : 8 ≤ fh ∧ fh ≤ 32) (w : World) :
    Calls Tryd.prog 35 #[.agg #[.int .i64 fw, .int .i64 fh, .slice A n c], .int .i64 x, .int .i64 y, .int .i64 1] w
      fun e w' => e = .returned (.bool (decide (0 ≤ x ∧ 0 ≤ y ∧ x < fw ∧ y < fh))) ∧ w.alloc (.cells #[.int .i64 fw, .int .i64 fh, .slice A n c] 36) = w' := by
  obtain ⟨D, hD⟩ : ∃ D, decide (0 ≤ x ∧ 0 ≤ y ∧ x < fw ∧ y < fh) = D := ⟨_, rfl⟩
  rw [hD]
  by_cases h1 : 0 ≤ x
  · by_cases h2 : 0 ≤ y
    · by_cases h3 : x ≤ fw - 1
      · by_cases h4 : y ≤ fh - 1
        · have hs := Lib.hid (show D = true from hD.symm.trans (decide_eq_true ⟨h1, h2, by omega, by omega⟩))
          clear hD
          go_enter Tryd.func35, Tryd.ntmps35
          go_wp2_with fail
          go_ret
          exact ⟨by rw [hs.out]; rfl, rfl⟩
        · have hs := Lib.hid (show D = false from hD.symm.trans (decide_eq_false fun h => h4 (by omega)))
          clear hD
          go_enter Tryd.func35, Tryd.ntmps35
          go_wp2_with fail
          go_ret
          exact ⟨by rw [hs.out]; rfl, rfl⟩
      · have hs := Lib.hid (show D = false from hD.symm.trans (decide_eq_false fun h => h3 (by omega)))
        clear hD
        go_enter Tryd.func35, Tryd.ntmps35
        go_wp2_with fail
        go_ret
        exact ⟨by rw [hs.out]; rfl, rfl⟩
    · have hs := Lib.hid (show D = false from hD.symm.trans (decide_eq_false fun h => h2 h.2.1))
      clear hD
      go_enter Tryd.func35, Tryd.ntmps35
      go_wp2_with fail
      go_ret
      exact ⟨by rw [hs.out]; rfl, rfl⟩
  · have hs := Lib.hid (show D = false from hD.symm.trans (decide_eq_false fun h => h1 h.1))
    clear hD
    go_enter Tryd.func35, Tryd.ntmps35
    go_wp2_with fail
    go_ret
    exact ⟨by rw [hs.out]; rfl, rfl⟩

/-- The guess at any place of any frame. -/
def guessF (fw fh : Int) (pix : List Int) (x y : Int) : Int :=
  if mayF fw fh pix = true ∧ 0 ≤ x ∧ 0 ≤ y ∧ x < fw ∧ y < fh then So.guess pix fw.toNat (y.toNat * fw.toNat + x.toNat) else 0
theorem mayF_of {fw fh : Int} {pix : List Int} (h : mayF fw fh pix = true) : (8 ≤ fw ∧ fw ≤ 32) ∧ (8 ≤ fh ∧ fh ≤ 32) ∧ (pix.length : Int) = fw * fh ∧ ∀ v ∈ pix, 0 ≤ v ∧ v ≤ 255 := by
  unfold mayF at h
  simp only [Bool.and_eq_true] at h
  exact ⟨sideB_bd h.1.1.1, sideB_bd h.1.1.2, of_decide_eq_true h.1.2, (Vb.within_iff _ _ _).1 h.2⟩
theorem guessF_bd (fw fh : Int) (pix : List Int) (x y : Int) : 0 ≤ guessF fw fh pix x y ∧ guessF fw fh pix x y ≤ 255 := by
  unfold guessF
  split
  · next h => exact So.guess_bd (mayF_of h.1).2.2.2 _ _
  · omega

set_option maxRecDepth 100000 in
set_option maxHeartbeats 1000000 in
theorem Guess_any {fw fh x y : Int} {pix : List Int} {A : Option Addr} {c : Nat} (hl : pix.length ≤ 9223372036854775807) (W : World) (ha : RdI .i64 W A pix) :
    Calls Tryd.prog 13 #[.agg #[.int .i64 fw, .int .i64 fh, .slice A pix.length c], .int .i64 x, .int .i64 y] W fun e w' => e = .returned (.int .i64 (guessF fw fh pix x y)) ∧ Below W.heap.size W w' := by
  have HA := Lib.hid ha
  have hb0 : Below W.heap.size W (W.alloc (.cells #[.int .i64 fw, .int .i64 fh, .slice A pix.length c] 36)) := (Below.refl _ _).alloc (Nat.le_refl _) _
  have HB := Lib.hid hb0
  have HB1 := Lib.hid (hb0.alloc hb0.size (.cells #[.int .i64 fw, .int .i64 fh, .slice A pix.length c] 36))
  clear ha hb0
  cases hm : mayF fw fh pix with
  | false =>
    have hg := Lib.hid (show guessF fw fh pix x y = 0 by unfold guessF; rw [if_neg]; rw [hm]; simp)
    go_enter Tryd.func13, Tryd.ntmps13
    go_wp2_with fail
    refine (May_any hl _ (HA.out.keep HB.out)).mono ?_
    rw [hm]
    rintro e w' ⟨rfl, rfl⟩
    go_wp2_with fail
    go_ret
    exact ⟨by rw [hg.out]; rfl, HB1.out⟩
  | true =>
    obtain ⟨h1, h2, h3, h4⟩ := mayF_of hm
    by_cases hin : 0 ≤ x ∧ 0 ≤ y ∧ x < fw ∧ y < fh
    · have hg0 : guessF fw fh pix x y = So.guess pix fw.toNat (y.toNat * fw.toNat + x.toNat) := by unfold guessF; rw [if_pos ⟨hm, hin⟩]
      obtain ⟨i1, i2, i3, i4⟩ := hin
      obtain ⟨wn, rfl⟩ : ∃ n : Nat, fw = n := ⟨fw.toNat, by omega⟩
      obtain ⟨hn, rfl⟩ : ∃ n : Nat, fh = n := ⟨fh.toNat, by omega⟩
      obtain ⟨xn, rfl⟩ : ∃ n : Nat, x = n := ⟨x.toNat, by omega⟩
      obtain ⟨yn, rfl⟩ : ∃ n : Nat, y = n := ⟨y.toNat, by omega⟩
      simp only [Int.toNat_natCast] at hg0
      have hlen : pix.length = wn * hn := by exact_mod_cast h3
      have hle : yn * wn + xn ≤ pix.length := by
        rw [hlen]
        have h5 : (yn + 1) * wn ≤ hn * wn := Nat.mul_le_mul_right _ (by omega)
        rw [Nat.add_mul, Nat.one_mul, Nat.mul_comm hn wn] at h5
        omega
      have hlb : pix.length ≤ 1000000 := by rw [hlen]; exact Nat.le_trans (Nat.mul_le_mul (show wn ≤ 32 by omega) (show hn ≤ 32 by omega)) (by decide)
      have hD := Lib.hid (decide_eq_true (show 0 ≤ (xn : Int) ∧ 0 ≤ (yn : Int) ∧ (xn : Int) < (wn : Int) ∧ (yn : Int) < (hn : Int) from ⟨i1, i2, i3, i4⟩))
      have hg := Lib.hid hg0
      have hx' : xn < wn := by omega
      have H4 := Lib.hid h4
      clear hg0 h3 i1 i2 i3 i4 h4 hlen
      have HM := Lib.hid hm
      clear hm
      go_enter Tryd.func13, Tryd.ntmps13
      go_wp2_with fail
      refine (May_any hl _ (HA.out.keep HB.out)).mono ?_
      rw [HM.out]
      rintro e w' ⟨rfl, rfl⟩
      go_wp2_with fail
      refine (In_any h1 h2 _).mono ?_
      rw [hD.out]
      rintro e w' ⟨rfl, rfl⟩
      have hb3 := HB1.out.alloc HB1.out.size (.cells #[.int .i64 (wn : Int), .int .i64 (hn : Int), .slice A pix.length c] 36)
      have HB3 := Lib.hid hb3
      clear hb3
      go_wp2_with fail
      refine (guess_any (by omega) hx' hle hlb H4.out (by omega) (by have := Nat.le_mul_of_pos_right yn (show 0 < wn by omega); omega) _ (HA.out.keep HB3.out)).mono ?_
      rintro e w' ⟨rfl, n, rfl⟩
      go_wp2_with fail
      go_ret
      exact ⟨by rw [hg.out]; rfl, below_drewN HB3.out n⟩
    · have hg := Lib.hid (show guessF fw fh pix x y = 0 by unfold guessF; rw [if_neg fun h => hin h.2])
      have hD := Lib.hid (decide_eq_false hin)
      clear hin h3 h4
      have HM := Lib.hid hm
      clear hm
      go_enter Tryd.func13, Tryd.ntmps13
      go_wp2_with fail
      refine (May_any hl _ (HA.out.keep HB.out)).mono ?_
      rw [HM.out]
      rintro e w' ⟨rfl, rfl⟩
      go_wp2_with fail
      refine (In_any h1 h2 _).mono ?_
      rw [hD.out]
      rintro e w' ⟨rfl, rfl⟩
      have hb3 := HB1.out.alloc HB1.out.size (.cells #[.int .i64 fw, .int .i64 fh, .slice A pix.length c] 36)
      have HB3 := Lib.hid hb3
      clear hb3
      go_wp2_with fail
      go_ret
      exact ⟨by rw [hg.out]; rfl, HB3.out⟩

set_option maxRecDepth 100000 in
set_option maxHeartbeats 1000000 in
theorem RGuess_any {fw fh x y : Int} {pix : List Int} {A : Option Addr} {c : Nat} (hl : pix.length ≤ 9223372036854775807) (W : World) (ha : RdI .i64 W A pix) :
    Calls Tryd.prog 14 #[.agg #[.int .i64 fw, .int .i64 fh, .slice A pix.length c], .int .i64 x, .int .i64 y] W fun e w' => e = .returned (.int .i64 (guessF fw fh pix x y)) ∧ Below W.heap.size W w' := by
  have HA := Lib.hid ha
  have hb0 : Below W.heap.size W (W.alloc (.cells #[.int .i64 fw, .int .i64 fh, .slice A pix.length c] 36)) := (Below.refl _ _).alloc (Nat.le_refl _) _
  have HB := Lib.hid hb0
  have HB1 := Lib.hid (hb0.alloc hb0.size (.cells #[.int .i64 fw, .int .i64 fh, .slice A pix.length c] 36))
  clear ha hb0
  cases hm : mayF fw fh pix with
  | false =>
    have hg := Lib.hid (show guessF fw fh pix x y = 0 by unfold guessF; rw [if_neg]; rw [hm]; simp)
    go_enter Tryd.func14, Tryd.ntmps14
    go_wp2_with fail
    refine (RMay_any hl _ (HA.out.keep HB.out)).mono ?_
    rw [hm]
    rintro e w' ⟨rfl, rfl⟩
    go_wp2_with fail
    go_ret
    exact ⟨by rw [hg.out]; rfl, HB1.out⟩
  | true =>
    obtain ⟨h1, h2, h3, h4⟩ := mayF_of hm
    by_cases hin : 0 ≤ x ∧ 0 ≤ y ∧ x < fw ∧ y < fh
    · have hg0 : guessF fw fh pix x y = So.guess pix fw.toNat (y.toNat * fw.toNat + x.toNat) := by unfold guessF; rw [if_pos ⟨hm, hin⟩]
      obtain ⟨i1, i2, i3, i4⟩ := hin
      obtain ⟨wn, rfl⟩ : ∃ n : Nat, fw = n := ⟨fw.toNat, by omega⟩
      obtain ⟨hn, rfl⟩ : ∃ n : Nat, fh = n := ⟨fh.toNat, by omega⟩
      obtain ⟨xn, rfl⟩ : ∃ n : Nat, x = n := ⟨x.toNat, by omega⟩
      obtain ⟨yn, rfl⟩ : ∃ n : Nat, y = n := ⟨y.toNat, by omega⟩
      simp only [Int.toNat_natCast] at hg0
      have hlen : pix.length = wn * hn := by exact_mod_cast h3
      have hle : yn * wn + xn ≤ pix.length := by
        rw [hlen]
        have h5 : (yn + 1) * wn ≤ hn * wn := Nat.mul_le_mul_right _ (by omega)
        rw [Nat.add_mul, Nat.one_mul, Nat.mul_comm hn wn] at h5
        omega
      have hlb : pix.length ≤ 1000000 := by rw [hlen]; exact Nat.le_trans (Nat.mul_le_mul (show wn ≤ 32 by omega) (show hn ≤ 32 by omega)) (by decide)
      have hg := Lib.hid hg0
      have hx' : xn < wn := by omega
      have H4 := Lib.hid h4
      clear hg0 h3 h4 hlen
      have HM := Lib.hid hm
      clear hm
      go_enter Tryd.func14, Tryd.ntmps14
      go_wp2_with fail
      refine (RMay_any hl _ (HA.out.keep HB.out)).mono ?_
      rw [HM.out]
      rintro e w' ⟨rfl, rfl⟩
      go_wp2_with fail
      refine (rguess_any (by omega) hx' hle hlb H4.out (by omega) (by have := Nat.le_mul_of_pos_right yn (show 0 < wn by omega); omega) _ (HA.out.keep HB1.out)).mono ?_
      rintro e w' ⟨rfl, n, rfl⟩
      go_wp2_with fail
      go_ret
      exact ⟨by rw [hg.out]; rfl, below_drewN HB1.out n⟩
    · have hg := Lib.hid (show guessF fw fh pix x y = 0 by unfold guessF; rw [if_neg fun h => hin h.2])
      have hcs : x < 0 ∨ (0 ≤ x ∧ y < 0) ∨ (0 ≤ x ∧ 0 ≤ y ∧ fw ≤ x) ∨ (0 ≤ x ∧ 0 ≤ y ∧ x < fw ∧ fh ≤ y) := by omega
      clear hin h3 h4
      have HM := Lib.hid hm
      clear hm
      rcases hcs with i1 | ⟨i1, i2⟩ | ⟨i1, i2, i3⟩ | ⟨i1, i2, i3, i4⟩
      all_goals
        go_enter Tryd.func14, Tryd.ntmps14
        go_wp2_with fail
        refine (RMay_any hl _ (HA.out.keep HB.out)).mono ?_
        rw [HM.out]
        rintro e w' ⟨rfl, rfl⟩
        go_wp2_with fail
        go_ret
        exact ⟨by rw [hg.out]; rfl, HB1.out⟩

end Go.Proofs.YtnccebfapihpjaaDoor
