/- The walk of kinlaw3.CodesBounds: it returns true, whatever the input. -/
import Derived.Test.YtdanjeoiandjfaaDoorCodesOps
namespace Go.Proofs.YtdanjeoiandjfaaDoor
open Go Go.RowKit Go.Extern.Stop Go.Stop Go.Extern

set_option maxRecDepth 100000 in
set_option maxHeartbeats 4000000 in
theorem CodesBounds_walk {A : Option Addr} {b : List Int} {c : Nat} {k kind : Int} (hbl : b.length ≤ 9223372036854775807) (hbd : ∀ x ∈ b, 0 ≤ x ∧ x ≤ 255) (w : World) (hg : Gl w) (ha : RdI .u8 w A b) :
    Calls Tryd.prog 8 #[.slice A b.length c, .int .i64 k, .int .i64 kind] w fun e w' => e = .returned (.bool true) ∧ Below w.heap.size w w' := by
  have HG := Lib.hid hg
  have HA := Lib.hid ha
  have HBD := Lib.hid hbd
  clear hg ha hbd
  by_cases hout : 20000 < b.length ∨ k < 0 ∨ 15 < k
  · go_enter Tryd.func8, Tryd.ntmps8
    go_wp2_with fail
    refine (first_true _ HG.out).mono ?_
    rintro e w1 ⟨rfl, hb1⟩
    rcases (show 20000 < b.length ∨ (b.length ≤ 20000 ∧ k < 0) ∨ (b.length ≤ 20000 ∧ 0 ≤ k ∧ 15 < k) by omega) with h | ⟨h, h2⟩ | ⟨h, h2, h3⟩
    all_goals (
      go_wp2_with fail
      refine (first_true _ (HG.out.keep hb1)).mono ?_
      rintro e w2 ⟨rfl, hb2⟩
      go_wp2_with fail
      go_ret
      exact ⟨rfl, hb1.trans (hb2.mono hb1.size)⟩)
  have hb20 : b.length ≤ 20000 := by omega
  obtain ⟨K, rfl⟩ := Int.eq_ofNat_of_zero_le (show 0 ≤ k by omega)
  have hK : K ≤ 15 := by omega
  clear hout
  go_enter Tryd.func8, Tryd.ntmps8
  go_wp2_with fail
  refine (first_true _ HG.out).mono ?_
  rintro e w1 ⟨rfl, hb1⟩
  go_wp2_with fail
  refine (NewReader_any (by omega) HBD.out _ (RdI.keep HA.out hb1)).mono ?_
  rintro e w2 ⟨gp, rfl, hp2, hlo2, hb2⟩
  have hbA := hb1.trans (hb2.mono hb1.size)
  have hs1 := hb1.size
  have hl2 := hp2.lt
  go_wp2_with fail
  refine (NewReader_any (by omega) HBD.out _ (RdI.keep HA.out hbA)).mono ?_
  rintro e w3 ⟨gq, rfl, hq3, hlo3, hb3⟩
  have hp3 := hp2.keep hb3
  have hbB := hbA.trans (hb3.mono hbA.size)
  have HP := Lib.hid hp3
  have HQ := Lib.hid hq3
  clear hp2 hp3 hq3 hb2 hb3
  rcases (show kind = 0 ∨ kind = 1 ∨ (kind ≠ 0 ∧ kind ≠ 1) by omega) with rfl | rfl | ⟨hk0, hk1⟩
  · obtain ⟨R, hR⟩ : ∃ R, Co.getUe b (8 * b.length) 0 1073741824 = R := ⟨_, rfl⟩
    obtain ⟨r, q⟩ := R
    have HC := Lib.hid (GetUe_any 1073741824 (by omega) _ HP.out)
    rw [hR] at HC
    go_wp2_with fail
    refine HC.out.mono ?_
    rintro e w4 ⟨y, rfl, he4, ho4⟩
    have hq4 := HQ.out.other ho4 (by omega) (by omega)
    have hbC := below_chg hbB ho4.2 hbB.size (fun i hi => by omega)
    have HP4 := Lib.hid ho4.1
    have HQ4 := Lib.hid hq4
    clear hq4 ho4
    cases r with
    | num V =>
      have o0 := (Co.getUe_ok hR).1
      have o1 := (Co.getUe_ok hR).2.1
      have hlv := Co.getUe_less hR
      rcases he4 with ⟨_, _, rfl⟩ | ⟨h0, _⟩
      rotate_left 1
      · exact absurd rfl h0
      simp only [gotV] at HP4 ⊢
      have HC2 := Lib.hid (GetUe_any (V - 1) (by omega) _ HQ4.out)
      rw [hlv] at HC2
      clear hlv hR HC
      go_wp2_with fail
      refine HC2.out.mono ?_
      rintro e w5 ⟨y5, rfl, he5, ho5⟩
      have hp5 := HP4.out.other ho5 (by omega) (by omega)
      have hbD := below_chg hbC ho5.2 hbC.size (fun i hi => by omega)
      have HP5 := Lib.hid hp5
      have HQ5 := Lib.hid ho5.1
      have HE5 := Lib.hid he5
      simp only [gotV] at HQ5 ⊢
      clear hp5 ho5 he5
      go_wp2_with fail
      refine (first_true _ (HG.out.keep hbD)).mono ?_
      rintro e w6 ⟨rfl, hb6⟩
      have hbE := hbD.trans (hb6.mono hbD.size)
      have HP6 := Lib.hid (HP5.out.keep hb6)
      have HQ6 := Lib.hid (HQ5.out.keep hb6)
      have HE6 := Lib.hid (HE5.out.keep hb6)
      clear hb6
      go_wp2_with fail
      refine (Place_any _ HQ6.out).mono ?_
      rintro e w' ⟨rfl, rfl⟩
      go_wp2_with fail
      refine (Wrap_any sCodes _ (c := 3) (by omega) _).mono ?_
      rintro e w7 ⟨A7, c7, rfl, hr7, _, hb7⟩
      have hbF := hbE.trans (hb7.mono hbE.size)
      have HP7 := Lib.hid (HP6.out.keep hb7)
      have HQ7 := Lib.hid (HQ6.out.keep hb7)
      go_wp2_with fail
      refine (Err_res (p := gotP (.range q)) (c := 3) (A := A7) (cap := c7) (gotP_le _) _ (HG.out.keep hbF) (HE6.out.keep hb7) hr7).mono ?_
      rintro e w8 ⟨rfl, hb8⟩
      have hbG := hbF.trans (hb8.mono hbF.size)
      have HP8 := Lib.hid (HP7.out.keep hb8)
      have HQ8 := Lib.hid (HQ7.out.keep hb8)
      clear hr7 hb7 hb8
      go_wp2_with fail
      refine (Place_any _ HP8.out).mono ?_
      rintro e w' ⟨rfl, rfl⟩
      go_wp2_with fail
      refine (Place_any _ HQ8.out).mono ?_
      rintro e w' ⟨rfl, rfl⟩
      go_wp2_with fail
      go_ret
      exact ⟨by first | rfl | (simp; omega), hbG⟩
    | short a =>
      obtain ⟨T4, y4, rfl⟩ := he4.iface (by simp [gotC])
      simp only [gotV] at HP4 ⊢
      have HC2 := Lib.hid (GetUe_any (-1) (by omega) _ HQ4.out)
      clear hR HC
      go_wp2_with fail
      refine HC2.out.mono ?_
      rintro e w5 ⟨y5, rfl, he5, ho5⟩
      have hbD := below_chg hbC ho5.2 hbC.size (fun i hi => by omega)
      clear ho5
      go_wp2_with fail
      refine (first_true _ (HG.out.keep hbD)).mono ?_
      rintro e w6 ⟨rfl, hb6⟩
      go_wp2_with fail
      go_ret
      exact ⟨rfl, hbD.trans (hb6.mono hbD.size)⟩
    | range a =>
      obtain ⟨T4, y4, rfl⟩ := he4.iface (by simp [gotC])
      simp only [gotV] at HP4 ⊢
      have HC2 := Lib.hid (GetUe_any (-1) (by omega) _ HQ4.out)
      clear hR HC
      go_wp2_with fail
      refine HC2.out.mono ?_
      rintro e w5 ⟨y5, rfl, he5, ho5⟩
      have hbD := below_chg hbC ho5.2 hbC.size (fun i hi => by omega)
      clear ho5
      go_wp2_with fail
      refine (first_true _ (HG.out.keep hbD)).mono ?_
      rintro e w6 ⟨rfl, hb6⟩
      go_wp2_with fail
      go_ret
      exact ⟨rfl, hbD.trans (hb6.mono hbD.size)⟩
  · obtain ⟨R, hR⟩ : ∃ R, Co.getSe b (8 * b.length) 0 536870912 = R := ⟨_, rfl⟩
    obtain ⟨r, q⟩ := R
    have HC := Lib.hid (GetSe_any 536870912 (by omega) _ HP.out)
    rw [hR] at HC
    go_wp2_with fail
    refine HC.out.mono ?_
    rintro e w4 ⟨y, rfl, he4, ho4⟩
    have hq4 := HQ.out.other ho4 (by omega) (by omega)
    have hbC := below_chg hbB ho4.2 hbB.size (fun i hi => by omega)
    have HP4 := Lib.hid ho4.1
    have HQ4 := Lib.hid hq4
    clear hq4 ho4
    cases r with
    | num V =>
      have o0 := (Co.getSe_ok hR).1
      have hlv := Co.getSe_less hR
      rcases he4 with ⟨_, _, rfl⟩ | ⟨h0, _⟩
      rotate_left 1
      · exact absurd rfl h0
      simp only [gotV] at HP4 ⊢
      obtain ⟨z, hz⟩ : ∃ z, max V (-V) = z := ⟨_, rfl⟩
      rw [hz] at hlv o0
      have hz1 : V ≤ z ∧ -V ≤ z := by omega
      have HC2 := Lib.hid (GetSe_any (z - 1) (by omega) _ HQ4.out)
      rw [hlv] at HC2
      clear hlv hR HC
      go_wp2_with fail
      refine HC2.out.mono ?_
      rintro e w5 ⟨y5, rfl, he5, ho5⟩
      have hp5 := HP4.out.other ho5 (by omega) (by omega)
      have hbD := below_chg hbC ho5.2 hbC.size (fun i hi => by omega)
      have HP5 := Lib.hid hp5
      have HQ5 := Lib.hid ho5.1
      have HE5 := Lib.hid he5
      simp only [gotV] at HQ5 ⊢
      clear hp5 ho5 he5
      go_wp2_with fail
      refine (first_true _ (HG.out.keep hbD)).mono ?_
      rintro e w6 ⟨rfl, hb6⟩
      have hbE := hbD.trans (hb6.mono hbD.size)
      have HP6 := Lib.hid (HP5.out.keep hb6)
      have HQ6 := Lib.hid (HQ5.out.keep hb6)
      have HE6 := Lib.hid (HE5.out.keep hb6)
      clear hb6
      go_wp2_with fail
      refine (Place_any _ HQ6.out).mono ?_
      rintro e w' ⟨rfl, rfl⟩
      go_wp2_with fail
      refine (Wrap_any sCodes _ (c := 3) (by omega) _).mono ?_
      rintro e w7 ⟨A7, c7, rfl, hr7, _, hb7⟩
      have hbF := hbE.trans (hb7.mono hbE.size)
      have HP7 := Lib.hid (HP6.out.keep hb7)
      have HQ7 := Lib.hid (HQ6.out.keep hb7)
      go_wp2_with fail
      refine (Err_res (p := gotP (.range q)) (c := 3) (A := A7) (cap := c7) (gotP_le _) _ (HG.out.keep hbF) (HE6.out.keep hb7) hr7).mono ?_
      rintro e w8 ⟨rfl, hb8⟩
      have hbG := hbF.trans (hb8.mono hbF.size)
      have HP8 := Lib.hid (HP7.out.keep hb8)
      have HQ8 := Lib.hid (HQ7.out.keep hb8)
      clear hr7 hb7 hb8
      go_wp2_with fail
      refine (Place_any _ HP8.out).mono ?_
      rintro e w' ⟨rfl, rfl⟩
      go_wp2_with fail
      refine (Place_any _ HQ8.out).mono ?_
      rintro e w' ⟨rfl, rfl⟩
      go_wp2_with fail
      go_ret
      exact ⟨by first | rfl | (simp; omega), hbG⟩
    | short a =>
      obtain ⟨T4, y4, rfl⟩ := he4.iface (by simp [gotC])
      simp only [gotV] at HP4 ⊢
      have HC2 := Lib.hid (GetSe_any (-1) (by omega) _ HQ4.out)
      clear hR HC
      go_wp2_with fail
      refine HC2.out.mono ?_
      rintro e w5 ⟨y5, rfl, he5, ho5⟩
      have hbD := below_chg hbC ho5.2 hbC.size (fun i hi => by omega)
      clear ho5
      go_wp2_with fail
      refine (first_true _ (HG.out.keep hbD)).mono ?_
      rintro e w6 ⟨rfl, hb6⟩
      go_wp2_with fail
      go_ret
      exact ⟨rfl, hbD.trans (hb6.mono hbD.size)⟩
    | range a =>
      obtain ⟨T4, y4, rfl⟩ := he4.iface (by simp [gotC])
      simp only [gotV] at HP4 ⊢
      have HC2 := Lib.hid (GetSe_any (-1) (by omega) _ HQ4.out)
      clear hR HC
      go_wp2_with fail
      refine HC2.out.mono ?_
      rintro e w5 ⟨y5, rfl, he5, ho5⟩
      have hbD := below_chg hbC ho5.2 hbC.size (fun i hi => by omega)
      clear ho5
      go_wp2_with fail
      refine (first_true _ (HG.out.keep hbD)).mono ?_
      rintro e w6 ⟨rfl, hb6⟩
      go_wp2_with fail
      go_ret
      exact ⟨rfl, hbD.trans (hb6.mono hbD.size)⟩
  · obtain ⟨R, hR⟩ : ∃ R, Co.getRice b (8 * b.length) 0 K 1073741824 = R := ⟨_, rfl⟩
    obtain ⟨r, q⟩ := R
    have HC := Lib.hid (GetRice_any 1073741824 hK (by omega) _ HP.out)
    rw [hR] at HC
    go_wp2_with fail
    refine HC.out.mono ?_
    rintro e w4 ⟨y, rfl, he4, ho4⟩
    have hq4 := HQ.out.other ho4 (by omega) (by omega)
    have hbC := below_chg hbB ho4.2 hbB.size (fun i hi => by omega)
    have HP4 := Lib.hid ho4.1
    have HQ4 := Lib.hid hq4
    clear hq4 ho4
    cases r with
    | num V =>
      have o0 := (Co.rice_ok hR).1
      have o1 := (Co.rice_ok hR).2.1
      have hlv := Co.getRice_less hR
      rcases he4 with ⟨_, _, rfl⟩ | ⟨h0, _⟩
      rotate_left 1
      · exact absurd rfl h0
      simp only [gotV] at HP4 ⊢
      have HC2 := Lib.hid (GetRice_any (V - 1) hK (by omega) _ HQ4.out)
      rw [hlv] at HC2
      clear hlv hR HC
      go_wp2_with fail
      refine HC2.out.mono ?_
      rintro e w5 ⟨y5, rfl, he5, ho5⟩
      have hp5 := HP4.out.other ho5 (by omega) (by omega)
      have hbD := below_chg hbC ho5.2 hbC.size (fun i hi => by omega)
      have HP5 := Lib.hid hp5
      have HQ5 := Lib.hid ho5.1
      have HE5 := Lib.hid he5
      simp only [gotV] at HQ5 ⊢
      clear hp5 ho5 he5
      go_wp2_with fail
      refine (first_true _ (HG.out.keep hbD)).mono ?_
      rintro e w6 ⟨rfl, hb6⟩
      have hbE := hbD.trans (hb6.mono hbD.size)
      have HP6 := Lib.hid (HP5.out.keep hb6)
      have HQ6 := Lib.hid (HQ5.out.keep hb6)
      have HE6 := Lib.hid (HE5.out.keep hb6)
      clear hb6
      go_wp2_with fail
      refine (Place_any _ HQ6.out).mono ?_
      rintro e w' ⟨rfl, rfl⟩
      go_wp2_with fail
      refine (Wrap_any sCodes _ (c := 3) (by omega) _).mono ?_
      rintro e w7 ⟨A7, c7, rfl, hr7, _, hb7⟩
      have hbF := hbE.trans (hb7.mono hbE.size)
      have HP7 := Lib.hid (HP6.out.keep hb7)
      have HQ7 := Lib.hid (HQ6.out.keep hb7)
      go_wp2_with fail
      refine (Err_res (p := gotP (.range q)) (c := 3) (A := A7) (cap := c7) (gotP_le _) _ (HG.out.keep hbF) (HE6.out.keep hb7) hr7).mono ?_
      rintro e w8 ⟨rfl, hb8⟩
      have hbG := hbF.trans (hb8.mono hbF.size)
      have HP8 := Lib.hid (HP7.out.keep hb8)
      have HQ8 := Lib.hid (HQ7.out.keep hb8)
      clear hr7 hb7 hb8
      go_wp2_with fail
      refine (Place_any _ HP8.out).mono ?_
      rintro e w' ⟨rfl, rfl⟩
      go_wp2_with fail
      refine (Place_any _ HQ8.out).mono ?_
      rintro e w' ⟨rfl, rfl⟩
      go_wp2_with fail
      go_ret
      exact ⟨by first | rfl | (simp; omega), hbG⟩
    | short a =>
      obtain ⟨T4, y4, rfl⟩ := he4.iface (by simp [gotC])
      simp only [gotV] at HP4 ⊢
      have HC2 := Lib.hid (GetRice_any (-1) hK (by omega) _ HQ4.out)
      clear hR HC
      go_wp2_with fail
      refine HC2.out.mono ?_
      rintro e w5 ⟨y5, rfl, he5, ho5⟩
      have hbD := below_chg hbC ho5.2 hbC.size (fun i hi => by omega)
      clear ho5
      go_wp2_with fail
      refine (first_true _ (HG.out.keep hbD)).mono ?_
      rintro e w6 ⟨rfl, hb6⟩
      go_wp2_with fail
      go_ret
      exact ⟨rfl, hbD.trans (hb6.mono hbD.size)⟩
    | range a =>
      obtain ⟨T4, y4, rfl⟩ := he4.iface (by simp [gotC])
      simp only [gotV] at HP4 ⊢
      have HC2 := Lib.hid (GetRice_any (-1) hK (by omega) _ HQ4.out)
      clear hR HC
      go_wp2_with fail
      refine HC2.out.mono ?_
      rintro e w5 ⟨y5, rfl, he5, ho5⟩
      have hbD := below_chg hbC ho5.2 hbC.size (fun i hi => by omega)
      clear ho5
      go_wp2_with fail
      refine (first_true _ (HG.out.keep hbD)).mono ?_
      rintro e w6 ⟨rfl, hb6⟩
      go_wp2_with fail
      go_ret
      exact ⟨rfl, hbD.trans (hb6.mono hbD.size)⟩

end Go.Proofs.YtdanjeoiandjfaaDoor
