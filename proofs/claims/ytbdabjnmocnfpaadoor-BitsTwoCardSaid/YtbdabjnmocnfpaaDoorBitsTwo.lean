/- The walk of kinlaw2.BitsTwo: it returns true, whatever the input. -/
import Derived.Test.YtbdabjnmocnfpaaDoorBitsOps
namespace Go.Proofs.YtbdabjnmocnfpaaDoor
open Go Go.RowKit Go.Extern.Stop Go.Stop Go.Extern

set_option maxRecDepth 100000 in
set_option maxHeartbeats 2000000 in
theorem BitsTwo_walk {A : Option Addr} {b : List Int} {n m : Int} {c : Nat} (hb : b.length ≤ 9223372036854775807) (hbd : ∀ x ∈ b, 0 ≤ x ∧ x ≤ 255) (w : World) (hg : Gl w) (ha : RdI .u8 w A b) :
    Calls Tryd.prog 4 #[.slice A b.length c, .int .i64 n, .int .i64 m] w fun e w' => e = .returned (.bool true) ∧ Below w.heap.size w w' := by
  have HG := Lib.hid hg
  have HA := Lib.hid ha
  have HBD := Lib.hid hbd
  clear hg ha hbd
  rcases (show (b.length ≤ 20000 ∧ 0 ≤ n ∧ n ≤ 16 ∧ 0 ≤ m ∧ m ≤ 16) ∨ 20000 < b.length ∨ (b.length ≤ 20000 ∧ n < 0) ∨ (b.length ≤ 20000 ∧ 0 ≤ n ∧ 16 < n) ∨ (b.length ≤ 20000 ∧ 0 ≤ n ∧ n ≤ 16 ∧ m < 0) ∨ (b.length ≤ 20000 ∧ 0 ≤ n ∧ n ≤ 16 ∧ 0 ≤ m ∧ 16 < m) by omega) with
    ⟨h5, h1, h2, h3, h4⟩ | h5 | ⟨h5, h1⟩ | ⟨h5, h1, h2⟩ | ⟨h5, h1, h2, h3⟩ | ⟨h5, h1, h2, h3, h4⟩
  rotate_left 1
  iterate 5
    · go_enter Tryd.func4, Tryd.ntmps4
      go_wp2_with fail
      refine (first_true _ HG.out).mono ?_
      rintro e w1 ⟨rfl, hb1⟩
      go_wp2_with fail
      refine (first_true _ (HG.out.keep hb1)).mono ?_
      rintro e w2 ⟨rfl, hb2⟩
      go_wp2_with fail
      go_ret
      exact ⟨rfl, hb1.trans (hb2.mono hb1.size)⟩
  · obtain ⟨N, rfl⟩ := Int.eq_ofNat_of_zero_le h1
    obtain ⟨M, rfl⟩ := Int.eq_ofNat_of_zero_le h3
    go_enter Tryd.func4, Tryd.ntmps4
    go_wp2_with fail
    refine (first_true _ HG.out).mono ?_
    rintro e w1 ⟨rfl, hb1⟩
    go_wp2_with fail
    refine (NewReader_any (by omega) HBD.out _ (HA.out.keep hb1)).mono ?_
    rintro e w2 ⟨gp, rfl, hp2, hlo, hb2⟩
    have hbA := hb1.trans (hb2.mono hb1.size)
    go_wp2_with fail
    refine (NewReader_any (by omega) HBD.out _ (HA.out.keep hbA)).mono ?_
    rintro e w3 ⟨gq, rfl, hq3, hlo2, hb3⟩
    have hbB := hbA.trans (hb3.mono hbA.size)
    have hgp := hp2.lt
    have hgw : w.heap.size ≤ gp := by have := hb1.size; omega
    have HP3 := Lib.hid (hp2.keep hb3)
    have HQ3 := Lib.hid hq3
    clear hp2 hq3 hb2 hb3
    go_wp2_with fail
    go_loopg [9] 3000 (fun k vi wr => ∃ (j P : Nat), j + k = 3000 ∧ vi = .int .i64 j ∧ RdrT 75 w1.heap.size gp wr gp b P ∧ RdrT 75 w2.heap.size gq wr gq b P ∧ Below w.heap.size w wr)
    case atStart => exact ⟨0, 0, by omega, rfl, HP3.out, HQ3.out, hbB⟩
    case round =>
      obtain ⟨j, P, hj, rfl, hp, hq, hbel⟩ := hrel
      have HP := Lib.hid hp
      have HQ := Lib.hid hq
      have hPb := hp.1
      clear hp hq
      by_cases hj3 : j < 3000
      · have hj3' : (j : Int) < 3000 := by omega
        go_wp2_with fail
        refine (Left_any (by omega) _ HP.out).mono ?_
        rintro e w4 ⟨rfl, nq, rfl⟩
        have hp4 : RdrT 75 w1.heap.size gp (wr.drewN nq) gp b P := HP.out
        have hq4 : RdrT 75 w2.heap.size gq (wr.drewN nq) gq b P := HQ.out
        have hb4 := below_drewN hbel nq
        have HP4 := Lib.hid hp4
        have HQ4 := Lib.hid hq4
        clear hp4 hq4
        generalize wr.drewN nq = w4 at *
        rcases (show (P + (N + M) ≤ 8 * b.length ∧ 0 < N + M) ∨ (P + (N + M) ≤ 8 * b.length ∧ N + M = 0) ∨ 8 * b.length < P + (N + M) by omega) with ⟨h6, h7⟩ | ⟨h6, h7⟩ | h6
        · have hd1 : decide ((N : Int) + (M : Int) ≤ 8 * (b.length : Int) - P) = true := by simp; omega
          have hd2 : decide (0 < (N : Int) + (M : Int)) = true := by simp; omega
          have eNM : (N : Int) + (M : Int) = ((N + M : Nat) : Int) := by omega
          have HU := Lib.hid (Get_ok (n := N + M) (by omega) (by omega) h6 _ HP4.out)
          rw [← eNM] at HU
          have ENM := Lib.hid eNM
          obtain ⟨hU0, hU1⟩ := Bi.num_bd b P N
          obtain ⟨hX0, hX1⟩ := Bi.num_bd b (P + N) M
          have hadd := Bi.num_add b P N M
          obtain ⟨hp0, hp1⟩ := two_pow_bd (n := N) (by omega)
          obtain ⟨hq0, hq1⟩ := two_pow_bd (n := M) (by omega)
          have hpN : (2 : Int) ^ N ≤ 65536 := by
            have : (2 : Int) ^ N ≤ 2 ^ 16 := by exact_mod_cast Nat.pow_le_pow_right (by omega : 0 < 2) (show N ≤ 16 by omega)
            have e : (2 : Int) ^ 16 = 65536 := by decide
            omega
          have hpM : (2 : Int) ^ M ≤ 65536 := by
            have : (2 : Int) ^ M ≤ 2 ^ 16 := by exact_mod_cast Nat.pow_le_pow_right (by omega : 0 < 2) (show M ≤ 16 by omega)
            have e : (2 : Int) ^ 16 = 65536 := by decide
            omega
          obtain ⟨U, hU⟩ : ∃ U, Bi.num b P (N + M) = U := ⟨_, rfl⟩
          obtain ⟨V, hV⟩ : ∃ V, Bi.num b P N = V := ⟨_, rfl⟩
          obtain ⟨X, hX⟩ : ∃ X, Bi.num b (P + N) M = X := ⟨_, rfl⟩
          rw [hU, hV, hX] at hadd
          rw [hU] at HU
          rw [hV] at hU0 hU1
          rw [hX] at hX0 hX1
          have hV1 : V ≤ 65536 := by omega
          have hX2 : X ≤ 65536 := by omega
          have hY0 : 0 ≤ V * 2 ^ M := Int.mul_nonneg hU0 (by omega)
          have hY1 : V * 2 ^ M ≤ 65536 * 65536 := Int.mul_le_mul hV1 hpM (by omega) (by omega)
          have hwY : wrap64 (V * 2 ^ M) = V * 2 ^ M := wrap_small hY0 (by omega)
          have HV := Lib.hid hV
          have HX := Lib.hid hX
          obtain ⟨Y, hY⟩ : ∃ Y, V * 2 ^ M = Y := ⟨_, rfl⟩
          rw [hY] at hY0 hY1 hwY hadd
          have hne : (U != Y + X) = false := by rw [bne_eq_false_iff_eq]; exact hadd
          have hY2 : Y ≤ 4294967296 := by omega
          have HY := Lib.hid hY
          clear hU hV hX hadd hp0 hp1 hq0 hq1 hpN hpM hY1 hwY hU1 hX1 eNM hY
          go_wp2_with fail
          refine HU.out.mono ?_
          rintro e w5 ⟨rfl, ho5⟩
          have hq5 := HQ4.out.chg ho5.2 (by omega) (fun i h1 h2 e => by omega)
          have hb5 := below_chg hb4 ho5.2 hb4.size (fun i hi => by omega)
          have HP5 := Lib.hid ho5.1
          have hP5l := ho5.1.lt
          have HGV := Lib.hid (Get_ok (n := N) (by omega) (by omega) (by omega) _ hq5)
          rw [HV.out] at HGV
          clear ho5 hq5 hd1 hd2
          go_wp2_with fail
          refine HGV.out.mono ?_
          rintro e w6 ⟨rfl, ho6⟩
          have hp6 := HP5.out.chg ho6.2 (by omega) (fun i h1 h2 e => by omega)
          have hb6 := below_chg hb5 ho6.2 hb5.size (fun i hi => by omega)
          have HGX := Lib.hid (Get_ok (n := M) (by omega) (by omega) (by omega) _ ho6.1)
          rw [HX.out] at HGX
          have HP6 := Lib.hid hp6
          clear ho6 hp6
          go_wp2_with fail
          refine HGX.out.mono ?_
          rintro e w7 ⟨rfl, ho7⟩
          have hp7 := HP6.out.chg ho7.2 (by omega) (fun i h1 h2 e => by omega)
          have hb7 := below_chg hb6 ho7.2 hb6.size (fun i hi => by omega)
          have hq7 := ho7.1
          rw [Nat.add_assoc] at hq7
          have HP7 := Lib.hid hp7
          have HQ7 := Lib.hid hq7
          clear ho7 hp7 hq7
          have hwY : IntKind.i64.wrap (V * 2 ^ M) = Y := by rw [HY.out]; exact IntWalk.i64_in _ (by omega)
          go_wp2_with fail
          refine (Place_any _ HP7.out).mono ?_
          rintro e w8 ⟨rfl, rfl⟩
          go_wp2_with fail
          refine (Place_any _ HQ7.out).mono ?_
          rintro e w9 ⟨rfl, rfl⟩
          go_wp2_with fail
          go_roundg (gk - 1)
          case measure => omega
          case rel => exact ⟨j + 1, P + (N + M), by omega, by go_num, HP7.out, HQ7.out, hb7⟩
        · have hd1 : decide ((N : Int) + (M : Int) ≤ 8 * (b.length : Int) - P) = true := by simp; omega
          have hd2 : decide (0 < (N : Int) + (M : Int)) = false := by simp; omega
          go_wp2_with fail
          refine (first_true _ (HG.out.keep hb4)).mono ?_
          rintro e w5 ⟨rfl, hb5⟩
          go_wp2_with fail
          go_ret
          exact ⟨rfl, hb4.trans (hb5.mono hb4.size)⟩
        · have hd1 : decide ((N : Int) + (M : Int) ≤ 8 * (b.length : Int) - P) = false := by simp; omega
          go_wp2_with fail
          refine (first_true _ (HG.out.keep hb4)).mono ?_
          rintro e w5 ⟨rfl, hb5⟩
          go_wp2_with fail
          go_ret
          exact ⟨rfl, hb4.trans (hb5.mono hb4.size)⟩
      · have hj3' : (3000 : Int) ≤ (j : Int) := by omega
        go_wp2_with fail
        refine (first_true _ (HG.out.keep hbel)).mono ?_
        rintro e w3' ⟨rfl, hb3⟩
        go_wp2_with fail
        go_ret
        exact ⟨rfl, hbel.trans (hb3.mono hbel.size)⟩

end Go.Proofs.YtbdabjnmocnfpaaDoor
