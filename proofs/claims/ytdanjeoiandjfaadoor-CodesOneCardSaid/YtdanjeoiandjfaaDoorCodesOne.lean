/- The walk of kinlaw3.CodesOne: it returns true, whatever the input. -/
import Derived.Test.YtdanjeoiandjfaaDoorCodesPutsC
namespace Go.Proofs.YtdanjeoiandjfaaDoor
open Go Go.RowKit Go.Extern.Stop Go.Stop Go.Extern

set_option maxRecDepth 100000 in
set_option maxHeartbeats 8000000 in
theorem CodesOne_walk {A : Option Addr} {b : List Int} {c : Nat} {k kind : Int} (hbl : b.length ≤ 9223372036854775807) (hbd : ∀ x ∈ b, 0 ≤ x ∧ x ≤ 255) (w : World) (hg : Gl w) (ha : RdI .u8 w A b) :
    Calls Tryd.prog 10 #[.slice A b.length c, .int .i64 k, .int .i64 kind] w fun e w' => e = .returned (.bool true) ∧ Below w.heap.size w w' := by
  have HG := Lib.hid hg
  have HA := Lib.hid ha
  have HBD := Lib.hid hbd
  clear hg ha hbd
  by_cases hout : 20000 < b.length ∨ k < 0 ∨ 15 < k
  · go_enter Tryd.func10, Tryd.ntmps10
    go_wp2_with fail
    refine (first_true _ HG.out).mono ?_
    rintro e w1 ⟨rfl, hb1⟩
    rcases (show 20000 < b.length ∨ (b.length ≤ 20000 ∧ k < 0) ∨ (b.length ≤ 20000 ∧ 0 ≤ k ∧ 15 < k) by omega) with h | ⟨h, h2⟩ | ⟨h, h2, h3⟩
    all_goals (
      go_wp2_with fail
      refine (first_true _ (HG.out.keep hb1)).mono ?_
      rintro e w2 ⟨rfl, hb2⟩
      go_wp2_with fail
      go_ret
      exact ⟨rfl, hb1.trans (hb2.mono hb1.size)⟩)
  have hb20 : b.length ≤ 20000 := by omega
  obtain ⟨K, rfl⟩ := Int.eq_ofNat_of_zero_le (show 0 ≤ k by omega)
  have hK : K ≤ 15 := by omega
  have hkB : (0 : Int) ≤ K ∧ (K : Int) ≤ 15 := by omega
  clear hout
  go_enter Tryd.func10, Tryd.ntmps10
  go_wp2_with fail
  refine (first_true _ HG.out).mono ?_
  rintro e w1 ⟨rfl, hb1⟩
  go_wp2_with fail
  refine (NewReader_any (by omega) HBD.out _ (RdI.keep HA.out hb1)).mono ?_
  rintro e w2 ⟨gr, rfl, hr2, hlo2, hb2⟩
  have hbA := hb1.trans (hb2.mono hb1.size)
  have hs1 := hb1.size
  have hl2 := hr2.lt
  go_wp2_with fail
  refine (NewWriter_any _).mono ?_
  rintro e w3 ⟨rfl, hw3⟩
  have hwt : Wtr w3 w2.heap.size w2.heap.size (.slice none 0 0) [] := by rw [hw3]; exact Wtr.new _ _
  have hb3 : Below w2.heap.size w2 w3 := by rw [hw3]; exact (Below.refl _ _).alloc (Nat.le_refl _) _
  have hr3 := hr2.keep hb3
  have hbB := hbA.trans (hb3.mono hbA.size)
  have hs2 := hbA.size
  have hl3 := hwt.1.lt
  obtain ⟨gw, hgw⟩ : ∃ gw, w2.heap.size = gw := ⟨_, rfl⟩
  rw [hgw] at hwt hl3 hl2 hs2
  rw [hgw]
  clear hw3 hgw hb3 hr2
  go_wp2_with fail
  refine (NewReader_any (by omega) HBD.out _ (RdI.keep HA.out hbB)).mono ?_
  rintro e w4 ⟨gq, rfl, hq4, hlo4, hb4⟩
  have hbC := hbB.trans (hb4.mono hbB.size)
  have HR := Lib.hid (hr3.keep hb4)
  have HW := Lib.hid (hwt.keep hb4)
  have HQ := Lib.hid hq4
  have hl4 := hq4.lt
  clear hr3 hwt hq4 hb4 hb2
  rcases (show kind = 0 ∨ kind = 1 ∨ (kind ≠ 0 ∧ kind ≠ 1) by omega) with rfl | rfl | ⟨hk0, hk1⟩
  · obtain ⟨R, hR⟩ : ∃ R, Co.getUe b (8 * b.length) 0 1073741824 = R := ⟨_, rfl⟩
    obtain ⟨r, q0⟩ := R
    have HC := Lib.hid (GetUe_any 1073741824 (by omega) _ HR.out)
    rw [hR] at HC
    go_wp2_with fail
    refine HC.out.mono ?_
    rintro e w5 ⟨y, rfl, he5, ho5⟩
    have HW5 := Lib.hid (HW.out.read HR.out ho5)
    have HQ5 := Lib.hid (HQ.out.other ho5 (by omega) (by omega))
    have hbD := below_chg hbC ho5.2 hbC.size (fun i hi => by omega)
    have HR5 := Lib.hid ho5.1
    have hs5 := ho5.2.size
    clear ho5 HC
    cases r with
    | num V =>
      obtain ⟨o0, o1, _, _, hq, hT, hAt⟩ := Co.getUe_ok hR
      rcases he5 with ⟨_, _, rfl⟩ | ⟨h0, _⟩
      rotate_left 1
      · exact absurd rfl h0
      have HMAY := Lib.hid (show Co.ueMay V = true from decide_eq_true ⟨o0, o1⟩)
      simp only [gotV] at HR5 ⊢
      obtain ⟨l, hl⟩ : ∃ l, Co.ueBits V = l := ⟨_, rfl⟩
      rw [hl] at hq hAt
      have HAT := Lib.hid hAt
      have hq' : q0 = l.length := by omega
      subst hq'
      have HLL := Lib.hid hl
      clear hq hAt hR hl
      go_wp2_with fail
      refine (PutUe_yes (l := []) (x := V) (by simp) _ (by have := hl4; have := hs5; omega) HMAY.out HW5.out).mono ?_
      rintro e w6 ⟨rfl, ho6⟩
      rw [HLL.out, List.nil_append] at ho6
      have HR6 := Lib.hid (HR5.out.write ho6 (by omega) (by omega) (fun i hi => by simp [Value.ownBlock] at hi))
      have HQ6 := Lib.hid (HQ5.out.write ho6 (by omega) (by omega) (fun i hi => by simp [Value.ownBlock] at hi))
      have hbE := below_w hbD HW5.out ho6 (by omega) (by omega)
      obtain ⟨v6, hw6, hc6, hv6⟩ := ho6
      have HW6 := Lib.hid hw6
      have hs6 := hc6.size
      clear hw6 hc6 hv6
      go_wp2_with fail
      refine (WBytes_any (by omega) _ HW6.out).mono ?_
      rintro e w7 ⟨A7, c7, rfl, hown7, hb7⟩
      have hbF := hbE.trans (hb7.mono hbE.size)
      have HR7 := Lib.hid (HR6.out.keep hb7)
      have HQ7 := Lib.hid (HQ6.out.keep hb7)
      have HW7 := Lib.hid (HW6.out.keep hb7)
      have hs7 := hb7.size
      have hrd7 := (RdI.of_own (k := .u8) (l := Bi.pack l) hown7).1
      have HPL := Lib.hid (Bi.pack_length l)
      have hpl : (Bi.pack l).length ≤ 1000000000 := by rw [Bi.pack_length]; omega
      clear hown7 hb7
      obtain ⟨pk, hpk⟩ : ∃ pk, Bi.pack l = pk := ⟨_, rfl⟩
      have HPD := Lib.hid (Bi.pack_bd l)
      rw [hpk] at hrd7 hpl HPL HPD
      rw [hpk]
      have HPK := Lib.hid hpk
      clear hpk
      go_wp2_with fail
      refine (NewReader_any hpl HPD.out _ hrd7).mono ?_
      rintro e w8 ⟨gp, rfl, hp8, hlo8, hb8⟩
      have hbG := hbF.trans (hb8.mono hbF.size)
      have HR8 := Lib.hid (HR7.out.keep hb8)
      have HQ8 := Lib.hid (HQ7.out.keep hb8)
      have HW8 := Lib.hid (HW7.out.keep hb8)
      have HP8 := Lib.hid hp8
      clear hrd7 hp8 hb8
      go_wp2_with fail
      refine (WLen_any _ HW8.out).mono ?_
      rintro e w' ⟨rfl, rfl⟩
      go_wp2_with fail
      refine (Place_any _ HR8.out).mono ?_
      rintro e w' ⟨rfl, rfl⟩
      go_wp2_with fail
      go_loopg [14] l.length (fun m vi wr => ∃ j : Nat, j + m = l.length ∧ vi = .int .i64 j ∧ RdrT 74 w7.heap.size gp wr gp pk j ∧ RdrT 74 w3.heap.size gq wr gq b j ∧ Wtr wr gw gw v6 l ∧ Below w.heap.size w wr)
      case atStart => exact ⟨0, by omega, rfl, HP8.out, HQ8.out, HW8.out, hbG⟩
      case round =>
        obtain ⟨j, hj, rfl, hp, hq, hw, hbel⟩ := hrel
        have HPJ := Lib.hid hp
        have HQJ := Lib.hid hq
        have HWJ := Lib.hid hw
        clear hp hq hw
        by_cases hlt : j < l.length
        · have e1 : Bi.bit pk j = Bi.bv l j := by rw [← HPK.out]; exact Bi.bit_pack l j (by omega)
          have e2 : Bi.bit b j = Bi.bv l j := by have := HAT.out j hlt; rwa [Nat.zero_add] at this
          have hf1 := Lib.hid (Flag_ok (p := j) hpl (by have := HPL.out; omega) _ HPJ.out)
          rw [e1] at hf1
          have E2 := Lib.hid e2
          obtain ⟨x, hx⟩ : ∃ x, (Bi.bv l j == 1) = x := ⟨_, rfl⟩
          rw [hx] at hf1
          have HXX := Lib.hid hx
          have hlt' : (j : Int) < (l.length : Int) := by omega
          clear e1 e2 hx
          go_wp2_with fail
          refine (WLen_any _ HWJ.out).mono ?_
          rintro e w' ⟨rfl, rfl⟩
          go_wp2_with fail
          refine hf1.out.mono ?_
          rintro e w9 ⟨rfl, ho9⟩
          have HQ9 := Lib.hid (HQJ.out.other ho9 (by omega) (by omega))
          have HW9 := Lib.hid (HWJ.out.read HPJ.out ho9)
          have hbH := below_chg hbel ho9.2 hbel.size (fun i hi => by omega)
          have HP9 := Lib.hid ho9.1
          have hf2 := Lib.hid (Flag_ok (p := j) (by omega) (by omega) _ HQ9.out)
          rw [E2.out, HXX.out] at hf2
          clear ho9 hf1
          go_wp2_with fail
          refine hf2.out.mono ?_
          rintro e w10 ⟨rfl, ho10⟩
          have HP10 := Lib.hid (HP9.out.other ho10 (by omega) (by omega))
          have HW10 := Lib.hid (HW9.out.read HQ9.out ho10)
          have hbI := below_chg hbH ho10.2 hbH.size (fun i hi => by omega)
          have HQ10 := Lib.hid ho10.1
          clear ho10 hf2
          cases x
          all_goals (
            go_wp2_with fail
            go_roundg (gk - 1)
            case measure => omega
            case rel => exact ⟨j + 1, by omega, by go_num, HP10.out, HQ10.out, HW10.out, hbI⟩)
        · have hge : ¬ ((j : Int) < (l.length : Int)) := by omega
          go_wp2_with fail
          refine (WLen_any _ HWJ.out).mono ?_
          rintro e w' ⟨rfl, rfl⟩
          go_wp2_with fail
          refine (first_true _ (HG.out.keep hbel)).mono ?_
          rintro e w11 ⟨rfl, hb11⟩
          go_wp2_with fail
          go_ret
          exact ⟨rfl, hbel.trans (hb11.mono hbel.size)⟩
    | short a =>
      obtain ⟨T5, y5, rfl⟩ := he5.iface (by simp [gotC])
      simp only [gotV]
      clear hR
      go_wp2_with fail
      refine (PutUe_yes (l := []) (x := 0) (by simp) _ (by have := hl4; have := hs5; omega) (by decide) HW5.out).mono ?_
      rintro e w6 ⟨rfl, ho6⟩
      have hbE := below_w hbD HW5.out ho6 (by omega) (by omega)
      clear ho6
      go_wp2_with fail
      refine (first_true _ (HG.out.keep hbE)).mono ?_
      rintro e w11 ⟨rfl, hb11⟩
      go_wp2_with fail
      go_ret
      exact ⟨rfl, hbE.trans (hb11.mono hbE.size)⟩
    | range a =>
      obtain ⟨T5, y5, rfl⟩ := he5.iface (by simp [gotC])
      simp only [gotV]
      clear hR
      go_wp2_with fail
      refine (PutUe_yes (l := []) (x := 0) (by simp) _ (by have := hl4; have := hs5; omega) (by decide) HW5.out).mono ?_
      rintro e w6 ⟨rfl, ho6⟩
      have hbE := below_w hbD HW5.out ho6 (by omega) (by omega)
      clear ho6
      go_wp2_with fail
      refine (first_true _ (HG.out.keep hbE)).mono ?_
      rintro e w11 ⟨rfl, hb11⟩
      go_wp2_with fail
      go_ret
      exact ⟨rfl, hbE.trans (hb11.mono hbE.size)⟩
  · obtain ⟨R, hR⟩ : ∃ R, Co.getSe b (8 * b.length) 0 536870912 = R := ⟨_, rfl⟩
    obtain ⟨r, q0⟩ := R
    have HC := Lib.hid (GetSe_any 536870912 (by omega) _ HR.out)
    rw [hR] at HC
    go_wp2_with fail
    refine HC.out.mono ?_
    rintro e w5 ⟨y, rfl, he5, ho5⟩
    have HW5 := Lib.hid (HW.out.read HR.out ho5)
    have HQ5 := Lib.hid (HQ.out.other ho5 (by omega) (by omega))
    have hbD := below_chg hbC ho5.2 hbC.size (fun i hi => by omega)
    have HR5 := Lib.hid ho5.1
    have hs5 := ho5.2.size
    clear ho5 HC
    cases r with
    | num V =>
      obtain ⟨o0, _, _, _, hq, hT, hAt⟩ := Co.getSe_ok hR
      rcases he5 with ⟨_, _, rfl⟩ | ⟨h0, _⟩
      rotate_left 1
      · exact absurd rfl h0
      have HMAY := Lib.hid (show Co.seMay V = true from decide_eq_true (by omega))
      simp only [gotV] at HR5 ⊢
      obtain ⟨l, hl⟩ : ∃ l, Co.ueBits (Co.fold V) = l := ⟨_, rfl⟩
      rw [hl] at hq hAt
      have HAT := Lib.hid hAt
      have hq' : q0 = l.length := by omega
      subst hq'
      have HLL := Lib.hid hl
      clear hq hAt hR hl
      go_wp2_with fail
      refine (PutSe_yes (l := []) (x := V) (by simp) _ (by have := hl4; have := hs5; omega) HMAY.out HW5.out).mono ?_
      rintro e w6 ⟨rfl, ho6⟩
      rw [HLL.out, List.nil_append] at ho6
      have HR6 := Lib.hid (HR5.out.write ho6 (by omega) (by omega) (fun i hi => by simp [Value.ownBlock] at hi))
      have HQ6 := Lib.hid (HQ5.out.write ho6 (by omega) (by omega) (fun i hi => by simp [Value.ownBlock] at hi))
      have hbE := below_w hbD HW5.out ho6 (by omega) (by omega)
      obtain ⟨v6, hw6, hc6, hv6⟩ := ho6
      have HW6 := Lib.hid hw6
      have hs6 := hc6.size
      clear hw6 hc6 hv6
      go_wp2_with fail
      refine (WBytes_any (by omega) _ HW6.out).mono ?_
      rintro e w7 ⟨A7, c7, rfl, hown7, hb7⟩
      have hbF := hbE.trans (hb7.mono hbE.size)
      have HR7 := Lib.hid (HR6.out.keep hb7)
      have HQ7 := Lib.hid (HQ6.out.keep hb7)
      have HW7 := Lib.hid (HW6.out.keep hb7)
      have hs7 := hb7.size
      have hrd7 := (RdI.of_own (k := .u8) (l := Bi.pack l) hown7).1
      have HPL := Lib.hid (Bi.pack_length l)
      have hpl : (Bi.pack l).length ≤ 1000000000 := by rw [Bi.pack_length]; omega
      clear hown7 hb7
      obtain ⟨pk, hpk⟩ : ∃ pk, Bi.pack l = pk := ⟨_, rfl⟩
      have HPD := Lib.hid (Bi.pack_bd l)
      rw [hpk] at hrd7 hpl HPL HPD
      rw [hpk]
      have HPK := Lib.hid hpk
      clear hpk
      go_wp2_with fail
      refine (NewReader_any hpl HPD.out _ hrd7).mono ?_
      rintro e w8 ⟨gp, rfl, hp8, hlo8, hb8⟩
      have hbG := hbF.trans (hb8.mono hbF.size)
      have HR8 := Lib.hid (HR7.out.keep hb8)
      have HQ8 := Lib.hid (HQ7.out.keep hb8)
      have HW8 := Lib.hid (HW7.out.keep hb8)
      have HP8 := Lib.hid hp8
      clear hrd7 hp8 hb8
      go_wp2_with fail
      refine (WLen_any _ HW8.out).mono ?_
      rintro e w' ⟨rfl, rfl⟩
      go_wp2_with fail
      refine (Place_any _ HR8.out).mono ?_
      rintro e w' ⟨rfl, rfl⟩
      go_wp2_with fail
      go_loopg [14] l.length (fun m vi wr => ∃ j : Nat, j + m = l.length ∧ vi = .int .i64 j ∧ RdrT 74 w7.heap.size gp wr gp pk j ∧ RdrT 74 w3.heap.size gq wr gq b j ∧ Wtr wr gw gw v6 l ∧ Below w.heap.size w wr)
      case atStart => exact ⟨0, by omega, rfl, HP8.out, HQ8.out, HW8.out, hbG⟩
      case round =>
        obtain ⟨j, hj, rfl, hp, hq, hw, hbel⟩ := hrel
        have HPJ := Lib.hid hp
        have HQJ := Lib.hid hq
        have HWJ := Lib.hid hw
        clear hp hq hw
        by_cases hlt : j < l.length
        · have e1 : Bi.bit pk j = Bi.bv l j := by rw [← HPK.out]; exact Bi.bit_pack l j (by omega)
          have e2 : Bi.bit b j = Bi.bv l j := by have := HAT.out j hlt; rwa [Nat.zero_add] at this
          have hf1 := Lib.hid (Flag_ok (p := j) hpl (by have := HPL.out; omega) _ HPJ.out)
          rw [e1] at hf1
          have E2 := Lib.hid e2
          obtain ⟨x, hx⟩ : ∃ x, (Bi.bv l j == 1) = x := ⟨_, rfl⟩
          rw [hx] at hf1
          have HXX := Lib.hid hx
          have hlt' : (j : Int) < (l.length : Int) := by omega
          clear e1 e2 hx
          go_wp2_with fail
          refine (WLen_any _ HWJ.out).mono ?_
          rintro e w' ⟨rfl, rfl⟩
          go_wp2_with fail
          refine hf1.out.mono ?_
          rintro e w9 ⟨rfl, ho9⟩
          have HQ9 := Lib.hid (HQJ.out.other ho9 (by omega) (by omega))
          have HW9 := Lib.hid (HWJ.out.read HPJ.out ho9)
          have hbH := below_chg hbel ho9.2 hbel.size (fun i hi => by omega)
          have HP9 := Lib.hid ho9.1
          have hf2 := Lib.hid (Flag_ok (p := j) (by omega) (by omega) _ HQ9.out)
          rw [E2.out, HXX.out] at hf2
          clear ho9 hf1
          go_wp2_with fail
          refine hf2.out.mono ?_
          rintro e w10 ⟨rfl, ho10⟩
          have HP10 := Lib.hid (HP9.out.other ho10 (by omega) (by omega))
          have HW10 := Lib.hid (HW9.out.read HQ9.out ho10)
          have hbI := below_chg hbH ho10.2 hbH.size (fun i hi => by omega)
          have HQ10 := Lib.hid ho10.1
          clear ho10 hf2
          cases x
          all_goals (
            go_wp2_with fail
            go_roundg (gk - 1)
            case measure => omega
            case rel => exact ⟨j + 1, by omega, by go_num, HP10.out, HQ10.out, HW10.out, hbI⟩)
        · have hge : ¬ ((j : Int) < (l.length : Int)) := by omega
          go_wp2_with fail
          refine (WLen_any _ HWJ.out).mono ?_
          rintro e w' ⟨rfl, rfl⟩
          go_wp2_with fail
          refine (first_true _ (HG.out.keep hbel)).mono ?_
          rintro e w11 ⟨rfl, hb11⟩
          go_wp2_with fail
          go_ret
          exact ⟨rfl, hbel.trans (hb11.mono hbel.size)⟩
    | short a =>
      obtain ⟨T5, y5, rfl⟩ := he5.iface (by simp [gotC])
      simp only [gotV]
      clear hR
      go_wp2_with fail
      refine (PutSe_yes (l := []) (x := 0) (by simp) _ (by have := hl4; have := hs5; omega) (by decide) HW5.out).mono ?_
      rintro e w6 ⟨rfl, ho6⟩
      have hbE := below_w hbD HW5.out ho6 (by omega) (by omega)
      clear ho6
      go_wp2_with fail
      refine (first_true _ (HG.out.keep hbE)).mono ?_
      rintro e w11 ⟨rfl, hb11⟩
      go_wp2_with fail
      go_ret
      exact ⟨rfl, hbE.trans (hb11.mono hbE.size)⟩
    | range a =>
      obtain ⟨T5, y5, rfl⟩ := he5.iface (by simp [gotC])
      simp only [gotV]
      clear hR
      go_wp2_with fail
      refine (PutSe_yes (l := []) (x := 0) (by simp) _ (by have := hl4; have := hs5; omega) (by decide) HW5.out).mono ?_
      rintro e w6 ⟨rfl, ho6⟩
      have hbE := below_w hbD HW5.out ho6 (by omega) (by omega)
      clear ho6
      go_wp2_with fail
      refine (first_true _ (HG.out.keep hbE)).mono ?_
      rintro e w11 ⟨rfl, hb11⟩
      go_wp2_with fail
      go_ret
      exact ⟨rfl, hbE.trans (hb11.mono hbE.size)⟩
  · obtain ⟨R, hR⟩ : ∃ R, Co.getRice b (8 * b.length) 0 K 1073741824 = R := ⟨_, rfl⟩
    obtain ⟨r, q0⟩ := R
    have HC := Lib.hid (GetRice_any 1073741824 hK (by omega) _ HR.out)
    rw [hR] at HC
    go_wp2_with fail
    refine HC.out.mono ?_
    rintro e w5 ⟨y, rfl, he5, ho5⟩
    have HW5 := Lib.hid (HW.out.read HR.out ho5)
    have HQ5 := Lib.hid (HQ.out.other ho5 (by omega) (by omega))
    have hbD := below_chg hbC ho5.2 hbC.size (fun i hi => by omega)
    have HR5 := Lib.hid ho5.1
    have hs5 := ho5.2.size
    clear ho5 HC
    cases r with
    | num V =>
      obtain ⟨o0, o1, _, hq, hT, hAt⟩ := Co.rice_ok hR
      rcases he5 with ⟨_, _, rfl⟩ | ⟨h0, _⟩
      rotate_left 1
      · exact absurd rfl h0
      have HMAY := Lib.hid (show Co.riceMay V K = true from decide_eq_true ⟨o0, o1, by omega, by omega⟩)
      simp only [gotV] at HR5 ⊢
      obtain ⟨l, hl⟩ : ∃ l, Co.riceBits V K = l := ⟨_, rfl⟩
      rw [hl] at hq hAt
      have HAT := Lib.hid hAt
      have hq' : q0 = l.length := by omega
      subst hq'
      have HLL := Lib.hid hl
      clear hq hAt hR hl
      go_wp2_with fail
      refine (PutRice_yes (l := []) (x := V) (k := K) (by simp) _ (by have := hl4; have := hs5; omega) HMAY.out HW5.out).mono ?_
      rintro e w6 ⟨rfl, ho6⟩
      rw [HLL.out, List.nil_append] at ho6
      have HR6 := Lib.hid (HR5.out.write ho6 (by omega) (by omega) (fun i hi => by simp [Value.ownBlock] at hi))
      have HQ6 := Lib.hid (HQ5.out.write ho6 (by omega) (by omega) (fun i hi => by simp [Value.ownBlock] at hi))
      have hbE := below_w hbD HW5.out ho6 (by omega) (by omega)
      obtain ⟨v6, hw6, hc6, hv6⟩ := ho6
      have HW6 := Lib.hid hw6
      have hs6 := hc6.size
      clear hw6 hc6 hv6
      go_wp2_with fail
      refine (WBytes_any (by omega) _ HW6.out).mono ?_
      rintro e w7 ⟨A7, c7, rfl, hown7, hb7⟩
      have hbF := hbE.trans (hb7.mono hbE.size)
      have HR7 := Lib.hid (HR6.out.keep hb7)
      have HQ7 := Lib.hid (HQ6.out.keep hb7)
      have HW7 := Lib.hid (HW6.out.keep hb7)
      have hs7 := hb7.size
      have hrd7 := (RdI.of_own (k := .u8) (l := Bi.pack l) hown7).1
      have HPL := Lib.hid (Bi.pack_length l)
      have hpl : (Bi.pack l).length ≤ 1000000000 := by rw [Bi.pack_length]; omega
      clear hown7 hb7
      obtain ⟨pk, hpk⟩ : ∃ pk, Bi.pack l = pk := ⟨_, rfl⟩
      have HPD := Lib.hid (Bi.pack_bd l)
      rw [hpk] at hrd7 hpl HPL HPD
      rw [hpk]
      have HPK := Lib.hid hpk
      clear hpk
      go_wp2_with fail
      refine (NewReader_any hpl HPD.out _ hrd7).mono ?_
      rintro e w8 ⟨gp, rfl, hp8, hlo8, hb8⟩
      have hbG := hbF.trans (hb8.mono hbF.size)
      have HR8 := Lib.hid (HR7.out.keep hb8)
      have HQ8 := Lib.hid (HQ7.out.keep hb8)
      have HW8 := Lib.hid (HW7.out.keep hb8)
      have HP8 := Lib.hid hp8
      clear hrd7 hp8 hb8
      go_wp2_with fail
      refine (WLen_any _ HW8.out).mono ?_
      rintro e w' ⟨rfl, rfl⟩
      go_wp2_with fail
      refine (Place_any _ HR8.out).mono ?_
      rintro e w' ⟨rfl, rfl⟩
      go_wp2_with fail
      go_loopg [14] l.length (fun m vi wr => ∃ j : Nat, j + m = l.length ∧ vi = .int .i64 j ∧ RdrT 74 w7.heap.size gp wr gp pk j ∧ RdrT 74 w3.heap.size gq wr gq b j ∧ Wtr wr gw gw v6 l ∧ Below w.heap.size w wr)
      case atStart => exact ⟨0, by omega, rfl, HP8.out, HQ8.out, HW8.out, hbG⟩
      case round =>
        obtain ⟨j, hj, rfl, hp, hq, hw, hbel⟩ := hrel
        have HPJ := Lib.hid hp
        have HQJ := Lib.hid hq
        have HWJ := Lib.hid hw
        clear hp hq hw
        by_cases hlt : j < l.length
        · have e1 : Bi.bit pk j = Bi.bv l j := by rw [← HPK.out]; exact Bi.bit_pack l j (by omega)
          have e2 : Bi.bit b j = Bi.bv l j := by have := HAT.out j hlt; rwa [Nat.zero_add] at this
          have hf1 := Lib.hid (Flag_ok (p := j) hpl (by have := HPL.out; omega) _ HPJ.out)
          rw [e1] at hf1
          have E2 := Lib.hid e2
          obtain ⟨x, hx⟩ : ∃ x, (Bi.bv l j == 1) = x := ⟨_, rfl⟩
          rw [hx] at hf1
          have HXX := Lib.hid hx
          have hlt' : (j : Int) < (l.length : Int) := by omega
          clear e1 e2 hx
          go_wp2_with fail
          refine (WLen_any _ HWJ.out).mono ?_
          rintro e w' ⟨rfl, rfl⟩
          go_wp2_with fail
          refine hf1.out.mono ?_
          rintro e w9 ⟨rfl, ho9⟩
          have HQ9 := Lib.hid (HQJ.out.other ho9 (by omega) (by omega))
          have HW9 := Lib.hid (HWJ.out.read HPJ.out ho9)
          have hbH := below_chg hbel ho9.2 hbel.size (fun i hi => by omega)
          have HP9 := Lib.hid ho9.1
          have hf2 := Lib.hid (Flag_ok (p := j) (by omega) (by omega) _ HQ9.out)
          rw [E2.out, HXX.out] at hf2
          clear ho9 hf1
          go_wp2_with fail
          refine hf2.out.mono ?_
          rintro e w10 ⟨rfl, ho10⟩
          have HP10 := Lib.hid (HP9.out.other ho10 (by omega) (by omega))
          have HW10 := Lib.hid (HW9.out.read HQ9.out ho10)
          have hbI := below_chg hbH ho10.2 hbH.size (fun i hi => by omega)
          have HQ10 := Lib.hid ho10.1
          clear ho10 hf2
          cases x
          all_goals (
            go_wp2_with fail
            go_roundg (gk - 1)
            case measure => omega
            case rel => exact ⟨j + 1, by omega, by go_num, HP10.out, HQ10.out, HW10.out, hbI⟩)
        · have hge : ¬ ((j : Int) < (l.length : Int)) := by omega
          go_wp2_with fail
          refine (WLen_any _ HWJ.out).mono ?_
          rintro e w' ⟨rfl, rfl⟩
          go_wp2_with fail
          refine (first_true _ (HG.out.keep hbel)).mono ?_
          rintro e w11 ⟨rfl, hb11⟩
          go_wp2_with fail
          go_ret
          exact ⟨rfl, hbel.trans (hb11.mono hbel.size)⟩
    | short a =>
      obtain ⟨T5, y5, rfl⟩ := he5.iface (by simp [gotC])
      simp only [gotV]
      clear hR
      go_wp2_with fail
      refine (PutRice_yes (l := []) (x := 0) (k := K) (by simp) _ (by have := hl4; have := hs5; omega) (decide_eq_true ⟨by omega, by omega, by omega, by omega⟩) HW5.out).mono ?_
      rintro e w6 ⟨rfl, ho6⟩
      have hbE := below_w hbD HW5.out ho6 (by omega) (by omega)
      clear ho6
      go_wp2_with fail
      refine (first_true _ (HG.out.keep hbE)).mono ?_
      rintro e w11 ⟨rfl, hb11⟩
      go_wp2_with fail
      go_ret
      exact ⟨rfl, hbE.trans (hb11.mono hbE.size)⟩
    | range a =>
      obtain ⟨T5, y5, rfl⟩ := he5.iface (by simp [gotC])
      simp only [gotV]
      clear hR
      go_wp2_with fail
      refine (PutRice_yes (l := []) (x := 0) (k := K) (by simp) _ (by have := hl4; have := hs5; omega) (decide_eq_true ⟨by omega, by omega, by omega, by omega⟩) HW5.out).mono ?_
      rintro e w6 ⟨rfl, ho6⟩
      have hbE := below_w hbD HW5.out ho6 (by omega) (by omega)
      clear ho6
      go_wp2_with fail
      refine (first_true _ (HG.out.keep hbE)).mono ?_
      rintro e w11 ⟨rfl, hb11⟩
      go_wp2_with fail
      go_ret
      exact ⟨rfl, hbE.trans (hb11.mono hbE.size)⟩

end Go.Proofs.YtdanjeoiandjfaaDoor
