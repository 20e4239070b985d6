/- The walk of kinlaw2.BitsAligns: it returns true, whatever the input. -/
import Derived.Test.YtbdabjnmocnfpaaDoorBitsOps
namespace Go.Proofs.YtbdabjnmocnfpaaDoor
open Go Go.RowKit Go.Extern.Stop Go.Stop Go.Extern

theorem padded_bd (l : List Bool) : (Bi.padded l).length % 8 = 0 ∧ l.length ≤ (Bi.padded l).length ∧ (Bi.padded l).length ≤ l.length + 7 ∧ (Bi.pack (Bi.padded l)).length * 8 = (Bi.padded l).length := by
  rw [Bi.pack_padded, Bi.pack_length, Bi.padded_length]; omega

theorem firstOne_none {b : List Int} {p : Nat} : ∀ {k : Nat}, firstOne b p k = none ↔ Bi.num b p k = 0 := by
  intro k
  induction k with
  | zero => simp [firstOne, Bi.num]
  | succ k ih =>
    have h1 := (Bi.num_bd b p k).1
    have h2 := Bi.bit_bd b (p + k)
    simp only [firstOne, Bi.num]
    cases hf : firstOne b p k with
    | some a =>
      have : Bi.num b p k ≠ 0 := fun h => by rw [ih.2 h] at hf; cases hf
      simp; omega
    | none =>
      have := ih.1 hf
      by_cases hb : Bi.bit b (p + k) = 1
      · rw [if_pos hb]; simp; omega
      · rw [if_neg hb]; simp; omega

theorem padTo_bd (p : Nat) : (p + padTo p) % 8 = 0 ∧ padTo p ≤ 7 := by unfold padTo; omega

set_option maxHeartbeats 1000000 in
theorem NewReader_big {b : List Int} {A : Option Addr} {c : Nat} (hb : b.length ≤ 140737488355328) (hbd : ∀ x ∈ b, 0 ≤ x ∧ x ≤ 255) (w : World) (ha : RdI .u8 w A b) :
    Calls Tryd.prog 21 #[.slice A b.length c] w
      fun e w' => ∃ g, e = .returned (.pointer (some ⟨g, 0, none⟩)) ∧ RdrT 75 w.heap.size g w' g b 0 ∧ w.heap.size ≤ g ∧ Below w.heap.size w w' := by
  obtain ⟨i0, hi, hz0, hz1, hz2⟩ := info_parts u8Info
  have HA := Lib.hid ha
  clear ha
  go_enter Tryd.func21, Tryd.ntmps21
  go_wp2_with (at_builtin; refine wpList_append_rd _ rfl (.tmp 3) (.tmp 4) _ rfl w.heap.size 5 i0 _ 1 1 Tryd.underlying43 hi hz0 hz1 hz2 rfl (by omega) (.slice (some ⟨w.heap.size, 0, none⟩) 0 0) 0 [] rfl (own_empty w _ _ _ (Nat.le_refl _)) A b.length c _ rfl (HA.out.alloc _) (ints_one _ _) (by unfold maxLen; omega) (by omega) (by simp) ?_; intro B cap w1 hown1 hg1 hat1; simp only [Nat.zero_add, List.nil_append] at hown1)
  go_ret
  have hbl : Below w.heap.size w w1 := ((Below.refl _ _).alloc (Nat.le_refl _) _).grown hg1 (by simp) (fun k hk => Nat.le_of_eq (own_lit hk))
  refine ⟨w1.heap.size, rfl, ⟨by omega, hbd, B, cap, ?_, ?_, ?_⟩, hbl.size, hbl.alloc hbl.size _⟩
  · simpa using Blk.new w1 75 #[.slice B (0 + b.length) cap, .int .i64 0]
  · exact ((RdI.of_own hown1).1).alloc _
  · rintro a rfl _
    have h := hown1.lt a.block rfl
    exact ⟨h.1, h.2, Nat.ne_of_lt h.2⟩

set_option maxRecDepth 100000 in
set_option maxHeartbeats 4000000 in
theorem BitsAligns_walk {A : Option Addr} {b : List Int} {n : Int} {c : Nat} (hb : b.length ≤ 140737488355328) (hbd : ∀ x ∈ b, 0 ≤ x ∧ x ≤ 255) (w : World) (hg : Gl w) (ha : RdI .u8 w A b) :
    Calls Tryd.prog 6 #[.slice A b.length c, .int .i64 n] w fun e w' => e = .returned (.bool true) ∧ Below w.heap.size w w' := by
  have HG := Lib.hid hg
  have HA := Lib.hid ha
  have HBD := Lib.hid hbd
  clear hg ha hbd
  rcases (show (b.length ≤ 20000 ∧ 0 ≤ n ∧ n ≤ 32) ∨ 20000 < b.length ∨ (b.length ≤ 20000 ∧ n < 0) ∨ (b.length ≤ 20000 ∧ 0 ≤ n ∧ 32 < n) by omega) with ⟨h5, h1, h2⟩ | h5 | ⟨h5, h1⟩ | ⟨h5, h1, h2⟩
  rotate_left 1
  iterate 3
    · go_enter Tryd.func6, Tryd.ntmps6
      go_wp2_with fail
      refine (first_true _ HG.out).mono ?_
      rintro e w1 ⟨rfl, hb1⟩
      go_wp2_with fail
      refine (NewWriter_any _).mono ?_
      rintro e w2 ⟨rfl, rfl⟩
      have hbA := hb1.alloc hb1.size (.cells #[.slice none 0 0, .int .i64 0] 68)
      go_wp2_with fail
      refine (NewReader_big hb HBD.out _ (HA.out.keep hbA)).mono ?_
      rintro e w3 ⟨gr, rfl, hr3, hlo, hb3⟩
      have hbB := hbA.trans (hb3.mono hbA.size)
      clear hr3
      go_wp2_with fail
      refine (first_true _ (HG.out.keep hbB)).mono ?_
      rintro e w4 ⟨rfl, hb4⟩
      go_wp2_with fail
      go_ret
      exact ⟨rfl, hbB.trans (hb4.mono hbB.size)⟩
  · obtain ⟨m, rfl⟩ := Int.eq_ofNat_of_zero_le h1
    go_enter Tryd.func6, Tryd.ntmps6
    go_wp2_with fail
    refine (first_true _ HG.out).mono ?_
    rintro e w1 ⟨rfl, hb1⟩
    have hs1 := hb1.size
    go_wp2_with fail
    refine (NewWriter_any _).mono ?_
    rintro e w2 ⟨rfl, hw2⟩
    have hwt : Wtr w2 w.heap.size w1.heap.size (.slice none 0 0) [] := by rw [hw2]; exact Wtr.new _ _
    have hbA : Below w.heap.size w w2 := by rw [hw2]; exact hb1.alloc hb1.size _
    have hs2 : w2.heap.size = w1.heap.size + 1 := by rw [hw2]; simp
    have HS2 := Lib.hid hs2
    clear hw2 hs2
    go_wp2_with fail
    refine (NewReader_big hb HBD.out _ (HA.out.keep hbA)).mono ?_
    rintro e w3 ⟨gr, rfl, hr3, hlo, hb3⟩
    have hbB := hbA.trans (hb3.mono hbA.size)
    have hwt3 := hwt.keep hb3
    have HR3 := Lib.hid hr3
    have hgr3 := hr3.lt
    have hgw : w1.heap.size < w2.heap.size := by have := HS2.out; omega
    clear hr3 hwt hb3
    go_wp2_with fail
    refine (Put_yes (l := []) (x := 0) (n := m) (by simp) _ hbB.size (by omega) (by omega) (two_pow_bd (by omega)).1 hwt3).mono ?_
    rintro e w4 ⟨rfl, ho4⟩
    have hr4 := HR3.out.write ho4 (by omega) (by omega) (fun i hi => by simp [Value.ownBlock] at hi)
    obtain ⟨v4, hw4, hc4, hv4⟩ := ho4
    have hbC := below_chg hbB hc4 hbB.size (fun i hi => by rcases hi with rfl | hi
                                                           · omega
                                                           · simp [Value.ownBlock] at hi)
    have hv4' : ∀ i, v4.ownBlock = some i → gr < i := fun i hi => by
      rcases hv4 i hi with h | h
      · simp [Value.ownBlock] at h
      · omega
    have HR4 := Lib.hid hr4
    have HV4 := Lib.hid hv4'
    obtain ⟨l1, hl1⟩ : ∃ l1, ([] ++ Bi.bitsOf 0 m : List Bool) = l1 := ⟨_, rfl⟩
    have hl1l : l1.length = m := by rw [← hl1]; simp [Bi.bitsOf_length]
    rw [hl1] at hw4
    have HW4 := Lib.hid hw4
    have HL1 := Lib.hid hl1l
    have hl19 : l1.length ≤ 1000000000 := by omega
    clear hr4 hw4 hc4 hv4 hv4' hwt3 hl1 hl1l
    go_wp2_with fail
    refine (WLen_any _ HW4.out).mono ?_
    rintro e w4' ⟨rfl, rfl⟩
    go_wp2_with fail
    refine (WAlign_any hl19 _ HW4.out).mono ?_
    rintro e w5 ⟨rfl, ho5⟩
    have hr5 := HR4.out.write ho5 (by omega) (by omega) (fun i hi => by have := HV4.out i hi; omega)
    obtain ⟨v5, hw5, hc5, _⟩ := ho5
    have hbD := below_chg hbC hc5 hbC.size (fun i hi => by rcases hi with rfl | hi
                                                           · omega
                                                           · have := HV4.out i hi; omega)
    obtain ⟨hp0, hp1, hp2, hp3⟩ := padded_bd l1
    obtain ⟨l2, hl2⟩ : ∃ l2, Bi.padded l1 = l2 := ⟨_, rfl⟩
    rw [hl2] at hw5 hp0 hp1 hp2 hp3
    have HW5 := Lib.hid hw5
    have HR5 := Lib.hid hr5
    have hl29 : l2.length ≤ 1000000000 := by omega
    have q0 : ((l2.length : Int) % 8 != 0) = false := by rw [bne_eq_false_iff_eq]; omega
    have q1 : decide ((7 : Int) < (l2.length : Int) - (l1.length : Int)) = false := by simp; omega
    have q2 : decide (l2.length < l1.length) = false := by simp; omega
    have q3 : (((Bi.pack l2).length : Int) * 8 != (l2.length : Int)) = false := by rw [bne_eq_false_iff_eq]; omega
    have hpl : (Bi.pack l2).length ≤ 1000000000 := by omega
    clear hw5 hr5 hc5 hl2 hp0 hp3
    go_wp2_with fail
    refine (WLen_any _ HW5.out).mono ?_
    rintro e w5' ⟨rfl, rfl⟩
    go_wp2_with fail
    refine (WLen_any _ HW5.out).mono ?_
    rintro e w5' ⟨rfl, rfl⟩
    go_wp2_with fail
    refine (WLen_any _ HW5.out).mono ?_
    rintro e w5' ⟨rfl, rfl⟩
    go_wp2_with fail
    refine (WBytes_any hl29 _ HW5.out).mono ?_
    rintro e w6 ⟨A6, c6, rfl, _, hb6⟩
    have hbE := hbD.trans (hb6.mono hbD.size)
    have HR6 := Lib.hid (HR5.out.keep hb6)
    have HW6 := Lib.hid (HW5.out.keep hb6)
    clear hb6
    go_wp2_with fail
    refine (WLen_any _ HW6.out).mono ?_
    rintro e w6' ⟨rfl, rfl⟩
    clear q0 q1 q2 hp1 hp2 hl29 hl19
    by_cases h6 : m ≤ 8 * b.length
    · go_wp2_with fail
      refine (Get_ok (n := m) (by omega) (by omega) (by omega) _ HR6.out).mono ?_
      rintro e w7 ⟨rfl, ho7⟩
      have hbF := below_chg hbE ho7.2 hbE.size (fun i hi => by omega)
      have hr7 := ho7.1
      rw [Nat.zero_add] at hr7
      have HR7 := Lib.hid hr7
      clear ho7 hr7
      have hPb : m ≤ 8 * b.length := by omega
      go_wp2_with fail
      refine (Place_any _ HR7.out).mono ?_
      rintro e w7' ⟨rfl, rfl⟩
      obtain ⟨hpt0, hpt1⟩ := padTo_bd m
      go_wp2_with fail
      refine (Align_any (by omega) _ HR7.out).mono ?_
      rintro e w8 ⟨v8, rfl, he8, ho8⟩
      have hbG := below_chg hbF ho8.2 hbF.size (fun i hi => by omega)
      have HR8 := Lib.hid ho8.1
      have hq8 := ho8.1.1
      have HE8 := Lib.hid he8
      obtain ⟨t, ht⟩ : ∃ t, padTo m = t := ⟨_, rfl⟩
      rw [ht] at HR8 HE8 hpt0 hpt1 hq8
      obtain ⟨q, hq⟩ : ∃ q, m + t = q := ⟨_, rfl⟩
      rw [hq] at HR8 hpt0 hq8
      have HQ := Lib.hid hq
      have hPq : m ≤ q := by omega
      have hqP : q ≤ m + 7 := by omega
      have r0 : ((q : Int) % 8 != 0) = false := by rw [bne_eq_false_iff_eq]; omega
      have r1 : decide ((q : Int) < ((m : Nat) : Int)) = false := by simp; omega
      have r1' : decide (q < m) = false := by simp; omega
      have r2 : decide ((7 : Int) < (q : Int) - ((m : Nat) : Int)) = false := by simp; omega
      have r3 : ((q : Int) + (8 * (b.length : Int) - (q : Int)) != 8 * (b.length : Int)) = false := by rw [bne_eq_false_iff_eq]; omega
      clear ho8 he8 ht hq hpt0
      go_wp2_with fail
      refine (Place_any _ HR8.out).mono ?_
      rintro e w8' ⟨rfl, rfl⟩
      go_wp2_with fail
      refine (Left_any (by omega) _ HR8.out).mono ?_
      rintro e w9 ⟨rfl, nq, rfl⟩
      have hbH := below_drewN hbG nq
      have HE9 : Hid (ErrR (w8.drewN nq) (oneP (firstOne b m t)) (oneC (firstOne b m t)) v8) := Lib.hid (HE8.out.chg ((Chg.refl (fun _ => False) w8).drewN nq) (fun _ _ _ h => h))
      generalize w8.drewN nq = w9 at *
      clear r0 HE8 HR8
      go_wp2_with fail
      refine (NewReader_any (by omega) HBD.out _ (HA.out.keep hbH)).mono ?_
      rintro e w10 ⟨gz, rfl, hr10, hlo10, hb10⟩
      have hbI := hbH.trans (hb10.mono hbH.size)
      have HR10 := Lib.hid hr10
      have hgz : w.heap.size ≤ gz := by have := hbH.size; omega
      have HE10 := Lib.hid (HE9.out.keep hb10)
      clear hr10 hb10 HE9
      go_wp2_with fail
      refine (Get_ok (n := m) (by omega) (by omega) (by omega) _ HR10.out).mono ?_
      rintro e w11 ⟨rfl, ho11⟩
      have hbJ := below_chg hbI ho11.2 hbI.size (fun i hi => by omega)
      have hr11 := ho11.1
      rw [Nat.zero_add] at hr11
      have HE11 := Lib.hid (HE10.out.chg ho11.2 (fun g' cs hB' => by
        obtain ⟨_, _, AX, cX, hblkX, _, _⟩ := HR10.out
        exact Blk.apart hB' hblkX (by decide)))
      have hqt : (q : Int) - ((m : Nat) : Int) = ((t : Nat) : Int) := by have := HQ.out; omega
      have HQT := Lib.hid hqt
      have HR11 := Lib.hid hr11
      have hPt : m + t ≤ 8 * b.length := by have := HQ.out; omega
      have ht32 : t ≤ 32 := by omega
      clear ho11 hr11 hqt HE10
      go_wp2_with fail
      have hcall := Get_ok (n := t) (by omega) ht32 hPt w11 HR11.out
      rw [← HQT.out] at hcall
      refine hcall.mono ?_
      rintro e w12 ⟨rfl, ho12⟩
      have hbK := below_chg hbJ ho12.2 hbJ.size (fun i hi => by omega)
      have HE12 := Lib.hid (HE11.out.chg ho12.2 (fun g' cs hB' => by
        obtain ⟨_, _, AX, cX, hblkX, _, _⟩ := HR11.out
        exact Blk.apart hB' hblkX (by decide)))
      clear ho12 HE11 hcall
      cases hfo : firstOne b m t with
      | none =>
        have hu := firstOne_none.1 hfo
        have he := HE12.out
        rw [hfo] at he
        rcases he with ⟨_, _, rfl⟩ | ⟨h0, _⟩
        rotate_left 1
        · exact absurd rfl h0
        rw [hu]
        clear hfo hu HE12
        go_wp2_with fail
        refine (first_true _ (HG.out.keep hbK)).mono ?_
        rintro e w13 ⟨rfl, hb13⟩
        go_wp2_with fail
        go_ret
        exact ⟨rfl, hbK.trans (hb13.mono hbK.size)⟩
      | some a =>
        have hu : Bi.num b m t ≠ 0 := fun h => by rw [firstOne_none.2 h] at hfo; cases hfo
        have he := HE12.out
        rw [hfo] at he
        rcases he with ⟨h0, _⟩ | ⟨_, he⟩
        · cases h0
        obtain ⟨T, y, rfl⟩ := he.iface
        obtain ⟨U, hU⟩ : ∃ U, Bi.num b m t = U := ⟨_, rfl⟩
        rw [hU] at hu
        rw [hU]
        have hu' : (U == 0) = false := by rw [beq_eq_false_iff_ne]; exact hu
        clear hfo HE12 he hU hu
        go_wp2_with fail
        refine (first_true _ (HG.out.keep hbK)).mono ?_
        rintro e w13 ⟨rfl, hb13⟩
        go_wp2_with fail
        go_ret
        exact ⟨rfl, hbK.trans (hb13.mono hbK.size)⟩
    · go_wp2_with fail
      refine (Get_short (n := m) (by omega) (by omega) (by omega) _ HR6.out).mono ?_
      rintro e w7 ⟨v7, rfl, he7, hb7⟩
      obtain ⟨T7, x7, rfl⟩ := he7.iface
      have hbF := hbE.trans (hb7.mono hbE.size)
      have hr7 := HR6.out.keep hb7
      obtain ⟨z, hz⟩ : ∃ z : Nat, 0 = z := ⟨0, rfl⟩
      rw [hz] at hr7
      have HR7 := Lib.hid hr7
      have hz32 : z ≤ 32 := by omega
      have hz0 : ((z : Int) != 0) = false := by rw [bne_eq_false_iff_eq]; omega
      have hzb : z ≤ 8 * b.length := by omega
      clear he7 hb7 hr7 hz
      have hPb : z ≤ 8 * b.length := by omega
      go_wp2_with fail
      refine (Place_any _ HR7.out).mono ?_
      rintro e w7' ⟨rfl, rfl⟩
      obtain ⟨hpt0, hpt1⟩ := padTo_bd z
      go_wp2_with fail
      refine (Align_any (by omega) _ HR7.out).mono ?_
      rintro e w8 ⟨v8, rfl, he8, ho8⟩
      have hbG := below_chg hbF ho8.2 hbF.size (fun i hi => by omega)
      have HR8 := Lib.hid ho8.1
      have hq8 := ho8.1.1
      have HE8 := Lib.hid he8
      obtain ⟨t, ht⟩ : ∃ t, padTo z = t := ⟨_, rfl⟩
      rw [ht] at HR8 HE8 hpt0 hpt1 hq8
      obtain ⟨q, hq⟩ : ∃ q, z + t = q := ⟨_, rfl⟩
      rw [hq] at HR8 hpt0 hq8
      have HQ := Lib.hid hq
      have hPq : z ≤ q := by omega
      have hqP : q ≤ z + 7 := by omega
      have r0 : ((q : Int) % 8 != 0) = false := by rw [bne_eq_false_iff_eq]; omega
      have r1 : decide ((q : Int) < ((z : Nat) : Int)) = false := by simp; omega
      have r1' : decide (q < z) = false := by simp; omega
      have r2 : decide ((7 : Int) < (q : Int) - ((z : Nat) : Int)) = false := by simp; omega
      have r3 : ((q : Int) + (8 * (b.length : Int) - (q : Int)) != 8 * (b.length : Int)) = false := by rw [bne_eq_false_iff_eq]; omega
      clear ho8 he8 ht hq hpt0
      go_wp2_with fail
      refine (Place_any _ HR8.out).mono ?_
      rintro e w8' ⟨rfl, rfl⟩
      go_wp2_with fail
      refine (Left_any (by omega) _ HR8.out).mono ?_
      rintro e w9 ⟨rfl, nq, rfl⟩
      have hbH := below_drewN hbG nq
      have HE9 : Hid (ErrR (w8.drewN nq) (oneP (firstOne b z t)) (oneC (firstOne b z t)) v8) := Lib.hid (HE8.out.chg ((Chg.refl (fun _ => False) w8).drewN nq) (fun _ _ _ h => h))
      generalize w8.drewN nq = w9 at *
      clear r0 HE8 HR8
      go_wp2_with fail
      refine (NewReader_any (by omega) HBD.out _ (HA.out.keep hbH)).mono ?_
      rintro e w10 ⟨gz, rfl, hr10, hlo10, hb10⟩
      have hbI := hbH.trans (hb10.mono hbH.size)
      have HR10 := Lib.hid hr10
      have hgz : w.heap.size ≤ gz := by have := hbH.size; omega
      have HE10 := Lib.hid (HE9.out.keep hb10)
      clear hr10 hb10 HE9
      go_wp2_with fail
      refine (Get_ok (n := z) (by omega) (by omega) (by omega) _ HR10.out).mono ?_
      rintro e w11 ⟨rfl, ho11⟩
      have hbJ := below_chg hbI ho11.2 hbI.size (fun i hi => by omega)
      have hr11 := ho11.1
      rw [Nat.zero_add] at hr11
      have HE11 := Lib.hid (HE10.out.chg ho11.2 (fun g' cs hB' => by
        obtain ⟨_, _, AX, cX, hblkX, _, _⟩ := HR10.out
        exact Blk.apart hB' hblkX (by decide)))
      have hqt : (q : Int) - ((z : Nat) : Int) = ((t : Nat) : Int) := by have := HQ.out; omega
      have HQT := Lib.hid hqt
      have HR11 := Lib.hid hr11
      have hPt : z + t ≤ 8 * b.length := by have := HQ.out; omega
      have ht32 : t ≤ 32 := by omega
      clear ho11 hr11 hqt HE10
      go_wp2_with fail
      have hcall := Get_ok (n := t) (by omega) ht32 hPt w11 HR11.out
      rw [← HQT.out] at hcall
      refine hcall.mono ?_
      rintro e w12 ⟨rfl, ho12⟩
      have hbK := below_chg hbJ ho12.2 hbJ.size (fun i hi => by omega)
      have HE12 := Lib.hid (HE11.out.chg ho12.2 (fun g' cs hB' => by
        obtain ⟨_, _, AX, cX, hblkX, _, _⟩ := HR11.out
        exact Blk.apart hB' hblkX (by decide)))
      clear ho12 HE11 hcall
      cases hfo : firstOne b z t with
      | none =>
        have hu := firstOne_none.1 hfo
        have he := HE12.out
        rw [hfo] at he
        rcases he with ⟨_, _, rfl⟩ | ⟨h0, _⟩
        rotate_left 1
        · exact absurd rfl h0
        rw [hu]
        clear hfo hu HE12
        go_wp2_with fail
        refine (first_true _ (HG.out.keep hbK)).mono ?_
        rintro e w13 ⟨rfl, hb13⟩
        go_wp2_with fail
        go_ret
        exact ⟨rfl, hbK.trans (hb13.mono hbK.size)⟩
      | some a =>
        have hu : Bi.num b z t ≠ 0 := fun h => by rw [firstOne_none.2 h] at hfo; cases hfo
        have he := HE12.out
        rw [hfo] at he
        rcases he with ⟨h0, _⟩ | ⟨_, he⟩
        · cases h0
        obtain ⟨T, y, rfl⟩ := he.iface
        obtain ⟨U, hU⟩ : ∃ U, Bi.num b z t = U := ⟨_, rfl⟩
        rw [hU] at hu
        rw [hU]
        have hu' : (U == 0) = false := by rw [beq_eq_false_iff_ne]; exact hu
        clear hfo HE12 he hU hu
        go_wp2_with fail
        refine (first_true _ (HG.out.keep hbK)).mono ?_
        rintro e w13 ⟨rfl, hb13⟩
        go_wp2_with fail
        go_ret
        exact ⟨rfl, hbK.trans (hb13.mono hbK.size)⟩

end Go.Proofs.YtbdabjnmocnfpaaDoor
