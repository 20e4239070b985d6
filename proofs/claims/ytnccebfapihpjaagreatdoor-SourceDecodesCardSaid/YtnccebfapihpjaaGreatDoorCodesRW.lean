/- Contracts of the document's package kinref3: the codes put. -/
import Derived.Test.YtnccebfapihpjaaGreatDoorCodesW
namespace Go.Proofs.YtnccebfapihpjaaGreatDoor
open Go Go.RowKit Go.Extern.Stop Go.Stop Go.Extern

set_option maxHeartbeats 1000000 in
theorem RPutRice_no {x k : Int} {p : Value} (w : World) (h : Co.riceMay x k = false) : Calls Tryz.prog 30 #[p, .int .i64 x, .int .i64 k] w
    fun e w' => e = .returned (.agg #[.int .i64 3, .slice none 0 0]) ∧ Below w.heap.size w w' := by
  have h' : ¬ (0 ≤ x ∧ x ≤ 1073741824 ∧ 0 ≤ k ∧ k ≤ 15) := of_decide_eq_false h
  by_cases g0 : x < 0
  · clear h h'
    go_enter Tryz.func30, Tryz.ntmps30
    go_wp2_with fail
    refine (Fail_any _ _).mono ?_
    rintro e w1 ⟨rfl, hb1⟩
    have hZ := (Blk.new w 34 #[.int .i64 0, .slice none 0 0]).keep hb1
    have hz0 : w1.cell? ⟨w.heap.size, 0, none⟩ = some (.int .i64 0) := by rw [hZ.cell]; rfl
    have hz1 : w1.cell? ⟨w.heap.size, 1, none⟩ = some (.slice none 0 0) := by rw [hZ.cell]; rfl
    have hf0 := hZ.frozen 0
    have hf1 := hZ.frozen 1
    go_wp2_with fail
    refine bodyPost_ret (v := .agg #[.int .i64 3, .slice none 0 0]) (by simp [results, Tryz.results30, go_sem, hz0, hz1]) rfl ⟨rfl, ?_⟩
    exact ((((Below.refl _ _).alloc (Nat.le_refl _) _).trans (hb1.mono (by simp))).setCell (by simp) _).setCell (by simp) _
  · skip
    by_cases g1 : 1073741824 < x
    · clear h h'
      go_enter Tryz.func30, Tryz.ntmps30
      go_wp2_with fail
      refine (Fail_any _ _).mono ?_
      rintro e w1 ⟨rfl, hb1⟩
      have hZ := (Blk.new w 34 #[.int .i64 0, .slice none 0 0]).keep hb1
      have hz0 : w1.cell? ⟨w.heap.size, 0, none⟩ = some (.int .i64 0) := by rw [hZ.cell]; rfl
      have hz1 : w1.cell? ⟨w.heap.size, 1, none⟩ = some (.slice none 0 0) := by rw [hZ.cell]; rfl
      have hf0 := hZ.frozen 0
      have hf1 := hZ.frozen 1
      go_wp2_with fail
      refine bodyPost_ret (v := .agg #[.int .i64 3, .slice none 0 0]) (by simp [results, Tryz.results30, go_sem, hz0, hz1]) rfl ⟨rfl, ?_⟩
      exact ((((Below.refl _ _).alloc (Nat.le_refl _) _).trans (hb1.mono (by simp))).setCell (by simp) _).setCell (by simp) _
    · skip
      by_cases g2 : k < 0
      · clear h h'
        go_enter Tryz.func30, Tryz.ntmps30
        go_wp2_with fail
        refine (Fail_any _ _).mono ?_
        rintro e w1 ⟨rfl, hb1⟩
        have hZ := (Blk.new w 34 #[.int .i64 0, .slice none 0 0]).keep hb1
        have hz0 : w1.cell? ⟨w.heap.size, 0, none⟩ = some (.int .i64 0) := by rw [hZ.cell]; rfl
        have hz1 : w1.cell? ⟨w.heap.size, 1, none⟩ = some (.slice none 0 0) := by rw [hZ.cell]; rfl
        have hf0 := hZ.frozen 0
        have hf1 := hZ.frozen 1
        go_wp2_with fail
        refine bodyPost_ret (v := .agg #[.int .i64 3, .slice none 0 0]) (by simp [results, Tryz.results30, go_sem, hz0, hz1]) rfl ⟨rfl, ?_⟩
        exact ((((Below.refl _ _).alloc (Nat.le_refl _) _).trans (hb1.mono (by simp))).setCell (by simp) _).setCell (by simp) _
      · skip
        have g3 : 15 < k := by omega
        clear h h'
        go_enter Tryz.func30, Tryz.ntmps30
        go_wp2_with fail
        refine (Fail_any _ _).mono ?_
        rintro e w1 ⟨rfl, hb1⟩
        have hZ := (Blk.new w 34 #[.int .i64 0, .slice none 0 0]).keep hb1
        have hz0 : w1.cell? ⟨w.heap.size, 0, none⟩ = some (.int .i64 0) := by rw [hZ.cell]; rfl
        have hz1 : w1.cell? ⟨w.heap.size, 1, none⟩ = some (.slice none 0 0) := by rw [hZ.cell]; rfl
        have hf0 := hZ.frozen 0
        have hf1 := hZ.frozen 1
        go_wp2_with fail
        refine bodyPost_ret (v := .agg #[.int .i64 3, .slice none 0 0]) (by simp [results, Tryz.results30, go_sem, hz0, hz1]) rfl ⟨rfl, ?_⟩
        exact ((((Below.refl _ _).alloc (Nat.le_refl _) _).trans (hb1.mono (by simp))).setCell (by simp) _).setCell (by simp) _

set_option maxHeartbeats 2000000 in
theorem RPutRice_yes {l : List Bool} {x : Int} {k : Nat} {B g : Nat} {v : Value} (hl : l.length ≤ 999990000) (w : World) (hB : B ≤ w.heap.size) (h : Co.riceMay x k = true) (hw : RWtr w B g v l) :
    Calls Tryz.prog 30 #[.pointer (some ⟨g, 0, none⟩), .int .i64 x, .int .i64 k] w
      fun e w' => e = .returned (.agg #[.int .i64 0, .slice none 0 0]) ∧ RWOut w B g v (l ++ Co.riceBits x k) w' := by
  obtain ⟨h0, h1, _, h3⟩ := of_decide_eq_true h
  have hk : k ≤ 15 := by omega
  have hd0 := Co.div_pow_nonneg h0 k
  have hd1 : x / 2 ^ k ≤ x := Int.ediv_le_self _ h0
  have hmask := Lib.hid (and_mask (x := x) (k := k) h0 (by omega) (by omega))
  have hp0 : (0 : Int) < 2 ^ k := Int.pow_pos (by omega)
  have hm0 := Lib.hid (Int.emod_nonneg x (show (2 : Int) ^ k ≠ 0 by omega))
  have hm1 := Lib.hid (Int.emod_lt_of_pos x hp0)
  have hp1 : (2 : Int) ^ k ≤ 32768 := by
    have : (2 : Int) ^ k ≤ 2 ^ 15 := Co.pow_mono hk
    have e : (2 : Int) ^ 15 = 32768 := by decide
    omega
  unfold Co.riceBits
  obtain ⟨q, hq⟩ := Int.eq_ofNat_of_zero_le hd0
  have HQ := Lib.hid hq
  have H := Lib.hid hw
  clear h hw
  by_cases hlt : x / 2 ^ k < 24
  · rw [if_pos hlt]
    clear hq
    go_enter Tryz.func30, Tryz.ntmps30
    go_wp2_with fail
    have hq24 : q < 24 := by have := HQ.out; omega
    go_loopg [8] q (fun m vi wr => ∃ i : Nat, i + m = q ∧ vi = .int .i64 i ∧ RWOut (w.alloc (.cells #[.int .i64 0, .slice none 0 0] 34)) B g v (l ++ List.replicate i true) wr)
    case atStart => exact ⟨0, by omega, rfl, by simpa using RWOut.refl (H.out.alloc _)⟩
    case round =>
      obtain ⟨i, hi, rfl, v1, hw1, hc1, hv1⟩ := hrel
      have hl1 : (l ++ List.replicate i true).length ≤ 999999000 := by simp; omega
      have hs1 : w.heap.size + 1 ≤ wr.heap.size := by have := hc1.size; simpa using this
      have HW1 := Lib.hid hw1
      have HC1 := Lib.hid hc1
      have HV1 := Lib.hid hv1
      clear hw1 hc1 hv1
      by_cases hm : i < q
      · have hm' : (i : Int) < x / 2 ^ k := by have := HQ.out; omega
        go_wp2_with fail
        refine (RPut_yes (x := 1) (n := 1) (by omega) _ (by omega) (by omega) (by omega) (by decide) HW1.out).mono ?_
        rintro e w2 ⟨rfl, ho2⟩
        have HO := Lib.hid (RWOut.trans HC1.out HV1.out ho2)
        clear ho2
        go_wp2_with fail
        go_roundg (gk - 1)
        case measure => omega
        case rel => exact ⟨i + 1, by omega, by go_num, by rw [List.replicate_succ', ← List.append_assoc]; exact HO.out⟩
      · obtain rfl : i = q := by omega
        have hm' : ¬ (i : Int) < x / 2 ^ k := by have := HQ.out; omega
        go_wp2_with fail
        refine (RPut_yes (x := 0) (n := 1) (by omega) _ (by omega) (by omega) (by omega) (by decide) HW1.out).mono ?_
        rintro e w3 ⟨rfl, ho3⟩
        obtain ⟨v3, hw3, hc3, hv3⟩ := RWOut.trans HC1.out HV1.out ho3
        have hl3 : (l ++ List.replicate i true ++ Bi.bitsOf 0 1).length ≤ 999999000 := by simp [Bi.bitsOf_length]; omega
        have hs3 : w.heap.size + 1 ≤ w3.heap.size := by have := hc3.size; simpa using this
        have HW3 := Lib.hid hw3
        have HC3 := Lib.hid hc3
        have HV3 := Lib.hid hv3
        clear ho3 hw3 hc3 hv3
        go_wp2_with fail
        rw [hmask.out]
        refine (RPut_yes (x := x % 2 ^ k) (n := k) hl3 _ (by omega) (by omega) hm0.out hm1.out HW3.out).mono ?_
        rintro e w2 ⟨rfl, ho2⟩
        have HF := Lib.hid (RWOut.trans HC3.out HV3.out ho2)
        clear ho2
        have hcell := HF.out.errcell H.out
        have hz0 : w2.cell? ⟨w.heap.size, 0, none⟩ = some (.int .i64 0) := by rw [hcell.cell]; rfl
        have hz1 : w2.cell? ⟨w.heap.size, 1, none⟩ = some (.slice none 0 0) := by rw [hcell.cell]; rfl
        have hf0 := hcell.frozen 0
        have hf1 := hcell.frozen 1
        clear hcell
        go_wp2_with fail
        refine bodyPost_ret (v := .agg #[.int .i64 0, .slice none 0 0]) (by simp [results, Tryz.results30, go_sem, hz0, hz1]) rfl ⟨rfl, ?_⟩
        have hfin := HF.out.errset H.out (.int .i64 0) (.slice none 0 0)
        rw [HQ.out]
        simpa [Bi.bitsOf] using hfin
  · rw [if_neg hlt]
    clear hq
    go_enter Tryz.func30, Tryz.ntmps30
    go_wp2_with fail
    go_loopg [8] 24 (fun m vi wr => ∃ i : Nat, i + m = 24 ∧ vi = .int .i64 i ∧ RWOut (w.alloc (.cells #[.int .i64 0, .slice none 0 0] 34)) B g v (l ++ List.replicate i true) wr)
    case atStart => exact ⟨0, by omega, rfl, by simpa using RWOut.refl (H.out.alloc _)⟩
    case round =>
      obtain ⟨i, hi, rfl, v1, hw1, hc1, hv1⟩ := hrel
      have hl1 : (l ++ List.replicate i true).length ≤ 999999000 := by simp; omega
      have hs1 : w.heap.size + 1 ≤ wr.heap.size := by have := hc1.size; simpa using this
      have HW1 := Lib.hid hw1
      have HC1 := Lib.hid hc1
      have HV1 := Lib.hid hv1
      clear hw1 hc1 hv1
      by_cases hm : i < 24
      · have hm' : (i : Int) < x / 2 ^ k := by have := HQ.out; omega
        go_wp2_with fail
        refine (RPut_yes (x := 1) (n := 1) (by omega) _ (by omega) (by omega) (by omega) (by decide) HW1.out).mono ?_
        rintro e w2 ⟨rfl, ho2⟩
        have HO := Lib.hid (RWOut.trans HC1.out HV1.out ho2)
        clear ho2
        go_wp2_with fail
        go_roundg (gk - 1)
        case measure => omega
        case rel => exact ⟨i + 1, by omega, by go_num, by rw [List.replicate_succ', ← List.append_assoc]; exact HO.out⟩
      · obtain rfl : i = 24 := by omega
        go_wp2_with fail
        all_goals
         refine (RPut_yes (x := x) (n := 31) hl1 _ (by omega) (by omega) h0 (by omega) HW1.out).mono ?_
         rintro e w2 ⟨rfl, ho2⟩
         have HF := Lib.hid (RWOut.trans HC1.out HV1.out ho2)
         clear ho2
         have hcell := HF.out.errcell H.out
         have hz0 : w2.cell? ⟨w.heap.size, 0, none⟩ = some (.int .i64 0) := by rw [hcell.cell]; rfl
         have hz1 : w2.cell? ⟨w.heap.size, 1, none⟩ = some (.slice none 0 0) := by rw [hcell.cell]; rfl
         have hf0 := hcell.frozen 0
         have hf1 := hcell.frozen 1
         clear hcell
         go_wp2_with fail
         refine bodyPost_ret (v := .agg #[.int .i64 0, .slice none 0 0]) (by simp [results, Tryz.results30, go_sem, hz0, hz1]) rfl ⟨rfl, ?_⟩
         have hfin := HF.out.errset H.out (.int .i64 0) (.slice none 0 0)
         rwa [List.append_assoc] at hfin

end Go.Proofs.YtnccebfapihpjaaGreatDoor
