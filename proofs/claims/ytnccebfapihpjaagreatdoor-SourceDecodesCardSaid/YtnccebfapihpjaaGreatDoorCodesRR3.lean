/- Contracts of the document's package kinref3: GetRice. -/
import Derived.Test.YtnccebfapihpjaaGreatDoorCodesRR2
namespace Go.Proofs.YtnccebfapihpjaaGreatDoor
open Go Go.RowKit Go.Extern.Stop Go.Stop Go.Extern

set_option maxHeartbeats 1000000 in
theorem RGetRice_no {k : Int} {p : Value} (most : Int) (w : World) (h : ¬ (0 ≤ k ∧ k ≤ 15)) :
    Calls Tryz.prog 69 #[p, .int .i64 k, .int .i64 most] w fun e w' => e = .returned (.tuple #[.int .i64 0, .agg #[.int .i64 3, .slice none 0 0]]) ∧ Below w.heap.size w w' := by
  by_cases h0 : k < 0
  · clear h
    go_enter Tryz.func69, Tryz.ntmps69
    go_wp2_with fail
    refine (Fail_any _ _).mono ?_
    rintro e w1 ⟨rfl, hb1⟩
    obtain ⟨hz0, hz1, hf0, hf1⟩ := err_store ((Blk.new w 34 #[.int .i64 0, .slice none 0 0]).keep hb1)
    go_wp2_with fail
    refine bodyPost_ret (v := .tuple #[.int .i64 0, .agg #[.int .i64 3, .slice none 0 0]]) (by simp [results, Tryz.results69, go_sem, hz0, hz1]) rfl ⟨rfl, ?_⟩
    exact ((((Below.refl _ _).alloc (Nat.le_refl _) _).trans (hb1.mono (by simp))).setCell (by simp) _).setCell (by simp) _
  · have h1 : 15 < k := by omega
    clear h
    go_enter Tryz.func69, Tryz.ntmps69
    go_wp2_with fail
    refine (Fail_any _ _).mono ?_
    rintro e w1 ⟨rfl, hb1⟩
    obtain ⟨hz0, hz1, hf0, hf1⟩ := err_store ((Blk.new w 34 #[.int .i64 0, .slice none 0 0]).keep hb1)
    go_wp2_with fail
    refine bodyPost_ret (v := .tuple #[.int .i64 0, .agg #[.int .i64 3, .slice none 0 0]]) (by simp [results, Tryz.results69, go_sem, hz0, hz1]) rfl ⟨rfl, ?_⟩
    exact ((((Below.refl _ _).alloc (Nat.le_refl _) _).trans (hb1.mono (by simp))).setCell (by simp) _).setCell (by simp) _

set_option maxRecDepth 100000 in
set_option maxHeartbeats 4000000 in
theorem RGetRice_any {lo hi g : Nat} {b : List Int} {p k : Nat} (most : Int) (hk : k ≤ 15) (hb : b.length ≤ 1000000000) (w : World) (hhi : hi ≤ w.heap.size) (h : RdrT 85 lo hi w g b p) :
    Calls Tryz.prog 69 #[.pointer (some ⟨g, 0, none⟩), .int .i64 k, .int .i64 most] w (RGOut lo hi w g b (Co.getRice b (8 * b.length) p k most)) := by
  have hgw := h.lt
  have hz := Blk.new w 34 #[.int .i64 0, .slice none 0 0]
  have hb0 : Below w.heap.size w (w.alloc (.cells #[.int .i64 0, .slice none 0 0] 34)) := (Below.refl _ _).alloc (Nat.le_refl _) _
  have H : Hid (ROut 85 lo hi w g b p (w.alloc (.cells #[.int .i64 0, .slice none 0 0] 34))) := ⟨h.keep hb0, Chg.of_below hb0⟩
  have HZ0 := Lib.hid hz
  clear h hz hb0
  have hk0 : 0 ≤ (k : Int) := by omega
  have hk1 : (k : Int) ≤ 15 := by omega
  obtain ⟨hp0, hp1⟩ := pow_bd (n := k) (by omega)
  have hp2 : (2 : Int) ^ k ≤ 32768 := by
    have : (2 : Int) ^ k ≤ 2 ^ 15 := Co.pow_mono hk
    have e : (2 : Int) ^ 15 = 32768 := by decide
    omega
  obtain ⟨R, hR⟩ : ∃ R, Co.getRice b (8 * b.length) p k most = R := ⟨_, rfl⟩
  rw [hR]
  have HR := Lib.hid hR
  clear hR
  obtain ⟨Z, hZ⟩ : ∃ Z, Co.ones b (8 * b.length) p 24 0 = Z := ⟨_, rfl⟩
  have HZZ := Lib.hid hZ
  clear hZ
  go_enter Tryz.func69, Tryz.ntmps69
  go_wp2_with fail
  go_loopg [8] 24 (fun m vn wr => ∃ n : Nat, n + m = 24 ∧ vn = .int .i64 n ∧ Hid (Co.ones b (8 * b.length) p m n = Z) ∧ ROut 85 lo hi w g b (p + n) wr ∧ Hid (Blk wr w.heap.size 34 #[.int .i64 0, .slice none 0 0]))
  case atStart => exact ⟨0, by omega, rfl, HZZ, H.out, HZ0⟩
  case round =>
    obtain ⟨n, hn, rfl, HZ, hout, HB⟩ := hrel
    have HO := Lib.hid hout
    have hs1 := HB.out.lt
    have hhr : hi ≤ wr.heap.size := by omega
    clear hout
    cases gk with
    | zero =>
      obtain rfl : n = 24 := by omega
      have hz := HZ.out
      simp only [Co.ones] at hz
      have hr := HR.out
      rw [getRice_ok (HZZ.out.trans hz.symm), rest24] at hr
      clear hz HR HZ
      go_wp2_with fail
      rcases (show 8 * b.length < p + 24 + 31 ∨ p + 24 + 31 ≤ 8 * b.length by omega) with hs | hs
      · have hr' := hr
        rw [if_pos hs] at hr'
        subst hr'
        refine (RGet_short (n := 31) hb (by omega) hs _ HO.out.1).mono ?_
        rintro e w1 ⟨A, cap, rfl, hr1, hfar, hb1⟩
        obtain ⟨W4, hW4⟩ : ∃ W, W = (w1.alloc (.cells #[.int .i64 1, .slice A 1 cap] 34)).alloc (.cells #[.int .i64 1, .slice A 1 cap] 34) := ⟨_, rfl⟩
        have hbc := hb1.alloc hb1.size (.cells #[.int .i64 1, .slice A 1 cap] 34)
        have hbb : Below wr.heap.size wr W4 := by rw [hW4]; exact hbc.alloc hbc.size _
        have hr2 := (hr1.alloc (.cells #[.int .i64 1, .slice A 1 cap] 34)).alloc (.cells #[.int .i64 1, .slice A 1 cap] 34)
        rw [← hW4] at hr2
        have HRD := Lib.hid hr2
        have HO9 := Lib.hid (HO.out.below hbb)
        obtain ⟨d0, d1, f0, f1⟩ := err_cells (HB.out.keep hbb)
        obtain ⟨c0, c1, _, _⟩ := err_cells (show Blk W4 w1.heap.size 34 #[.int .i64 1, .slice A 1 cap] by rw [hW4]; exact (Blk.new _ _ _).alloc _)
        have hfar' : ∀ a, A = some a → w.heap.size + 1 ≤ a.block := fun a ha => by have := hfar a ha; omega
        have HF := Lib.hid hfar'
        go_wp2_with fail
        refine (OK_any 1 _ _).mono ?_
        rintro e w' ⟨rfl, rfl⟩
        rw [← hW4]
        clear hW4 hr1 hr2 hfar hfar' hb1 hbb hbc
        go_wp2_with fail
        go_region
        all_goals (
          go_wp2_with fail
          refine bodyPost_ret (v := .tuple #[.int .i64 0, .agg #[.int .i64 1, .slice A 1 cap]]) (by simp [results, Tryz.results69, go_sem, d0, d1]) rfl ?_
          exact ⟨A, cap, rfl, (HRD.out.far (fun a ha => by have := HF.out a ha; simp; omega) _).far (fun a ha => by have := HF.out a ha; simp; omega) _, fun a ha => by have := HF.out a ha; omega, (HO9.out.errset hhi hgw _ _).drew⟩)
      · have hr' := hr
        rw [if_neg (by omega)] at hr'
        have hnb := Bi.num_bd b (p + 24) 31
        refine (RGet_ok (n := 31) hb (by omega) hs _ hhr HO.out.1).mono ?_
        obtain ⟨N, hN⟩ : ∃ N, Bi.num b (p + 24) 31 = N := ⟨_, rfl⟩
        rw [hN] at hnb hr' ⊢
        have HRN := Lib.hid hr'
        clear hN hr'
        rintro e w1 ⟨rfl, ho1⟩
        obtain ⟨W5, hW⟩ : ∃ W, W = (w1.alloc (.cells #[.int .i64 0, .slice none 0 0] 34)).alloc (.cells #[.int .i64 0, .slice none 0 0] 34) := ⟨_, rfl⟩
        have hbc : Below w1.heap.size w1 W5 := by rw [hW]; exact ((Below.refl _ _).alloc (Nat.le_refl _) _).alloc (by simp) _
        have HO5 := Lib.hid ((HO.out.then_ ho1).below hbc)
        have HB5 := Lib.hid ((HB.out.chg ho1.2 (by omega)).keep hbc)
        have h6 : Blk W5 w1.heap.size 34 #[.int .i64 0, .slice none 0 0] := by rw [hW]; exact (Blk.new _ _ _).alloc _
        have H6 := Lib.hid h6
        go_wp2_with fail
        refine (OK_any 0 _ _).mono ?_
        rintro e w' ⟨rfl, rfl⟩
        rw [← hW]
        clear hW hbc ho1 h6
        obtain ⟨d0, d1, f0, f1⟩ := err_cells HB5.out
        obtain ⟨c0, c1, _, _⟩ := err_cells H6.out
        have hd0 : 0 ≤ N / 2 ^ k := Int.ediv_nonneg hnb.1 (by omega)
        by_cases h1 : N > most
        · skip
          have hr2 := HRN.out
          rw [if_pos (.inl h1)] at hr2
          subst hr2
          have hpl := HO5.out.place
          go_wp2_with fail
          refine (Wrap_any sCodes _ (c := 3) (by omega) _).mono ?_
          rintro e w5 ⟨A5, c5, rfl, hr5, hfar5, hb5⟩
          obtain ⟨d0', d1', f0', f1'⟩ := err_cells (HB5.out.keep hb5)
          have hsw := HB5.out.lt
          have hfar' : ∀ a, A5 = some a → w.heap.size + 1 ≤ a.block := fun a ha => by have := hfar5 a ha; omega
          have HF := Lib.hid hfar'
          have HRD := Lib.hid hr5
          have HO8 := Lib.hid (HO5.out.below hb5)
          clear hr5 hfar5 hb5 hfar' hpl
          go_wp2_with fail
          refine bodyPost_ret (v := .tuple #[.int .i64 0, .agg #[.int .i64 3, .slice A5 1 c5]]) (by simp [results, Tryz.results69, go_sem, d0', d1']) rfl ?_
          exact ⟨A5, c5, rfl, (HRD.out.far (fun a ha => by have := HF.out a ha; simp; omega) _).far (fun a ha => by have := HF.out a ha; simp; omega) _, fun a ha => by have := HF.out a ha; omega, HO8.out.errset hhi hgw _ _⟩
        · by_cases h2 : N > 1073741824
          · skip
            have hr2 := HRN.out
            rw [if_pos (.inr (.inl h2))] at hr2
            subst hr2
            have hpl := HO5.out.place
            go_wp2_with fail
            refine (Wrap_any sCodes _ (c := 3) (by omega) _).mono ?_
            rintro e w5 ⟨A5, c5, rfl, hr5, hfar5, hb5⟩
            obtain ⟨d0', d1', f0', f1'⟩ := err_cells (HB5.out.keep hb5)
            have hsw := HB5.out.lt
            have hfar' : ∀ a, A5 = some a → w.heap.size + 1 ≤ a.block := fun a ha => by have := hfar5 a ha; omega
            have HF := Lib.hid hfar'
            have HRD := Lib.hid hr5
            have HO8 := Lib.hid (HO5.out.below hb5)
            clear hr5 hfar5 hb5 hfar' hpl
            go_wp2_with fail
            refine bodyPost_ret (v := .tuple #[.int .i64 0, .agg #[.int .i64 3, .slice A5 1 c5]]) (by simp [results, Tryz.results69, go_sem, d0', d1']) rfl ?_
            exact ⟨A5, c5, rfl, (HRD.out.far (fun a ha => by have := HF.out a ha; simp; omega) _).far (fun a ha => by have := HF.out a ha; simp; omega) _, fun a ha => by have := HF.out a ha; omega, HO8.out.errset hhi hgw _ _⟩
          · by_cases h3 : N / 2 ^ k < 24
            · skip
              have hr2 := HRN.out
              rw [if_pos (.inr (.inr h3))] at hr2
              subst hr2
              have hpl := HO5.out.place
              go_wp2_with fail
              refine (Wrap_any sCodes _ (c := 3) (by omega) _).mono ?_
              rintro e w5 ⟨A5, c5, rfl, hr5, hfar5, hb5⟩
              obtain ⟨d0', d1', f0', f1'⟩ := err_cells (HB5.out.keep hb5)
              have hsw := HB5.out.lt
              have hfar' : ∀ a, A5 = some a → w.heap.size + 1 ≤ a.block := fun a ha => by have := hfar5 a ha; omega
              have HF := Lib.hid hfar'
              have HRD := Lib.hid hr5
              have HO8 := Lib.hid (HO5.out.below hb5)
              clear hr5 hfar5 hb5 hfar' hpl
              go_wp2_with fail
              refine bodyPost_ret (v := .tuple #[.int .i64 0, .agg #[.int .i64 3, .slice A5 1 c5]]) (by simp [results, Tryz.results69, go_sem, d0', d1']) rfl ?_
              exact ⟨A5, c5, rfl, (HRD.out.far (fun a ha => by have := HF.out a ha; simp; omega) _).far (fun a ha => by have := HF.out a ha; simp; omega) _, fun a ha => by have := HF.out a ha; omega, HO8.out.errset hhi hgw _ _⟩
            · skip
              have hr2 := HRN.out
              rw [if_neg (fun h => by rcases h with h | h | h <;> omega)] at hr2
              subst hr2
              go_wp2_with fail
              go_region
              all_goals (
                go_wp2_with fail
                refine bodyPost_ret (v := .tuple #[.int .i64 N, .agg #[.int .i64 0, .slice none 0 0]]) (by simp [results, Tryz.results69, go_sem, d0, d1]) rfl ?_
                exact ⟨none, 0, rfl, Rd.nil, (fun a ha => by cases ha), (HO5.out.errset hhi hgw _ _).drew⟩)
    | succ m =>
      rcases (show 8 * b.length ≤ p + n ∨ (p + n < 8 * b.length) by omega) with hT | hT
      · have hz := HZ.out
        simp only [Co.ones] at hz
        rw [if_pos hT] at hz
        have hr := HR.out
        rw [getRice_short (HZZ.out.trans hz.symm)] at hr
        subst hr
        clear hz HR HZ
        go_wp2_with fail
        refine (RGet_short (n := 1) hb (by omega) (by omega) _ HO.out.1).mono ?_
        rintro e w1 ⟨A, cap, rfl, hr1, hfar, hb1⟩
        obtain ⟨W2, hW2⟩ : ∃ W, W = (w1.alloc (.cells #[.int .i64 1, .slice A 1 cap] 34)).alloc (.cells #[.int .i64 1, .slice A 1 cap] 34) := ⟨_, rfl⟩
        have hbc := hb1.alloc hb1.size (.cells #[.int .i64 1, .slice A 1 cap] 34)
        have hbb : Below wr.heap.size wr W2 := by rw [hW2]; exact hbc.alloc hbc.size _
        have hr2 := (hr1.alloc (.cells #[.int .i64 1, .slice A 1 cap] 34)).alloc (.cells #[.int .i64 1, .slice A 1 cap] 34)
        rw [← hW2] at hr2
        have HRD := Lib.hid hr2
        have HO9 := Lib.hid (HO.out.below hbb)
        obtain ⟨d0, d1, f0, f1⟩ := err_cells (HB.out.keep hbb)
        obtain ⟨c0, c1, _, _⟩ := err_cells (show Blk W2 w1.heap.size 34 #[.int .i64 1, .slice A 1 cap] by rw [hW2]; exact (Blk.new _ _ _).alloc _)
        have hfar' : ∀ a, A = some a → w.heap.size + 1 ≤ a.block := fun a ha => by have := hfar a ha; omega
        have HF := Lib.hid hfar'
        go_wp2_with fail
        refine (OK_any 1 _ _).mono ?_
        rintro e w' ⟨rfl, rfl⟩
        rw [← hW2]
        clear hW2 hr1 hr2 hfar hfar' hb1 hbb hbc
        go_wp2_with fail
        go_region
        all_goals (
          go_wp2_with fail
          refine bodyPost_ret (v := .tuple #[.int .i64 0, .agg #[.int .i64 1, .slice A 1 cap]]) (by simp [results, Tryz.results69, go_sem, d0, d1]) rfl ?_
          exact ⟨A, cap, rfl, (HRD.out.far (fun a ha => by have := HF.out a ha; simp; omega) _).far (fun a ha => by have := HF.out a ha; simp; omega) _, fun a ha => by have := HF.out a ha; omega, (HO9.out.errset hhi hgw _ _).drew⟩)
      · have HF := Lib.hid (RGet_ok (n := 1) hb (by omega) (by omega) _ hhr HO.out.1)
        rw [num_one] at HF
        have hbb := Bi.bit_bd b (p + n)
        obtain ⟨x, hx⟩ : ∃ x, Bi.bit b (p + n) = x := ⟨_, rfl⟩
        rw [hx] at HF hbb
        have hz := HZ.out
        simp only [Co.ones] at hz
        rw [if_neg (by omega), hx] at hz
        clear hx HZ
        rcases (show x = 1 ∨ x = 0 by omega) with rfl | rfl
        · rw [if_neg (by omega)] at hz
          have HZ := Lib.hid hz
          clear hz hbb
          go_wp2_with fail
          refine HF.out.mono ?_
          rintro e w1 ⟨rfl, ho1⟩
          obtain ⟨W2, hW⟩ : ∃ W, W = (w1.alloc (.cells #[.int .i64 0, .slice none 0 0] 34)).alloc (.cells #[.int .i64 0, .slice none 0 0] 34) := ⟨_, rfl⟩
          have hbc : Below w1.heap.size w1 W2 := by rw [hW]; exact ((Below.refl _ _).alloc (Nat.le_refl _) _).alloc (by simp) _
          have HO2 := Lib.hid ((HO.out.then_ ho1).below hbc)
          have HB2 := Lib.hid ((HB.out.chg ho1.2 (by omega)).keep hbc)
          have h6 : Blk W2 w1.heap.size 34 #[.int .i64 0, .slice none 0 0] := by rw [hW]; exact (Blk.new _ _ _).alloc _
          have H6 := Lib.hid h6
          go_wp2_with fail
          refine (OK_any 0 _ _).mono ?_
          rintro e w' ⟨rfl, rfl⟩
          rw [← hW]
          clear hW hbc ho1 h6
          go_wp2_with fail
          go_roundg m
          case measure => omega
          case rel => exact ⟨n + 1, by omega, by go_num, HZ.out, HO2.out, HB2⟩
        · rw [if_pos rfl] at hz
          have hn24 : n < 24 := by omega
          have hr := HR.out
          rw [getRice_ok (HZZ.out.trans hz.symm), restlt hn24] at hr
          have HRR := Lib.hid hr
          clear hbb hr hz HR
          go_wp2_with fail
          refine HF.out.mono ?_
          rintro e w1 ⟨rfl, ho1⟩
          obtain ⟨W2, hW⟩ : ∃ W, W = (w1.alloc (.cells #[.int .i64 0, .slice none 0 0] 34)).alloc (.cells #[.int .i64 0, .slice none 0 0] 34) := ⟨_, rfl⟩
          have hbc : Below w1.heap.size w1 W2 := by rw [hW]; exact ((Below.refl _ _).alloc (Nat.le_refl _) _).alloc (by simp) _
          have HO2 := Lib.hid ((HO.out.then_ ho1).below hbc)
          have HB2 := Lib.hid ((HB.out.chg ho1.2 (by omega)).keep hbc)
          have h6 : Blk W2 w1.heap.size 34 #[.int .i64 0, .slice none 0 0] := by rw [hW]; exact (Blk.new _ _ _).alloc _
          have H6 := Lib.hid h6
          go_wp2_with fail
          refine (OK_any 0 _ _).mono ?_
          rintro e w' ⟨rfl, rfl⟩
          rw [← hW]
          clear hW hbc ho1 h6
          have hs2 := HB2.out.lt
          have hh2 : hi ≤ W2.heap.size := by omega
          clear HF H6
          have hnk : (0 : Int) ≤ n * 2 ^ k ∧ (n : Int) * 2 ^ k ≤ 24 * 32768 := by
            refine ⟨Int.mul_nonneg (by omega) (by omega), ?_⟩
            have h1 : (n : Int) * 2 ^ k ≤ 24 * 2 ^ k := Int.mul_le_mul_of_nonneg_right (by omega) (by omega)
            omega
          go_wp2_with fail
          rcases (show 8 * b.length < p + n + 1 + k ∨ p + n + 1 + k ≤ 8 * b.length by omega) with hs | hs
          · have hr' := HRR.out
            rw [if_pos hs] at hr'
            subst hr'
            refine (RGet_short (n := k) hb (by omega) hs _ HO2.out.1).mono ?_
            rintro e w1 ⟨A, cap, rfl, hr1, hfar, hb1⟩
            obtain ⟨W4, hW4⟩ : ∃ W, W = (w1.alloc (.cells #[.int .i64 1, .slice A 1 cap] 34)).alloc (.cells #[.int .i64 1, .slice A 1 cap] 34) := ⟨_, rfl⟩
            have hbc := hb1.alloc hb1.size (.cells #[.int .i64 1, .slice A 1 cap] 34)
            have hbb : Below W2.heap.size W2 W4 := by rw [hW4]; exact hbc.alloc hbc.size _
            have hr2 := (hr1.alloc (.cells #[.int .i64 1, .slice A 1 cap] 34)).alloc (.cells #[.int .i64 1, .slice A 1 cap] 34)
            rw [← hW4] at hr2
            have HRD := Lib.hid hr2
            have HO9 := Lib.hid (HO2.out.below hbb)
            obtain ⟨d0, d1, f0, f1⟩ := err_cells (HB2.out.keep hbb)
            obtain ⟨c0, c1, _, _⟩ := err_cells (show Blk W4 w1.heap.size 34 #[.int .i64 1, .slice A 1 cap] by rw [hW4]; exact (Blk.new _ _ _).alloc _)
            have hfar' : ∀ a, A = some a → w.heap.size + 1 ≤ a.block := fun a ha => by have := hfar a ha; omega
            have HF := Lib.hid hfar'
            go_wp2_with fail
            refine (OK_any 1 _ _).mono ?_
            rintro e w' ⟨rfl, rfl⟩
            rw [← hW4]
            clear hW4 hr1 hr2 hfar hfar' hb1 hbb hbc
            go_wp2_with fail
            go_region
            all_goals (
              go_wp2_with fail
              refine bodyPost_ret (v := .tuple #[.int .i64 0, .agg #[.int .i64 1, .slice A 1 cap]]) (by simp [results, Tryz.results69, go_sem, d0, d1]) rfl ?_
              exact ⟨A, cap, rfl, (HRD.out.far (fun a ha => by have := HF.out a ha; simp; omega) _).far (fun a ha => by have := HF.out a ha; simp; omega) _, fun a ha => by have := HF.out a ha; omega, (HO9.out.errset hhi hgw _ _).drew⟩)
          · have hr' := HRR.out
            rw [if_neg (by omega)] at hr'
            have hnb := Bi.num_bd b (p + n + 1) k
            refine (RGet_ok (n := k) hb (by omega) hs _ hh2 HO2.out.1).mono ?_
            obtain ⟨N, hN⟩ : ∃ N, Bi.num b (p + n + 1) k = N := ⟨_, rfl⟩
            rw [hN] at hnb hr' ⊢
            have HRN := Lib.hid hr'
            clear hN hr'
            rintro e w1 ⟨rfl, ho1⟩
            obtain ⟨W5, hW⟩ : ∃ W, W = (w1.alloc (.cells #[.int .i64 0, .slice none 0 0] 34)).alloc (.cells #[.int .i64 0, .slice none 0 0] 34) := ⟨_, rfl⟩
            have hbc : Below w1.heap.size w1 W5 := by rw [hW]; exact ((Below.refl _ _).alloc (Nat.le_refl _) _).alloc (by simp) _
            have HO5 := Lib.hid ((HO2.out.then_ ho1).below hbc)
            have HB5 := Lib.hid ((HB2.out.chg ho1.2 (by omega)).keep hbc)
            have h6 : Blk W5 w1.heap.size 34 #[.int .i64 0, .slice none 0 0] := by rw [hW]; exact (Blk.new _ _ _).alloc _
            have H6 := Lib.hid h6
            go_wp2_with fail
            refine (OK_any 0 _ _).mono ?_
            rintro e w' ⟨rfl, rfl⟩
            rw [← hW]
            clear hW hbc ho1 h6
            obtain ⟨d0, d1, f0, f1⟩ := err_cells HB5.out
            obtain ⟨c0, c1, _, _⟩ := err_cells H6.out
            obtain ⟨M, hM⟩ : ∃ M, (n : Int) * 2 ^ k = M := ⟨_, rfl⟩
            rw [hM] at hnk HRN
            rw [Int.add_comm N M] at HRN
            by_cases h1 : M + N > most
            · skip
              have hr2 := HRN.out
              rw [if_pos (.inl h1)] at hr2
              subst hr2
              have hpl := HO5.out.place
              go_wp2_with fail
              refine (Wrap_any sCodes _ (c := 3) (by omega) _).mono ?_
              rintro e w5 ⟨A5, c5, rfl, hr5, hfar5, hb5⟩
              obtain ⟨d0', d1', f0', f1'⟩ := err_cells (HB5.out.keep hb5)
              have hsw := HB5.out.lt
              have hfar' : ∀ a, A5 = some a → w.heap.size + 1 ≤ a.block := fun a ha => by have := hfar5 a ha; omega
              have HF := Lib.hid hfar'
              have HRD := Lib.hid hr5
              have HO8 := Lib.hid (HO5.out.below hb5)
              clear hr5 hfar5 hb5 hfar' hpl
              go_wp2_with fail
              refine bodyPost_ret (v := .tuple #[.int .i64 0, .agg #[.int .i64 3, .slice A5 1 c5]]) (by simp [results, Tryz.results69, go_sem, d0', d1']) rfl ?_
              exact ⟨A5, c5, rfl, (HRD.out.far (fun a ha => by have := HF.out a ha; simp; omega) _).far (fun a ha => by have := HF.out a ha; simp; omega) _, fun a ha => by have := HF.out a ha; omega, HO8.out.errset hhi hgw _ _⟩
            · have h2 : ¬ M + N > 1073741824 := by omega
              have hr2 := HRN.out
              rw [if_neg (fun h => by rcases h with h | h <;> omega)] at hr2
              subst hr2
              go_wp2_with fail
              go_region
              all_goals (
                go_wp2_with fail
                refine bodyPost_ret (v := .tuple #[.int .i64 (M + N), .agg #[.int .i64 0, .slice none 0 0]]) (by simp [results, Tryz.results69, go_sem, d0, d1]) rfl ?_
                exact ⟨none, 0, rfl, Rd.nil, (fun a ha => by cases ha), (HO5.out.errset hhi hgw _ _).drew⟩)

end Go.Proofs.YtnccebfapihpjaaGreatDoor
