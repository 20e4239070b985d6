/- Contracts of the document's package kinref3: GetUe, GetSe, GetRice. -/
import Derived.Test.YtdanjeoiandjfaaDoorCodesRR
namespace Go.Proofs.YtdanjeoiandjfaaDoor
open Go Go.RowKit Go.Extern.Stop Go.Stop Go.Extern

set_option maxHeartbeats 2000000 in
theorem RGetUe_any {lo hi g : Nat} {b : List Int} {p : Nat} (most : Int) (hb : b.length ≤ 1000000000) (w : World) (hhi : hi ≤ w.heap.size) (h : RdrT 50 lo hi w g b p) :
    Calls Tryd.prog 47 #[.pointer (some ⟨g, 0, none⟩), .int .i64 most] w (RGOut lo hi w g b (Co.getUe b (8 * b.length) p most)) := by
  have hgw := h.lt
  have hz := Blk.new w 60 #[.int .i64 0, .slice none 0 0]
  have hb0 : Below w.heap.size w (w.alloc (.cells #[.int .i64 0, .slice none 0 0] 60)) := (Below.refl _ _).alloc (Nat.le_refl _) _
  have H : Hid (ROut 50 lo hi w g b p (w.alloc (.cells #[.int .i64 0, .slice none 0 0] 60))) := ⟨h.keep hb0, Chg.of_below hb0⟩
  have HZ0 := Lib.hid hz
  have HU := Lib.hid (Rue_any hb _ (by simp; omega) H.out.1)
  clear h hz hb0
  unfold Co.getUe
  obtain ⟨U, hU⟩ : ∃ U, Co.ue b (8 * b.length) p = U := ⟨_, rfl⟩
  rw [hU] at HU ⊢
  obtain ⟨r, q⟩ := U
  cases r with
  | num v =>
    obtain ⟨hv0, hv1⟩ := ue_bd hU
    clear hU
    by_cases hm : v > most
    · simp only
      rw [if_pos (.inl hm)]
      go_enter Tryd.func47, Tryd.ntmps47
      go_wp2_with fail
      refine HU.out.mono ?_
      rintro e w1 ⟨A, cap, rfl, hr1, hfar, ho1⟩
      obtain ⟨W2, hW2⟩ : ∃ W, W = (w1.alloc (.cells #[.int .i64 0, .slice A 0 cap] 60)).alloc (.cells #[.int .i64 0, .slice A 0 cap] 60) := ⟨_, rfl⟩
      have hbc : Below w1.heap.size w1 W2 := by rw [hW2]; exact ((Below.refl _ _).alloc (Nat.le_refl _) _).alloc (by simp) _
      have hr2 := (hr1.alloc (.cells #[.int .i64 0, .slice A 0 cap] 60)).alloc (.cells #[.int .i64 0, .slice A 0 cap] 60)
      rw [← hW2] at hr2
      have HRD := Lib.hid hr2
      have HO9 := Lib.hid ((H.out.then_ ho1).below hbc)
      have HB9 := Lib.hid ((HZ0.out.chg ho1.2 (by omega)).keep hbc)
      obtain ⟨d0, d1, f0, f1⟩ := err_cells HB9.out
      obtain ⟨c0, c1, _, _⟩ := err_cells (show Blk W2 w1.heap.size 60 #[.int .i64 0, .slice A 0 cap] by rw [hW2]; exact (Blk.new _ _ _).alloc _)
      have hfar' : ∀ a, A = some a → w.heap.size + 1 ≤ a.block := fun a ha => by have := hfar a ha; simpa using this
      have HF := Lib.hid hfar'
      simp only [gotV, gotC, gotP, List.length_nil]
      go_wp2_with fail
      refine (OK_any 0 _ _).mono ?_
      rintro e w' ⟨rfl, rfl⟩
      rw [← hW2]
      clear hW2 hr1 hr2 hfar hfar' ho1 hbc
      clear HRD HF
      have hpl := HO9.out.place
      go_wp2_with fail
      refine (Wrap_any sCodes _ (c := 3) (by omega) _).mono ?_
      rintro e w5 ⟨A5, c5, rfl, hr5, hfar5, hb5⟩
      obtain ⟨d0', d1', f0', f1'⟩ := err_cells (HB9.out.keep hb5)
      have hsw := HB9.out.lt
      have hfar' : ∀ a, A5 = some a → w.heap.size + 1 ≤ a.block := fun a ha => by have := hfar5 a ha; omega
      have HF := Lib.hid hfar'
      have HRD := Lib.hid hr5
      have HO8 := Lib.hid (HO9.out.below hb5)
      clear hr5 hfar5 hb5 hfar' hpl
      go_wp2_with fail
      refine bodyPost_ret (v := .tuple #[.int .i64 0, .agg #[.int .i64 3, .slice A5 1 c5]]) (by simp [results, Tryd.results47, go_sem, d0', d1']) rfl ?_
      exact ⟨A5, c5, rfl, (HRD.out.far (fun a ha => by have := HF.out a ha; simp; omega) _).far (fun a ha => by have := HF.out a ha; simp; omega) _, fun a ha => by have := HF.out a ha; omega, HO8.out.errset hhi hgw _ _⟩
    · by_cases ht : v > 1073741824
      · simp only
        rw [if_pos (.inr ht)]
        go_enter Tryd.func47, Tryd.ntmps47
        go_wp2_with fail
        refine HU.out.mono ?_
        rintro e w1 ⟨A, cap, rfl, hr1, hfar, ho1⟩
        obtain ⟨W2, hW2⟩ : ∃ W, W = (w1.alloc (.cells #[.int .i64 0, .slice A 0 cap] 60)).alloc (.cells #[.int .i64 0, .slice A 0 cap] 60) := ⟨_, rfl⟩
        have hbc : Below w1.heap.size w1 W2 := by rw [hW2]; exact ((Below.refl _ _).alloc (Nat.le_refl _) _).alloc (by simp) _
        have hr2 := (hr1.alloc (.cells #[.int .i64 0, .slice A 0 cap] 60)).alloc (.cells #[.int .i64 0, .slice A 0 cap] 60)
        rw [← hW2] at hr2
        have HRD := Lib.hid hr2
        have HO9 := Lib.hid ((H.out.then_ ho1).below hbc)
        have HB9 := Lib.hid ((HZ0.out.chg ho1.2 (by omega)).keep hbc)
        obtain ⟨d0, d1, f0, f1⟩ := err_cells HB9.out
        obtain ⟨c0, c1, _, _⟩ := err_cells (show Blk W2 w1.heap.size 60 #[.int .i64 0, .slice A 0 cap] by rw [hW2]; exact (Blk.new _ _ _).alloc _)
        have hfar' : ∀ a, A = some a → w.heap.size + 1 ≤ a.block := fun a ha => by have := hfar a ha; simpa using this
        have HF := Lib.hid hfar'
        simp only [gotV, gotC, gotP, List.length_nil]
        go_wp2_with fail
        refine (OK_any 0 _ _).mono ?_
        rintro e w' ⟨rfl, rfl⟩
        rw [← hW2]
        clear hW2 hr1 hr2 hfar hfar' ho1 hbc
        clear HRD HF
        have hpl := HO9.out.place
        go_wp2_with fail
        refine (Wrap_any sCodes _ (c := 3) (by omega) _).mono ?_
        rintro e w5 ⟨A5, c5, rfl, hr5, hfar5, hb5⟩
        obtain ⟨d0', d1', f0', f1'⟩ := err_cells (HB9.out.keep hb5)
        have hsw := HB9.out.lt
        have hfar' : ∀ a, A5 = some a → w.heap.size + 1 ≤ a.block := fun a ha => by have := hfar5 a ha; omega
        have HF := Lib.hid hfar'
        have HRD := Lib.hid hr5
        have HO8 := Lib.hid (HO9.out.below hb5)
        clear hr5 hfar5 hb5 hfar' hpl
        go_wp2_with fail
        refine bodyPost_ret (v := .tuple #[.int .i64 0, .agg #[.int .i64 3, .slice A5 1 c5]]) (by simp [results, Tryd.results47, go_sem, d0', d1']) rfl ?_
        exact ⟨A5, c5, rfl, (HRD.out.far (fun a ha => by have := HF.out a ha; simp; omega) _).far (fun a ha => by have := HF.out a ha; simp; omega) _, fun a ha => by have := HF.out a ha; omega, HO8.out.errset hhi hgw _ _⟩
      · simp only
        rw [if_neg (by omega)]
        go_enter Tryd.func47, Tryd.ntmps47
        go_wp2_with fail
        refine HU.out.mono ?_
        rintro e w1 ⟨A, cap, rfl, hr1, hfar, ho1⟩
        obtain ⟨W2, hW2⟩ : ∃ W, W = (w1.alloc (.cells #[.int .i64 0, .slice A 0 cap] 60)).alloc (.cells #[.int .i64 0, .slice A 0 cap] 60) := ⟨_, rfl⟩
        have hbc : Below w1.heap.size w1 W2 := by rw [hW2]; exact ((Below.refl _ _).alloc (Nat.le_refl _) _).alloc (by simp) _
        have hr2 := (hr1.alloc (.cells #[.int .i64 0, .slice A 0 cap] 60)).alloc (.cells #[.int .i64 0, .slice A 0 cap] 60)
        rw [← hW2] at hr2
        have HRD := Lib.hid hr2
        have HO9 := Lib.hid ((H.out.then_ ho1).below hbc)
        have HB9 := Lib.hid ((HZ0.out.chg ho1.2 (by omega)).keep hbc)
        obtain ⟨d0, d1, f0, f1⟩ := err_cells HB9.out
        obtain ⟨c0, c1, _, _⟩ := err_cells (show Blk W2 w1.heap.size 60 #[.int .i64 0, .slice A 0 cap] by rw [hW2]; exact (Blk.new _ _ _).alloc _)
        have hfar' : ∀ a, A = some a → w.heap.size + 1 ≤ a.block := fun a ha => by have := hfar a ha; simpa using this
        have HF := Lib.hid hfar'
        simp only [gotV, gotC, gotP, List.length_nil]
        go_wp2_with fail
        refine (OK_any 0 _ _).mono ?_
        rintro e w' ⟨rfl, rfl⟩
        rw [← hW2]
        clear hW2 hr1 hr2 hfar hfar' ho1 hbc
        go_wp2_with fail
        go_region
        all_goals (
          go_wp2_with fail
          refine bodyPost_ret (v := .tuple #[.int .i64 v, .agg #[.int .i64 0, .slice A 0 cap]]) (by simp [results, Tryd.results47, go_sem, d0, d1]) rfl ?_
          exact ⟨A, cap, rfl, (HRD.out.far (fun a ha => by have := HF.out a ha; simp; omega) _).far (fun a ha => by have := HF.out a ha; simp; omega) _, fun a ha => by have := HF.out a ha; omega, (HO9.out.errset hhi hgw _ _).drew⟩)
  | short a =>
    clear hU
    simp only
    go_enter Tryd.func47, Tryd.ntmps47
    go_wp2_with fail
    refine HU.out.mono ?_
    rintro e w1 ⟨A, cap, rfl, hr1, hfar, ho1⟩
    obtain ⟨W2, hW2⟩ : ∃ W, W = (w1.alloc (.cells #[.int .i64 1, .slice A 1 cap] 60)).alloc (.cells #[.int .i64 1, .slice A 1 cap] 60) := ⟨_, rfl⟩
    have hbc : Below w1.heap.size w1 W2 := by rw [hW2]; exact ((Below.refl _ _).alloc (Nat.le_refl _) _).alloc (by simp) _
    have hr2 := (hr1.alloc (.cells #[.int .i64 1, .slice A 1 cap] 60)).alloc (.cells #[.int .i64 1, .slice A 1 cap] 60)
    rw [← hW2] at hr2
    have HRD := Lib.hid hr2
    have HO9 := Lib.hid ((H.out.then_ ho1).below hbc)
    have HB9 := Lib.hid ((HZ0.out.chg ho1.2 (by omega)).keep hbc)
    obtain ⟨d0, d1, f0, f1⟩ := err_cells HB9.out
    obtain ⟨c0, c1, _, _⟩ := err_cells (show Blk W2 w1.heap.size 60 #[.int .i64 1, .slice A 1 cap] by rw [hW2]; exact (Blk.new _ _ _).alloc _)
    have hfar' : ∀ a, A = some a → w.heap.size + 1 ≤ a.block := fun a ha => by have := hfar a ha; simpa using this
    have HF := Lib.hid hfar'
    simp only [gotV, gotC, gotP, List.length_cons, List.length_nil, Nat.zero_add]
    go_wp2_with fail
    refine (OK_any 1 _ _).mono ?_
    rintro e w' ⟨rfl, rfl⟩
    rw [← hW2]
    clear hW2 hr1 hr2 hfar hfar' ho1 hbc
    go_wp2_with fail
    go_region
    all_goals (
      go_wp2_with fail
      refine bodyPost_ret (v := .tuple #[.int .i64 0, .agg #[.int .i64 1, .slice A 1 cap]]) (by simp [results, Tryd.results47, go_sem, d0, d1]) rfl ?_
      exact ⟨A, cap, rfl, (HRD.out.far (fun a ha => by have := HF.out a ha; simp; omega) _).far (fun a ha => by have := HF.out a ha; simp; omega) _, fun a ha => by have := HF.out a ha; omega, (HO9.out.errset hhi hgw _ _).drew⟩)
  | range a =>
    clear hU
    simp only
    go_enter Tryd.func47, Tryd.ntmps47
    go_wp2_with fail
    refine HU.out.mono ?_
    rintro e w1 ⟨A, cap, rfl, hr1, hfar, ho1⟩
    obtain ⟨W2, hW2⟩ : ∃ W, W = (w1.alloc (.cells #[.int .i64 3, .slice A 1 cap] 60)).alloc (.cells #[.int .i64 3, .slice A 1 cap] 60) := ⟨_, rfl⟩
    have hbc : Below w1.heap.size w1 W2 := by rw [hW2]; exact ((Below.refl _ _).alloc (Nat.le_refl _) _).alloc (by simp) _
    have hr2 := (hr1.alloc (.cells #[.int .i64 3, .slice A 1 cap] 60)).alloc (.cells #[.int .i64 3, .slice A 1 cap] 60)
    rw [← hW2] at hr2
    have HRD := Lib.hid hr2
    have HO9 := Lib.hid ((H.out.then_ ho1).below hbc)
    have HB9 := Lib.hid ((HZ0.out.chg ho1.2 (by omega)).keep hbc)
    obtain ⟨d0, d1, f0, f1⟩ := err_cells HB9.out
    obtain ⟨c0, c1, _, _⟩ := err_cells (show Blk W2 w1.heap.size 60 #[.int .i64 3, .slice A 1 cap] by rw [hW2]; exact (Blk.new _ _ _).alloc _)
    have hfar' : ∀ a, A = some a → w.heap.size + 1 ≤ a.block := fun a ha => by have := hfar a ha; simpa using this
    have HF := Lib.hid hfar'
    simp only [gotV, gotC, gotP, List.length_cons, List.length_nil, Nat.zero_add]
    go_wp2_with fail
    refine (OK_any 3 _ _).mono ?_
    rintro e w' ⟨rfl, rfl⟩
    rw [← hW2]
    clear hW2 hr1 hr2 hfar hfar' ho1 hbc
    go_wp2_with fail
    go_region
    all_goals (
      go_wp2_with fail
      refine bodyPost_ret (v := .tuple #[.int .i64 0, .agg #[.int .i64 3, .slice A 1 cap]]) (by simp [results, Tryd.results47, go_sem, d0, d1]) rfl ?_
      exact ⟨A, cap, rfl, (HRD.out.far (fun a ha => by have := HF.out a ha; simp; omega) _).far (fun a ha => by have := HF.out a ha; simp; omega) _, fun a ha => by have := HF.out a ha; omega, (HO9.out.errset hhi hgw _ _).drew⟩)

set_option maxHeartbeats 2000000 in
theorem RGetSe_any {lo hi g : Nat} {b : List Int} {p : Nat} (most : Int) (hb : b.length ≤ 1000000000) (w : World) (hhi : hi ≤ w.heap.size) (h : RdrT 50 lo hi w g b p) :
    Calls Tryd.prog 48 #[.pointer (some ⟨g, 0, none⟩), .int .i64 most] w (RGOut lo hi w g b (Co.getSe b (8 * b.length) p most)) := by
  have hgw := h.lt
  have hz := Blk.new w 60 #[.int .i64 0, .slice none 0 0]
  have hb0 : Below w.heap.size w (w.alloc (.cells #[.int .i64 0, .slice none 0 0] 60)) := (Below.refl _ _).alloc (Nat.le_refl _) _
  have H : Hid (ROut 50 lo hi w g b p (w.alloc (.cells #[.int .i64 0, .slice none 0 0] 60))) := ⟨h.keep hb0, Chg.of_below hb0⟩
  have HZ0 := Lib.hid hz
  have HU := Lib.hid (Rue_any hb _ (by simp; omega) H.out.1)
  clear h hz hb0
  unfold Co.getSe
  obtain ⟨U, hU⟩ : ∃ U, Co.ue b (8 * b.length) p = U := ⟨_, rfl⟩
  rw [hU] at HU ⊢
  obtain ⟨r, q⟩ := U
  cases r with
  | num u =>
    obtain ⟨hv0, hv1⟩ := ue_bd hU
    clear hU
    have hub := unfold_bd hv0 hv1
    obtain ⟨v, hv⟩ : ∃ v, Co.unfold' u = v := ⟨_, rfl⟩
    simp only
    rw [hv] at hub ⊢
    obtain ⟨z, hz⟩ : ∃ z, max v (-v) = z := ⟨_, rfl⟩
    rw [hz]
    have HV := Lib.hid hv
    have hz1 : v ≤ z ∧ -v ≤ z := by omega
    clear hv
    by_cases hm : z > most
    · rw [if_pos (.inl hm)]
      go_enter Tryd.func48, Tryd.ntmps48
      go_wp2_with fail
      refine HU.out.mono ?_
      rintro e w1 ⟨A, cap, rfl, hr1, hfar, ho1⟩
      obtain ⟨W2, hW2⟩ : ∃ W, W = (w1.alloc (.cells #[.int .i64 0, .slice A 0 cap] 60)).alloc (.cells #[.int .i64 0, .slice A 0 cap] 60) := ⟨_, rfl⟩
      have hbc : Below w1.heap.size w1 W2 := by rw [hW2]; exact ((Below.refl _ _).alloc (Nat.le_refl _) _).alloc (by simp) _
      have hr2 := (hr1.alloc (.cells #[.int .i64 0, .slice A 0 cap] 60)).alloc (.cells #[.int .i64 0, .slice A 0 cap] 60)
      rw [← hW2] at hr2
      have HRD := Lib.hid hr2
      have HO9 := Lib.hid ((H.out.then_ ho1).below hbc)
      have HB9 := Lib.hid ((HZ0.out.chg ho1.2 (by omega)).keep hbc)
      obtain ⟨d0, d1, f0, f1⟩ := err_cells HB9.out
      obtain ⟨c0, c1, _, _⟩ := err_cells (show Blk W2 w1.heap.size 60 #[.int .i64 0, .slice A 0 cap] by rw [hW2]; exact (Blk.new _ _ _).alloc _)
      have hfar' : ∀ a, A = some a → w.heap.size + 1 ≤ a.block := fun a ha => by have := hfar a ha; simpa using this
      have HF := Lib.hid hfar'
      simp only [gotV, gotC, gotP, List.length_nil]
      go_wp2_with fail
      refine (OK_any 0 _ _).mono ?_
      rintro e w' ⟨rfl, rfl⟩
      rw [← hW2]
      clear hW2 hr1 hr2 hfar hfar' ho1 hbc
      clear HRD HF
      have hpl := HO9.out.place
      go_wp2_with fail
      refine (RUnfold_any _ ⟨by omega, by omega⟩ _).mono ?_
      rintro e w3 ⟨rfl, rfl⟩
      rw [HV.out]
      go_wp2_with fail
      refine (Wrap_any sCodes _ (c := 3) (by omega) _).mono ?_
      rintro e w5 ⟨A5, c5, rfl, hr5, hfar5, hb5⟩
      obtain ⟨d0', d1', f0', f1'⟩ := err_cells (HB9.out.keep hb5)
      have hsw := HB9.out.lt
      have hfar' : ∀ a, A5 = some a → w.heap.size + 1 ≤ a.block := fun a ha => by have := hfar5 a ha; omega
      have HF := Lib.hid hfar'
      have HRD := Lib.hid hr5
      have HO8 := Lib.hid (HO9.out.below hb5)
      clear hr5 hfar5 hb5 hfar' hpl
      go_wp2_with fail
      refine bodyPost_ret (v := .tuple #[.int .i64 0, .agg #[.int .i64 3, .slice A5 1 c5]]) (by simp [results, Tryd.results48, go_sem, d0', d1']) rfl ?_
      exact ⟨A5, c5, rfl, (HRD.out.far (fun a ha => by have := HF.out a ha; simp; omega) _).far (fun a ha => by have := HF.out a ha; simp; omega) _, fun a ha => by have := HF.out a ha; omega, HO8.out.errset hhi hgw _ _⟩
    · by_cases ht : z > 536870912
      · rw [if_pos (.inr ht)]
        go_enter Tryd.func48, Tryd.ntmps48
        go_wp2_with fail
        refine HU.out.mono ?_
        rintro e w1 ⟨A, cap, rfl, hr1, hfar, ho1⟩
        obtain ⟨W2, hW2⟩ : ∃ W, W = (w1.alloc (.cells #[.int .i64 0, .slice A 0 cap] 60)).alloc (.cells #[.int .i64 0, .slice A 0 cap] 60) := ⟨_, rfl⟩
        have hbc : Below w1.heap.size w1 W2 := by rw [hW2]; exact ((Below.refl _ _).alloc (Nat.le_refl _) _).alloc (by simp) _
        have hr2 := (hr1.alloc (.cells #[.int .i64 0, .slice A 0 cap] 60)).alloc (.cells #[.int .i64 0, .slice A 0 cap] 60)
        rw [← hW2] at hr2
        have HRD := Lib.hid hr2
        have HO9 := Lib.hid ((H.out.then_ ho1).below hbc)
        have HB9 := Lib.hid ((HZ0.out.chg ho1.2 (by omega)).keep hbc)
        obtain ⟨d0, d1, f0, f1⟩ := err_cells HB9.out
        obtain ⟨c0, c1, _, _⟩ := err_cells (show Blk W2 w1.heap.size 60 #[.int .i64 0, .slice A 0 cap] by rw [hW2]; exact (Blk.new _ _ _).alloc _)
        have hfar' : ∀ a, A = some a → w.heap.size + 1 ≤ a.block := fun a ha => by have := hfar a ha; simpa using this
        have HF := Lib.hid hfar'
        simp only [gotV, gotC, gotP, List.length_nil]
        go_wp2_with fail
        refine (OK_any 0 _ _).mono ?_
        rintro e w' ⟨rfl, rfl⟩
        rw [← hW2]
        clear hW2 hr1 hr2 hfar hfar' ho1 hbc
        clear HRD HF
        have hpl := HO9.out.place
        go_wp2_with fail
        refine (RUnfold_any _ ⟨by omega, by omega⟩ _).mono ?_
        rintro e w3 ⟨rfl, rfl⟩
        rw [HV.out]
        go_wp2_with fail
        refine (Wrap_any sCodes _ (c := 3) (by omega) _).mono ?_
        rintro e w5 ⟨A5, c5, rfl, hr5, hfar5, hb5⟩
        obtain ⟨d0', d1', f0', f1'⟩ := err_cells (HB9.out.keep hb5)
        have hsw := HB9.out.lt
        have hfar' : ∀ a, A5 = some a → w.heap.size + 1 ≤ a.block := fun a ha => by have := hfar5 a ha; omega
        have HF := Lib.hid hfar'
        have HRD := Lib.hid hr5
        have HO8 := Lib.hid (HO9.out.below hb5)
        clear hr5 hfar5 hb5 hfar' hpl
        go_wp2_with fail
        refine bodyPost_ret (v := .tuple #[.int .i64 0, .agg #[.int .i64 3, .slice A5 1 c5]]) (by simp [results, Tryd.results48, go_sem, d0', d1']) rfl ?_
        exact ⟨A5, c5, rfl, (HRD.out.far (fun a ha => by have := HF.out a ha; simp; omega) _).far (fun a ha => by have := HF.out a ha; simp; omega) _, fun a ha => by have := HF.out a ha; omega, HO8.out.errset hhi hgw _ _⟩
      · rw [if_neg (by omega)]
        go_enter Tryd.func48, Tryd.ntmps48
        go_wp2_with fail
        refine HU.out.mono ?_
        rintro e w1 ⟨A, cap, rfl, hr1, hfar, ho1⟩
        obtain ⟨W2, hW2⟩ : ∃ W, W = (w1.alloc (.cells #[.int .i64 0, .slice A 0 cap] 60)).alloc (.cells #[.int .i64 0, .slice A 0 cap] 60) := ⟨_, rfl⟩
        have hbc : Below w1.heap.size w1 W2 := by rw [hW2]; exact ((Below.refl _ _).alloc (Nat.le_refl _) _).alloc (by simp) _
        have hr2 := (hr1.alloc (.cells #[.int .i64 0, .slice A 0 cap] 60)).alloc (.cells #[.int .i64 0, .slice A 0 cap] 60)
        rw [← hW2] at hr2
        have HRD := Lib.hid hr2
        have HO9 := Lib.hid ((H.out.then_ ho1).below hbc)
        have HB9 := Lib.hid ((HZ0.out.chg ho1.2 (by omega)).keep hbc)
        obtain ⟨d0, d1, f0, f1⟩ := err_cells HB9.out
        obtain ⟨c0, c1, _, _⟩ := err_cells (show Blk W2 w1.heap.size 60 #[.int .i64 0, .slice A 0 cap] by rw [hW2]; exact (Blk.new _ _ _).alloc _)
        have hfar' : ∀ a, A = some a → w.heap.size + 1 ≤ a.block := fun a ha => by have := hfar a ha; simpa using this
        have HF := Lib.hid hfar'
        simp only [gotV, gotC, gotP, List.length_nil]
        go_wp2_with fail
        refine (OK_any 0 _ _).mono ?_
        rintro e w' ⟨rfl, rfl⟩
        rw [← hW2]
        clear hW2 hr1 hr2 hfar hfar' ho1 hbc
        go_wp2_with fail
        refine (RUnfold_any _ ⟨by omega, by omega⟩ _).mono ?_
        rintro e w3 ⟨rfl, rfl⟩
        rw [HV.out]
        go_wp2_with fail
        go_region
        all_goals (
          go_wp2_with fail
          refine bodyPost_ret (v := .tuple #[.int .i64 v, .agg #[.int .i64 0, .slice A 0 cap]]) (by simp [results, Tryd.results48, go_sem, d0, d1]) rfl ?_
          exact ⟨A, cap, rfl, (HRD.out.far (fun a ha => by have := HF.out a ha; simp; omega) _).far (fun a ha => by have := HF.out a ha; simp; omega) _, fun a ha => by have := HF.out a ha; omega, (HO9.out.errset hhi hgw _ _).drew⟩)
  | short a =>
    clear hU
    simp only
    go_enter Tryd.func48, Tryd.ntmps48
    go_wp2_with fail
    refine HU.out.mono ?_
    rintro e w1 ⟨A, cap, rfl, hr1, hfar, ho1⟩
    obtain ⟨W2, hW2⟩ : ∃ W, W = (w1.alloc (.cells #[.int .i64 1, .slice A 1 cap] 60)).alloc (.cells #[.int .i64 1, .slice A 1 cap] 60) := ⟨_, rfl⟩
    have hbc : Below w1.heap.size w1 W2 := by rw [hW2]; exact ((Below.refl _ _).alloc (Nat.le_refl _) _).alloc (by simp) _
    have hr2 := (hr1.alloc (.cells #[.int .i64 1, .slice A 1 cap] 60)).alloc (.cells #[.int .i64 1, .slice A 1 cap] 60)
    rw [← hW2] at hr2
    have HRD := Lib.hid hr2
    have HO9 := Lib.hid ((H.out.then_ ho1).below hbc)
    have HB9 := Lib.hid ((HZ0.out.chg ho1.2 (by omega)).keep hbc)
    obtain ⟨d0, d1, f0, f1⟩ := err_cells HB9.out
    obtain ⟨c0, c1, _, _⟩ := err_cells (show Blk W2 w1.heap.size 60 #[.int .i64 1, .slice A 1 cap] by rw [hW2]; exact (Blk.new _ _ _).alloc _)
    have hfar' : ∀ a, A = some a → w.heap.size + 1 ≤ a.block := fun a ha => by have := hfar a ha; simpa using this
    have HF := Lib.hid hfar'
    simp only [gotV, gotC, gotP, List.length_cons, List.length_nil, Nat.zero_add]
    go_wp2_with fail
    refine (OK_any 1 _ _).mono ?_
    rintro e w' ⟨rfl, rfl⟩
    rw [← hW2]
    clear hW2 hr1 hr2 hfar hfar' ho1 hbc
    go_wp2_with fail
    go_region
    all_goals (
      go_wp2_with fail
      refine bodyPost_ret (v := .tuple #[.int .i64 0, .agg #[.int .i64 1, .slice A 1 cap]]) (by simp [results, Tryd.results48, go_sem, d0, d1]) rfl ?_
      exact ⟨A, cap, rfl, (HRD.out.far (fun a ha => by have := HF.out a ha; simp; omega) _).far (fun a ha => by have := HF.out a ha; simp; omega) _, fun a ha => by have := HF.out a ha; omega, (HO9.out.errset hhi hgw _ _).drew⟩)
  | range a =>
    clear hU
    simp only
    go_enter Tryd.func48, Tryd.ntmps48
    go_wp2_with fail
    refine HU.out.mono ?_
    rintro e w1 ⟨A, cap, rfl, hr1, hfar, ho1⟩
    obtain ⟨W2, hW2⟩ : ∃ W, W = (w1.alloc (.cells #[.int .i64 3, .slice A 1 cap] 60)).alloc (.cells #[.int .i64 3, .slice A 1 cap] 60) := ⟨_, rfl⟩
    have hbc : Below w1.heap.size w1 W2 := by rw [hW2]; exact ((Below.refl _ _).alloc (Nat.le_refl _) _).alloc (by simp) _
    have hr2 := (hr1.alloc (.cells #[.int .i64 3, .slice A 1 cap] 60)).alloc (.cells #[.int .i64 3, .slice A 1 cap] 60)
    rw [← hW2] at hr2
    have HRD := Lib.hid hr2
    have HO9 := Lib.hid ((H.out.then_ ho1).below hbc)
    have HB9 := Lib.hid ((HZ0.out.chg ho1.2 (by omega)).keep hbc)
    obtain ⟨d0, d1, f0, f1⟩ := err_cells HB9.out
    obtain ⟨c0, c1, _, _⟩ := err_cells (show Blk W2 w1.heap.size 60 #[.int .i64 3, .slice A 1 cap] by rw [hW2]; exact (Blk.new _ _ _).alloc _)
    have hfar' : ∀ a, A = some a → w.heap.size + 1 ≤ a.block := fun a ha => by have := hfar a ha; simpa using this
    have HF := Lib.hid hfar'
    simp only [gotV, gotC, gotP, List.length_cons, List.length_nil, Nat.zero_add]
    go_wp2_with fail
    refine (OK_any 3 _ _).mono ?_
    rintro e w' ⟨rfl, rfl⟩
    rw [← hW2]
    clear hW2 hr1 hr2 hfar hfar' ho1 hbc
    go_wp2_with fail
    go_region
    all_goals (
      go_wp2_with fail
      refine bodyPost_ret (v := .tuple #[.int .i64 0, .agg #[.int .i64 3, .slice A 1 cap]]) (by simp [results, Tryd.results48, go_sem, d0, d1]) rfl ?_
      exact ⟨A, cap, rfl, (HRD.out.far (fun a ha => by have := HF.out a ha; simp; omega) _).far (fun a ha => by have := HF.out a ha; simp; omega) _, fun a ha => by have := HF.out a ha; omega, (HO9.out.errset hhi hgw _ _).drew⟩)

end Go.Proofs.YtdanjeoiandjfaaDoor
