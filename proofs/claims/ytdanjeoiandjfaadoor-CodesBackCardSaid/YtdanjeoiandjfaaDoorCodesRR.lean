/- Contracts of the document's package kinref3: the codes read. -/
import Derived.Test.YtdanjeoiandjfaaDoorCodesR2
namespace Go.Proofs.YtdanjeoiandjfaaDoor
open Go Go.RowKit Go.Extern.Stop Go.Stop Go.Extern

/-- What the document's reading answers. -/
def RGOut (lo hi : Nat) (w : World) (g : Nat) (b : List Int) (r : Co.Got × Nat) (e : Ending) (w' : World) : Prop :=
  ∃ A cap, e = .returned (.tuple #[.int .i64 (gotV r.1), .agg #[.int .i64 (gotC r.1), .slice A (gotP r.1).length cap]]) ∧ Rd w' 2 A (gotP r.1).length (flatP (gotP r.1)) ∧ (∀ a, A = some a → w.heap.size ≤ a.block) ∧ ROut 50 lo hi w g b r.2 w'

theorem ROut.errset {t : TypeId} {lo hi g : Nat} {w W : World} {b : List Int} {q : Nat} (h : ROut t lo hi w g b q W) (hhi : hi ≤ w.heap.size) (hg : g < w.heap.size) (x y : Value) : ROut t lo hi w g b q ((W.setCell ⟨w.heap.size, 0, none⟩ x).setCell ⟨w.heap.size, 1, none⟩ y) := by
  have hc2 : Chg (fun i => i = w.heap.size) W ((W.setCell ⟨w.heap.size, 0, none⟩ x).setCell ⟨w.heap.size, 1, none⟩ y) :=
    ((Chg.refl (fun i => i = w.heap.size) W).setCell (p := ⟨w.heap.size, 0, none⟩) (fun _ => rfl) _).setCell (p := ⟨w.heap.size, 1, none⟩) (fun _ => rfl) _
  obtain ⟨⟨r1, r2, A, c, r3, r4, r5⟩, r6⟩ := h
  exact ⟨⟨r1, r2, A, c, r3.chg hc2 (by omega), r4.chg0 hc2 (fun a ha h0 e => by have := (r5 a ha h0).2.1; omega), r5⟩, r6.step hc2 (fun i hi e => by omega)⟩
theorem ROut.below {t : TypeId} {lo hi g : Nat} {w W W' : World} {b : List Int} {q : Nat} (h : ROut t lo hi w g b q W) (hb : Below W.heap.size W W') : ROut t lo hi w g b q W' := ⟨h.1.keep hb, h.2.trans (Chg.of_below hb)⟩
theorem ROut.then_ {t : TypeId} {lo hi g : Nat} {w W W' : World} {b : List Int} {q q' : Nat} (h : ROut t lo hi w g b q W) (h2 : ROut t lo hi W g b q' W') : ROut t lo hi w g b q' W' := ⟨h2.1, h.2.trans h2.2⟩

theorem ROut.drew {t : TypeId} {lo hi g : Nat} {w W : World} {b : List Int} {q : Nat} (h : ROut t lo hi w g b q W) : ROut t lo hi w g b q W.drew := ⟨h.1, h.2.drew⟩
theorem ROut.place {t : TypeId} {lo hi g : Nat} {w W : World} {b : List Int} {q : Nat} (h : ROut t lo hi w g b q W) : W.cell? ⟨g, 1, none⟩ = some (.int .i64 q) := by
  obtain ⟨⟨_, _, A, c, hblk, _, _⟩, _⟩ := h
  rw [hblk.cell]; rfl
theorem ue_err {b : List Int} {T p : Nat} {e : Co.Got} (h : Co.zeros b T p 31 0 = .error e) : Co.ue b T p = (e, Co.zerosEnd b T p 31 0) := by
  unfold Co.ue; rw [h]
theorem ue_ok' {b : List Int} {T p n : Nat} (h : Co.zeros b T p 31 0 = .ok n) : Co.ue b T p = if T < p + n + 1 + n then (.short (p + n + 1), p + n + 1) else (.num (2 ^ n + Bi.num b (p + n + 1) n - 1), p + n + 1 + n) := by
  unfold Co.ue; rw [h]

set_option maxRecDepth 100000 in
set_option maxHeartbeats 2000000 in
theorem Rue_any {lo hi g : Nat} {b : List Int} {p : Nat} (hb : b.length ≤ 1000000000) (w : World) (hhi : hi ≤ w.heap.size) (h : RdrT 50 lo hi w g b p) :
    Calls Tryd.prog 62 #[.pointer (some ⟨g, 0, none⟩)] w (RGOut lo hi w g b (Co.ue b (8 * b.length) p)) := by
  have hgw := h.lt
  have hz := Blk.new w 60 #[.int .i64 0, .slice none 0 0]
  have hb0 : Below w.heap.size w (w.alloc (.cells #[.int .i64 0, .slice none 0 0] 60)) := (Below.refl _ _).alloc (Nat.le_refl _) _
  have H : Hid (ROut 50 lo hi w g b p (w.alloc (.cells #[.int .i64 0, .slice none 0 0] 60))) := ⟨h.keep hb0, Chg.of_below hb0⟩
  have HZ0 := Lib.hid hz
  clear h hz hb0
  obtain ⟨R, hR⟩ : ∃ R, Co.ue b (8 * b.length) p = R := ⟨_, rfl⟩
  rw [hR]
  have HR := Lib.hid hR
  clear hR
  obtain ⟨Z, hZ⟩ : ∃ Z, Co.zeros b (8 * b.length) p 31 0 = Z := ⟨_, rfl⟩
  obtain ⟨E, hE⟩ : ∃ E, Co.zerosEnd b (8 * b.length) p 31 0 = E := ⟨_, rfl⟩
  have HZZ := Lib.hid hZ
  have HEE := Lib.hid hE
  clear hZ hE
  go_enter Tryd.func62, Tryd.ntmps62
  go_wp2_with fail
  go_loopg [4] 31 (fun m vn wr => ∃ n : Nat, n + m = 31 ∧ 1 ≤ m ∧ vn = .int .i64 n ∧ Hid (Co.zeros b (8 * b.length) p m n = Z) ∧ Hid (Co.zerosEnd b (8 * b.length) p m n = E) ∧ ROut 50 lo hi w g b (p + n) wr ∧ Hid (Blk wr w.heap.size 60 #[.int .i64 0, .slice none 0 0]))
  case atStart => exact ⟨0, by omega, by omega, rfl, HZZ, HEE, H.out, HZ0⟩
  case round =>
    obtain ⟨n, hn, hm1, rfl, HZ, HE, hout, HB⟩ := hrel
    obtain ⟨m, rfl⟩ : ∃ m, gk = m + 1 := ⟨gk - 1, by omega⟩
    have HO := Lib.hid hout
    have hs1 := HB.out.lt
    have hhr : hi ≤ wr.heap.size := by omega
    clear hout
    rcases (show 8 * b.length ≤ p + n ∨ (p + n < 8 * b.length) by omega) with hT | hT
    · have hz := HZ.out
      have he := HE.out
      simp only [Co.zeros, Co.zerosEnd] at hz he
      rw [if_pos hT] at hz he
      have hr := HR.out
      rw [ue_err (HZZ.out.trans hz.symm), HEE.out, ← he] at hr
      subst hr
      clear hz he HZ HE HR
      go_wp2_with fail
      refine (RGet_short (n := 1) hb (by omega) (by omega) _ HO.out.1).mono ?_
      rintro e w1 ⟨A, cap, rfl, hr1, hfar, hb1⟩
      obtain ⟨W2, hW2⟩ : ∃ W, W = (w1.alloc (.cells #[.int .i64 1, .slice A 1 cap] 60)).alloc (.cells #[.int .i64 1, .slice A 1 cap] 60) := ⟨_, rfl⟩
      have hbc := hb1.alloc hb1.size (.cells #[.int .i64 1, .slice A 1 cap] 60)
      have hbb : Below wr.heap.size wr W2 := by rw [hW2]; exact hbc.alloc hbc.size _
      have hr2 := (hr1.alloc (.cells #[.int .i64 1, .slice A 1 cap] 60)).alloc (.cells #[.int .i64 1, .slice A 1 cap] 60)
      rw [← hW2] at hr2
      have HRD := Lib.hid hr2
      have HO9 := Lib.hid (HO.out.below hbb)
      obtain ⟨d0, d1, f0, f1⟩ := err_cells (HB.out.keep hbb)
      obtain ⟨c0, c1, _, _⟩ := err_cells (show Blk W2 w1.heap.size 60 #[.int .i64 1, .slice A 1 cap] by rw [hW2]; exact (Blk.new _ _ _).alloc _)
      have hfar' : ∀ a, A = some a → w.heap.size + 1 ≤ a.block := fun a ha => by have := hfar a ha; omega
      have HF := Lib.hid hfar'
      go_wp2_with fail
      refine (OK_any 1 _ _).mono ?_
      rintro e w' ⟨rfl, rfl⟩
      rw [← hW2]
      clear hW2 hr1 hr2 hfar hfar' hb1 hbb hbc
      go_wp2_with fail
      go_region
      all_goals (
        go_wp2_with fail
        refine bodyPost_ret (v := .tuple #[.int .i64 0, .agg #[.int .i64 1, .slice A 1 cap]]) (by simp [results, Tryd.results62, go_sem, d0, d1]) rfl ?_
        exact ⟨A, cap, rfl, (HRD.out.far (fun a ha => by have := HF.out a ha; simp; omega) _).far (fun a ha => by have := HF.out a ha; simp; omega) _, fun a ha => by have := HF.out a ha; omega, (HO9.out.errset hhi hgw _ _).drew⟩)
    · have HF := Lib.hid (RGet_ok (n := 1) hb (by omega) (by omega) _ hhr HO.out.1)
      rw [num_one] at HF
      have hbb := Bi.bit_bd b (p + n)
      obtain ⟨x, hx⟩ : ∃ x, Bi.bit b (p + n) = x := ⟨_, rfl⟩
      rw [hx] at HF hbb
      have hz := HZ.out
      have he := HE.out
      simp only [Co.zeros, Co.zerosEnd] at hz he
      rw [if_neg (by omega), hx] at hz he
      clear hx HZ HE
      rcases (show x = 0 ∨ x = 1 by omega) with rfl | rfl
      · rw [if_neg (by omega)] at hz he
        have HZ := Lib.hid hz
        have HE := Lib.hid he
        clear hz he hbb
        go_wp2_with fail
        refine HF.out.mono ?_
        rintro e w1 ⟨rfl, ho1⟩
        obtain ⟨W2, hW⟩ : ∃ W, W = (w1.alloc (.cells #[.int .i64 0, .slice none 0 0] 60)).alloc (.cells #[.int .i64 0, .slice none 0 0] 60) := ⟨_, rfl⟩
        have hbc : Below w1.heap.size w1 W2 := by rw [hW]; exact ((Below.refl _ _).alloc (Nat.le_refl _) _).alloc (by simp) _
        have HO2 := Lib.hid ((HO.out.then_ ho1).below hbc)
        have HB2 := Lib.hid ((HB.out.chg ho1.2 (by omega)).keep hbc)
        have h6 : Blk W2 w1.heap.size 60 #[.int .i64 0, .slice none 0 0] := by rw [hW]; exact (Blk.new _ _ _).alloc _
        have H6 := Lib.hid h6
        go_wp2_with fail
        refine (OK_any 0 _ _).mono ?_
        rintro e w' ⟨rfl, rfl⟩
        rw [← hW]
        clear hW hbc ho1 h6
        cases m with
        | zero =>
          have hz := HZ.out
          have he := HE.out
          simp only [Co.zeros, Co.zerosEnd] at hz he
          have hr := HR.out
          rw [ue_err (HZZ.out.trans hz.symm), HEE.out, ← he] at hr
          subst hr
          obtain rfl : n = 30 := by omega
          clear hz he HZ HE HR
          have hpl := HO2.out.place
          go_wp2_with fail
          refine (Wrap_any sCodes _ (c := 3) (by omega) _).mono ?_
          rintro e w5 ⟨A5, c5, rfl, hr5, hfar5, hb5⟩
          obtain ⟨d0, d1, f0, f1⟩ := err_cells (HB2.out.keep hb5)
          have hsw := HB2.out.lt
          have hfar' : ∀ a, A5 = some a → w.heap.size + 1 ≤ a.block := fun a ha => by have := hfar5 a ha; omega
          have HF := Lib.hid hfar'
          have HRD := Lib.hid hr5
          have HO9 := Lib.hid (HO2.out.below hb5)
          clear hr5 hfar5 hb5 hfar' hpl
          go_wp2_with fail
          refine bodyPost_ret (v := .tuple #[.int .i64 0, .agg #[.int .i64 3, .slice A5 1 c5]]) (by simp [results, Tryd.results62, go_sem, d0, d1]) rfl ?_
          exact ⟨A5, c5, rfl, (HRD.out.far (fun a ha => by have := HF.out a ha; simp; omega) _).far (fun a ha => by have := HF.out a ha; simp; omega) _, fun a ha => by have := HF.out a ha; omega, HO9.out.errset hhi hgw _ _⟩
        | succ m =>
          go_wp2_with fail
          go_roundg (m + 1)
          case measure => omega
          case rel => exact ⟨n + 1, by omega, by omega, by go_num, HZ.out, HE.out, HO2.out, HB2⟩
      · rw [if_pos rfl] at hz he
        have hr := HR.out
        rw [ue_ok' (HZZ.out.trans hz.symm)] at hr
        have HRR := Lib.hid hr
        clear he hbb hz hr HR
        obtain ⟨hp0, hp1⟩ := pow_bd (n := n) (by omega)
        go_wp2_with fail
        refine HF.out.mono ?_
        rintro e w1 ⟨rfl, ho1⟩
        obtain ⟨W2, hW⟩ : ∃ W, W = (w1.alloc (.cells #[.int .i64 0, .slice none 0 0] 60)).alloc (.cells #[.int .i64 0, .slice none 0 0] 60) := ⟨_, rfl⟩
        have hbc : Below w1.heap.size w1 W2 := by rw [hW]; exact ((Below.refl _ _).alloc (Nat.le_refl _) _).alloc (by simp) _
        have HO2 := Lib.hid ((HO.out.then_ ho1).below hbc)
        have HB2 := Lib.hid ((HB.out.chg ho1.2 (by omega)).keep hbc)
        have h6 : Blk W2 w1.heap.size 60 #[.int .i64 0, .slice none 0 0] := by rw [hW]; exact (Blk.new _ _ _).alloc _
        have H6 := Lib.hid h6
        go_wp2_with fail
        refine (OK_any 0 _ _).mono ?_
        rintro e w' ⟨rfl, rfl⟩
        rw [← hW]
        clear hW hbc ho1 h6
        have hs2 := HB2.out.lt
        have hh2 : hi ≤ W2.heap.size := by omega
        clear HF
        go_wp2_with fail
        rcases (show 8 * b.length < p + n + 1 + n ∨ p + n + 1 + n ≤ 8 * b.length by omega) with hs | hs
        · have hr := HRR.out
          rw [if_pos hs] at hr
          subst hr
          clear HRR
          refine (RGet_short (n := n) hb (by omega) hs _ HO2.out.1).mono ?_
          rintro e w1 ⟨A, cap, rfl, hr1, hfar, hb1⟩
          obtain ⟨W3, hW3⟩ : ∃ W, W = (w1.alloc (.cells #[.int .i64 1, .slice A 1 cap] 60)).alloc (.cells #[.int .i64 1, .slice A 1 cap] 60) := ⟨_, rfl⟩
          have hbc := hb1.alloc hb1.size (.cells #[.int .i64 1, .slice A 1 cap] 60)
          have hbb : Below W2.heap.size W2 W3 := by rw [hW3]; exact hbc.alloc hbc.size _
          have hr2 := (hr1.alloc (.cells #[.int .i64 1, .slice A 1 cap] 60)).alloc (.cells #[.int .i64 1, .slice A 1 cap] 60)
          rw [← hW3] at hr2
          have HRD := Lib.hid hr2
          have HO9 := Lib.hid (HO2.out.below hbb)
          obtain ⟨d0, d1, f0, f1⟩ := err_cells (HB2.out.keep hbb)
          obtain ⟨c0, c1, _, _⟩ := err_cells (show Blk W3 w1.heap.size 60 #[.int .i64 1, .slice A 1 cap] by rw [hW3]; exact (Blk.new _ _ _).alloc _)
          have hfar' : ∀ a, A = some a → w.heap.size + 1 ≤ a.block := fun a ha => by have := hfar a ha; omega
          have HF := Lib.hid hfar'
          go_wp2_with fail
          refine (OK_any 1 _ _).mono ?_
          rintro e w' ⟨rfl, rfl⟩
          rw [← hW3]
          clear hW3 hr1 hr2 hfar hfar' hb1 hbb hbc
          go_wp2_with fail
          go_region
          all_goals (
            go_wp2_with fail
            refine bodyPost_ret (v := .tuple #[.int .i64 0, .agg #[.int .i64 1, .slice A 1 cap]]) (by simp [results, Tryd.results62, go_sem, d0, d1]) rfl ?_
            exact ⟨A, cap, rfl, (HRD.out.far (fun a ha => by have := HF.out a ha; simp; omega) _).far (fun a ha => by have := HF.out a ha; simp; omega) _, fun a ha => by have := HF.out a ha; omega, (HO9.out.errset hhi hgw _ _).drew⟩)
        · have hr := HRR.out
          rw [if_neg (by omega)] at hr
          have hnb := Bi.num_bd b (p + n + 1) n
          refine (RGet_ok (n := n) hb (by omega) hs _ hh2 HO2.out.1).mono ?_
          obtain ⟨N, hN⟩ : ∃ N, Bi.num b (p + n + 1) n = N := ⟨_, rfl⟩
          rw [hN] at hnb hr ⊢
          subst hr
          clear hN HRR
          rintro e w1 ⟨rfl, ho1⟩
          obtain ⟨W3, hW⟩ : ∃ W, W = (w1.alloc (.cells #[.int .i64 0, .slice none 0 0] 60)).alloc (.cells #[.int .i64 0, .slice none 0 0] 60) := ⟨_, rfl⟩
          have hbc : Below w1.heap.size w1 W3 := by rw [hW]; exact ((Below.refl _ _).alloc (Nat.le_refl _) _).alloc (by simp) _
          have HO3 := Lib.hid ((HO2.out.then_ ho1).below hbc)
          have HB3 := Lib.hid ((HB2.out.chg ho1.2 (by omega)).keep hbc)
          have h6 : Blk W3 w1.heap.size 60 #[.int .i64 0, .slice none 0 0] := by rw [hW]; exact (Blk.new _ _ _).alloc _
          have H6 := Lib.hid h6
          go_wp2_with fail
          refine (OK_any 0 _ _).mono ?_
          rintro e w' ⟨rfl, rfl⟩
          rw [← hW]
          clear hW hbc ho1 h6
          obtain ⟨d0, d1, f0, f1⟩ := err_cells HB3.out
          go_wp2_with fail
          refine bodyPost_ret (v := .tuple #[.int .i64 (2 ^ n + N - 1), .agg #[.int .i64 0, .slice none 0 0]]) (by simp [results, Tryd.results62, go_sem, d0, d1]) rfl ?_
          exact ⟨none, 0, rfl, Rd.nil, (fun a ha => by cases ha), HO3.out.errset hhi hgw _ _⟩

end Go.Proofs.YtdanjeoiandjfaaDoor
