/- The document's reader's Align. -/
import Derived.Test.YtbdabjnmocnfpaaDoorBitsRef2
namespace Go.Proofs.YtbdabjnmocnfpaaDoor
open Go Go.RowKit Go.Extern.Stop Go.Stop Go.Extern

theorem err_cells {w : World} {z : Nat} {c : Int} {s : Value} (h : Blk w z 39 #[.int .i64 c, s]) : w.cell? ⟨z, 0, none⟩ = some (.int .i64 c) ∧ w.cell? ⟨z, 1, none⟩ = some s ∧ w.frozen? ⟨z, 0, none⟩ = false ∧ w.frozen? ⟨z, 1, none⟩ = false :=
  ⟨by rw [h.cell]; rfl, by rw [h.cell]; rfl, h.frozen 0, h.frozen 1⟩

/-- What the document's Align answers. -/
def RAOut (lo hi : Nat) (w : World) (g : Nat) (b : List Int) (p : Nat) (e : Ending) (w' : World) : Prop :=
  ∃ A cap, e = .returned (.agg #[.int .i64 (oneC (firstOne b p (padTo p))), .slice A (oneP (firstOne b p (padTo p))).length cap]) ∧
    Rd w' 2 A (oneP (firstOne b p (padTo p))).length (flatP (oneP (firstOne b p (padTo p)))) ∧ (∀ a, A = some a → w.heap.size ≤ a.block) ∧ ROut 59 lo hi w g b (p + padTo p) w'

set_option maxRecDepth 100000 in
set_option maxHeartbeats 2000000 in
theorem RAlign_any {lo hi g : Nat} {b : List Int} {p : Nat} (hb : b.length ≤ 1000000000) (w : World) (hhi : hi ≤ w.heap.size) (h : RdrT 59 lo hi w g b p) :
    Calls Tryd.prog 29 #[.pointer (some ⟨g, 0, none⟩)] w (RAOut lo hi w g b p) := by
  have hp := h.1
  have hgw := h.lt
  have H := Lib.hid h
  clear h
  unfold RAOut
  obtain ⟨n, hn⟩ : ∃ n, padTo p = n := ⟨_, rfl⟩
  have hn8 : (p + n) % 8 = 0 ∧ n < 8 := by rw [← hn]; unfold padTo; omega
  obtain ⟨hn8, hn7⟩ := hn8
  rw [hn]
  clear hn
  have hpn : p + n ≤ 8 * b.length := by omega
  go_enter Tryd.func29, Tryd.ntmps29
  go_wp2_with fail
  go_loopg [] n (fun k wr => ∃ (j : Nat) (A : Option Addr) (cap : Nat), j + k = n ∧ ROut 59 lo hi w g b (p + j) wr ∧ Blk wr w.heap.size 39 #[.int .i64 0, .slice none 0 0] ∧
    Blk wr (w.heap.size + 1) 39 #[.int .i64 (oneC (firstOne b p j)), .slice A (oneP (firstOne b p j)).length cap] ∧ Rd wr 2 A (oneP (firstOne b p j)).length (flatP (oneP (firstOne b p j))) ∧ Hid (∀ a, A = some a → w.heap.size + 2 ≤ a.block))
  case atStart =>
    have hb1 : Below w.heap.size w (w.alloc (.cells #[.int .i64 0, .slice none 0 0] 39)) := (Below.refl _ _).alloc (Nat.le_refl _) _
    have hb2 := hb1.alloc hb1.size (.cells #[.int .i64 0, .slice none 0 0] 39)
    exact ⟨0, none, 0, by omega, ⟨H.out.keep hb2, Chg.of_below hb2⟩, (Blk.new w _ _).alloc _, Blk.new1 _ _ _ _, Rd.nil, fun a ha => by cases ha⟩
  case round =>
    obtain ⟨j, A, cap, hj, hout, hZ0, hZ1, hrd, hfar⟩ := hrel
    have HO := Lib.hid hout
    have HZ0 := Lib.hid hZ0
    have HZ1 := Lib.hid hZ1
    have HRD := Lib.hid hrd
    obtain ⟨⟨_, hbd, A', c', hblk, _, _⟩, _⟩ := hout
    have hc1 : wr.cell? ⟨g, 1, none⟩ = some (.int .i64 ((p + j : Nat) : Int)) := by rw [hblk.cell]; rfl
    clear hbd hblk hZ0 hZ1 hrd
    by_cases hlt : j < n
    · have hne8 : (((p + j : Nat) : Int) % 8 != 0) = true := by rw [bne_iff_ne]; omega
      obtain ⟨q, hq⟩ : ∃ q, p + j = q := ⟨_, rfl⟩
      rw [hq] at hc1 hne8
      have HQ := Lib.hid hq
      have hrq : RdrT 59 lo hi wr g b q := by rw [← hq]; exact HO.out.1
      have HG := Lib.hid (RGet_ok (n := 1) hb (by omega) (by omega) _ (by have := HO.out.2.size; omega) hrq)
      rw [num_one] at HG
      have hbb := Bi.bit_bd b q
      obtain ⟨x, hx⟩ : ∃ x, Bi.bit b q = x := ⟨_, rfl⟩
      rw [hx] at HG hbb
      have HX := Lib.hid hx
      clear hq hx hrq
      go_wp2_with fail
      refine HG.out.mono ?_
      rintro e w1 ⟨rfl, ho1, hch1⟩
      have hz0 := HZ0.out.chg hch1 (by omega)
      have hz1 := HZ1.out.chg hch1 (by omega)
      have hrd1 := HRD.out.chg hch1 (fun a ha e => by have := hfar.out a ha; omega)
      have hsz1 := hz1.lt
      have ho2 : ROut 59 lo hi w g b (p + (j + 1)) (w1.alloc (.cells #[.int .i64 0, .slice none 0 0] 39)) := by
        have h1 : ROut 59 lo hi w g b (q + 1) w1 := ⟨ho1, HO.out.2.trans hch1⟩
        rw [show q + 1 = p + (j + 1) by have := HQ.out; omega] at h1
        exact ⟨h1.1.keep ((Below.refl _ _).alloc (Nat.le_refl _) _), h1.2.alloc _⟩
      have hz0' := hz0.alloc (.cells #[.int .i64 0, .slice none 0 0] 39)
      have hz1' := hz1.alloc (.cells #[.int .i64 0, .slice none 0 0] 39)
      have hrd2 := hrd1.alloc (.cells #[.int .i64 0, .slice none 0 0] 39)
      have HO2 := Lib.hid ho2
      have HZ0' := Lib.hid hz0'
      have HZ1' := Lib.hid hz1'
      have HRD2 := Lib.hid hrd2
      clear hz0 hz1 hrd1 ho1 hch1 ho2 hz0' hz1' hrd2
      by_cases hx0 : x = 0
      · have hne : (x == 1) = false := by rw [hx0]; rfl
        have hf : firstOne b p (j + 1) = firstOne b p j := by
          simp only [firstOne]
          rw [HQ.out, HX.out, if_neg (by omega)]
          split <;> simp_all
        have HF := Lib.hid hf
        clear hx0 hf
        go_wp2_with fail
        go_roundg (gk - 1)
        case measure => omega
        case rel => exact ⟨j + 1, A, cap, by omega, HO2.out, HZ0'.out, by rw [HF.out]; exact HZ1'.out, by rw [HF.out]; exact HRD2.out, hfar⟩
      · have hx1 : x = 1 := by omega
        have hne : (x == 1) = true := by rw [hx1]; rfl
        cases hfo : firstOne b p j with
        | some a =>
          have hf : firstOne b p (j + 1) = firstOne b p j := by
            simp only [firstOne]
            rw [hfo]
          have HF := Lib.hid (hf.trans hfo)
          rw [hfo] at HZ1' HRD2
          obtain ⟨d0, d1, _, _⟩ := err_cells HZ1'.out
          simp only [oneC] at d0
          clear hx0 hx1 hf hfo
          go_wp2_with (go_at_call 33; refine (OK_any 2 _ _).mono ?_; rintro e w' ⟨rfl, rfl⟩)
          go_roundg (gk - 1)
          case measure => omega
          case rel =>
            have hbk : Below (w1.alloc (.cells #[.int .i64 0, .slice none 0 0] 39)).heap.size (w1.alloc (.cells #[.int .i64 0, .slice none 0 0] 39)) ((w1.alloc (.cells #[.int .i64 0, .slice none 0 0] 39)).alloc (.cells #[.int .i64 2, .slice A (oneP (some a)).length cap] 39)) := (Below.refl _ _).alloc (Nat.le_refl _) _
            exact ⟨j + 1, A, cap, by omega, ⟨HO2.out.1.keep hbk, HO2.out.2.trans (Chg.of_below hbk)⟩, HZ0'.out.alloc _, by rw [HF.out]; exact HZ1'.out.alloc _, by rw [HF.out]; exact HRD2.out.alloc _, hfar⟩
        | none =>
          have hf : firstOne b p (j + 1) = some q := by
            simp only [firstOne]
            rw [hfo, HQ.out, HX.out, if_pos hx1]
          rw [hfo] at HZ1' HRD2
          have HF := Lib.hid hf
          obtain ⟨d0, d1, _, _⟩ := err_cells HZ1'.out
          simp only [oneC] at d0
          have hbk : Below (w1.alloc (.cells #[.int .i64 0, .slice none 0 0] 39)).heap.size (w1.alloc (.cells #[.int .i64 0, .slice none 0 0] 39)) ((w1.alloc (.cells #[.int .i64 0, .slice none 0 0] 39)).alloc (.cells #[.int .i64 0, .slice A (oneP none).length cap] 39)) := (Below.refl _ _).alloc (Nat.le_refl _) _
          have HO3 : Hid (ROut 59 lo hi w g b (p + (j + 1)) ((w1.alloc (.cells #[.int .i64 0, .slice none 0 0] 39)).alloc (.cells #[.int .i64 0, .slice A (oneP none).length cap] 39))) := ⟨HO2.out.1.keep hbk, HO2.out.2.trans (Chg.of_below hbk)⟩
          have HZ03 := Lib.hid (HZ0'.out.alloc (.cells #[.int .i64 0, .slice A (oneP none).length cap] 39))
          have HZ13 := Lib.hid (HZ1'.out.alloc (.cells #[.int .i64 0, .slice A (oneP none).length cap] 39))
          clear hx0 hx1 hf hfo hbk HO2
          go_wp2_with (go_at_call 33; refine (OK_any 0 _ _).mono ?_; rintro e w' ⟨rfl, rfl⟩)
          refine (Wrap_any sBits _ (c := 2) (by omega) _).mono ?_
          rintro e w2 ⟨A2, c2, rfl, hr2, hfar2, hb2⟩
          have hfar3 : ∀ a, A2 = some a → w.heap.size + 2 ≤ a.block := fun a ha => by have := hfar2 a ha; simp at this; omega
          obtain ⟨e0, e1, f0, f1⟩ := err_cells (HZ13.out.keep hb2)
          have hc2 : Chg (fun i => i = w.heap.size + 1) w2 ((w2.setCell ⟨w.heap.size + 1, 0, none⟩ (.int .i64 2)).setCell ⟨w.heap.size + 1, 1, none⟩ (.slice A2 1 c2)) :=
            ((Chg.refl (fun i => i = w.heap.size + 1) w2).setCell (p := ⟨w.heap.size + 1, 0, none⟩) (fun _ => rfl) _).setCell (p := ⟨w.heap.size + 1, 1, none⟩) (fun _ => rfl) _
          have HO4 : Hid (ROut 59 lo hi w g b (p + (j + 1)) ((w2.setCell ⟨w.heap.size + 1, 0, none⟩ (.int .i64 2)).setCell ⟨w.heap.size + 1, 1, none⟩ (.slice A2 1 c2))) := by
            obtain ⟨⟨r1, r2, B, c, r3, r4, r5⟩, r6⟩ := HO3.out
            exact ⟨⟨r1, r2, B, c, (r3.keep hb2).chg hc2 (by omega), (r4.keep hb2).chg0 hc2 (fun a ha h0 e => by have := (r5 a ha h0).2.1; omega), r5⟩, (r6.trans (Chg.of_below hb2)).step hc2 (fun i hi e => by omega)⟩
          have HZ04 := Lib.hid ((HZ03.out.keep hb2).chg hc2 (by omega))
          have hz14 := ((HZ13.out.keep hb2).store 0 (.int .i64 2)).store 1 (.slice A2 1 c2)
          have HZ14 := Lib.hid (show Blk ((w2.setCell ⟨w.heap.size + 1, 0, none⟩ (.int .i64 2)).setCell ⟨w.heap.size + 1, 1, none⟩ (.slice A2 1 c2)) (w.heap.size + 1) 39 #[.int .i64 2, .slice A2 1 c2] by simpa using hz14)
          have HR4 := Lib.hid (Rd.chg hr2 hc2 (fun a ha e => by have := hfar3 a ha; omega))
          have HF3 := Lib.hid hfar3
          clear hr2 hfar2 hb2 hfar3 hc2 hz14
          go_wp2_with fail
          go_roundg (gk - 1)
          case measure => omega
          case rel => exact ⟨j + 1, A2, c2, by omega, HO4.out, HZ04.out, by rw [HF.out]; exact HZ14.out, by rw [HF.out]; exact HR4.out, HF3.out⟩
    · obtain rfl : j = n := by omega
      have hne8 : (((p + j : Nat) : Int) % 8 != 0) = false := by simp; omega
      obtain ⟨d0, d1, _, _⟩ := err_cells HZ1.out
      obtain ⟨e0, e1, f0, f1⟩ := err_cells HZ0.out
      obtain ⟨fo, hfo⟩ : ∃ fo, firstOne b p j = fo := ⟨_, rfl⟩
      rw [hfo] at d0 d1 HRD
      have HFO := Lib.hid hfo
      obtain ⟨C, hC⟩ : ∃ C, oneC fo = C := ⟨_, rfl⟩
      obtain ⟨L, hL⟩ : ∃ L, (oneP fo).length = L := ⟨_, rfl⟩
      rw [hC] at d0
      rw [hL] at d1
      have HCC := Lib.hid hC
      have HLL := Lib.hid hL
      clear hfo hC hL
      have hc2 : Chg (fun i => i = w.heap.size) wr ((wr.setCell ⟨w.heap.size, 0, none⟩ (.int .i64 C)).setCell ⟨w.heap.size, 1, none⟩ (.slice A L cap)) :=
        ((Chg.refl (fun i => i = w.heap.size) wr).setCell (p := ⟨w.heap.size, 0, none⟩) (fun _ => rfl) _).setCell (p := ⟨w.heap.size, 1, none⟩) (fun _ => rfl) _
      have HO4 : Hid (ROut 59 lo hi w g b (p + j) ((wr.setCell ⟨w.heap.size, 0, none⟩ (.int .i64 C)).setCell ⟨w.heap.size, 1, none⟩ (.slice A L cap))) := by
        obtain ⟨⟨r1, r2, B, c, r3, r4, r5⟩, r6⟩ := HO.out
        exact ⟨⟨r1, r2, B, c, r3.chg hc2 (by omega), r4.chg0 hc2 (fun a ha h0 e => by have := (r5 a ha h0).2.1; omega), r5⟩, r6.step hc2 (fun i hi e => by omega)⟩
      have HR4 := Lib.hid (Rd.chg HRD.out hc2 (fun a ha e => by have := hfar.out a ha; omega))
      clear hc2
      go_wp2_with fail
      refine bodyPost_ret (v := .agg #[.int .i64 C, .slice A L cap]) (by simp [results, Tryd.results29, go_sem, e0, e1]) rfl ?_
      rw [HFO.out, HCC.out, HLL.out]
      have h4 := HR4.out
      rw [HLL.out] at h4
      exact ⟨A, cap, rfl, h4, fun a ha => by have := hfar.out a ha; omega, HO4.out⟩

end Go.Proofs.YtbdabjnmocnfpaaDoor
