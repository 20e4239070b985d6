/- The contract of kinlaw3.gets: an operation of both readers. -/
import Derived.Test.YtdanjeoiandjfaaDoorCodesPutsC
namespace Go.Proofs.YtdanjeoiandjfaaDoor
open Go Go.RowKit Go.Extern.Stop Go.Stop Go.Extern

/-- What gets answers. -/
def GetsOut (w0 : World) (lo hi lo' hi' g gx : Nat) (b : List Int) (e : Ending) (w' : World) : Prop :=
  e = .returned (.bool true) ∧ Below w0.heap.size w0 w' ∧ ∃ q, RdrT 74 lo hi w' g b q ∧ RdrT 50 lo' hi' w' gx b q

theorem Blk.read {t t' : TypeId} {lo hi : Nat} {w w' : World} {z g p q : Nat} {b : List Int} {cs : Array Value} (hz : Blk w z t' cs) (h1 : t' ≠ t) (hr : RdrT t lo hi w g b p) (ho : ROut t lo hi w g b q w') : Blk w' z t' cs := by
  obtain ⟨_, _, A, c, hblk, _⟩ := hr
  exact hz.chg ho.2 (fun e => Blk.apart hz hblk h1 e)
theorem ErrR.read {t : TypeId} {lo hi : Nat} {w w' : World} {g p q : Nat} {b : List Int} {pa : List (ByteArray × Int)} {c : Int} {v : Value} (h : ErrR w pa c v) (h1 : 101 ≠ t) (hr : RdrT t lo hi w g b p) (ho : ROut t lo hi w g b q w') : ErrR w' pa c v := by
  obtain ⟨_, _, A, c', hblk, _⟩ := hr
  exact h.chg ho.2 (fun z cs hz e => Blk.apart hz hblk h1 e)
/-- An Err's two cells set. -/
theorem chg_set (w : World) (z : Nat) (x y : Value) : Chg (fun i => i = z) w ((w.setCell ⟨z, 0, none⟩ x).setCell ⟨z, 1, none⟩ y) :=
  ((Chg.refl (fun i => i = z) w).setCell (p := ⟨z, 0, none⟩) (fun _ => rfl) _).setCell (p := ⟨z, 1, none⟩) (fun _ => rfl) _
theorem ErrR.set {w : World} {z : Nat} {pa : List (ByteArray × Int)} {c : Int} {v : Value} {cs : Array Value} (h : ErrR w pa c v) (hz : Blk w z 60 cs) (x y : Value) : ErrR ((w.setCell ⟨z, 0, none⟩ x).setCell ⟨z, 1, none⟩ y) pa c v :=
  h.chg (chg_set w z x y) (fun f fs hf e => Blk.apart hf hz (by decide) e)
theorem RdrT.set {t : TypeId} {lo hi : Nat} {w : World} {z g q : Nat} {b : List Int} (h : RdrT t lo hi w g b q) (hg : g ≠ z) (hz : hi ≤ z) (x y : Value) : RdrT t lo hi ((w.setCell ⟨z, 0, none⟩ x).setCell ⟨z, 1, none⟩ y) g b q :=
  h.chg (chg_set w z x y) (fun e => hg e) (fun i _ h2 e => by omega)
theorem RdrT.place {t : TypeId} {lo hi : Nat} {w : World} {g q : Nat} {b : List Int} (h : RdrT t lo hi w g b q) : w.cell? ⟨g, 1, none⟩ = some (.int .i64 q) := by
  obtain ⟨_, _, A, c, hblk, _⟩ := h
  rw [hblk.cell]; rfl

set_option maxRecDepth 100000 in
set_option maxHeartbeats 8000000 in
theorem gets_any {o : Op3} {w0 w : World} {lo hi lo' hi' g gx p : Nat} {b : List Int} (hb : b.length ≤ 1000000000) (hg : Gl w0) (hbel : Below w0.heap.size w0 w) (hg0 : w0.heap.size ≤ g) (hgx0 : w0.heap.size ≤ gx) (hgg : g ≠ gx) (h1 : g < lo' ∨ hi' ≤ g) (h2 : gx < lo ∨ hi ≤ gx) (hh : hi ≤ w.heap.size) (hh' : hi' ≤ w.heap.size)
    (hr : RdrT 74 lo hi w g b p) (hx : RdrT 50 lo' hi' w gx b p) :
    Calls Tryd.prog 29 #[.pointer (some ⟨g, 0, none⟩), .pointer (some ⟨gx, 0, none⟩), .agg #[.int .i64 o.k, .int .i64 o.v, .int .i64 o.n, .int .i64 o.m]] w (GetsOut w0 lo hi lo' hi' g gx b) := by
  obtain ⟨k, x, n, m⟩ := o
  simp only
  have HG := Lib.hid hg
  have hgl := hr.lt
  have hxl := hx.lt
  obtain ⟨W, hW⟩ : ∃ W, W = (w.alloc (.cells #[.int .i64 k, .int .i64 x, .int .i64 n, .int .i64 m] 41)).alloc (.cells #[.int .i64 0, .slice none 0 0] 60) := ⟨_, rfl⟩
  have hbA : Below w.heap.size w W := by rw [hW]; exact ((Below.refl _ _).alloc (Nat.le_refl _) _).alloc (by simp) _
  have HZ : Hid (Blk W w.heap.size 41 #[.int .i64 k, .int .i64 x, .int .i64 n, .int .i64 m]) := by rw [hW]; exact (Blk.new _ _ _).alloc _
  have HE : Hid (Blk W (w.heap.size + 1) 60 #[.int .i64 0, .slice none 0 0]) := by rw [hW]; exact Blk.new1 _ _ _ _
  have HR := Lib.hid (hr.keep hbA)
  have HX := Lib.hid (hx.keep hbA)
  have hbW : Below w0.heap.size w0 W := hbel.trans (hbA.mono hbel.size)
  have HW := Lib.hid hW
  have hsz : w.heap.size + 2 ≤ W.heap.size := by have := HE.out.lt; omega
  clear hg hr hx hbel hbA hW
  go_enter Tryd.func29, Tryd.ntmps29
  rcases (show k = 0 ∨ k = 1 ∨ k = 2 ∨ (k ≠ 0 ∧ k ≠ 1 ∧ k ≠ 2) by omega) with rfl | rfl | rfl | ⟨hk0, hk1, hk2⟩
  · skip
    obtain ⟨R, hR⟩ : ∃ R, Co.getUe b (8 * b.length) p m = R := ⟨_, rfl⟩
    have HC1 := Lib.hid (GetUe_any m hb _ HR.out)
    rw [hR] at HC1
    go_wp2_with fail
    rw [← HW.out]
    clear HW
    refine HC1.out.mono ?_
    rintro e w1 ⟨y, rfl, hv1, ho1⟩
    have hx1 := HX.out.other ho1 hgg.symm (by omega)
    have hbA := below_chg hbW ho1.2 hbW.size (fun i hi => by omega)
    have HE1 := Lib.hid (HE.out.read (by decide) HR.out ho1)
    have HZ1 := Lib.hid (HZ.out.read (by decide) HR.out ho1)
    have HC2 := Lib.hid (RGetUe_any m hb _ (by have := ho1.2.size; omega) hx1)
    rw [hR] at HC2
    have HV1 := Lib.hid hv1
    have HR1 := Lib.hid ho1.1
    have HX1 := Lib.hid hx1
    have hs1 := ho1.2.size
    obtain ⟨q0, q1, q2, q3⟩ := op_cells HZ1.out
    clear hR HC1 hv1 ho1 hx1
    go_wp2_with fail
    refine HC2.out.mono ?_
    rintro e w2 ⟨A2, cap2, rfl, hrd, hfar, ho2⟩
    have hbB := below_chg hbA ho2.2 hbA.size (fun i hi => by omega)
    have HE2 := Lib.hid (HE1.out.read (by decide) HX1.out ho2)
    have HV2 := Lib.hid (HV1.out.read (by decide) HX1.out ho2)
    have HR2 := Lib.hid (HR1.out.other ho2 hgg (by omega))
    have HX2 := Lib.hid ho2.1
    have HRD := Lib.hid hrd
    have HFA := Lib.hid (show ∀ a, A2 = some a → w.heap.size + 2 ≤ a.block from fun a ha => by have := hfar a ha; omega)
    have HPL := Lib.hid (gotP_le R.1)
    have HS0 := Lib.hid (show w0.heap.size ≤ w.heap.size + 1 by omega)
    obtain ⟨V, hV⟩ : ∃ V, gotV R.1 = V := ⟨_, rfl⟩
    obtain ⟨C, hC⟩ : ∃ C, gotC R.1 = C := ⟨_, rfl⟩
    obtain ⟨P, hP⟩ : ∃ P, gotP R.1 = P := ⟨_, rfl⟩
    obtain ⟨q, hq⟩ : ∃ q, R.2 = q := ⟨_, rfl⟩
    rw [hP] at HRD HPL
    rw [hP, hC] at HV2
    rw [hq] at HR2 HX2
    rw [hV, hC, hP]
    obtain ⟨L, hL⟩ : ∃ L, P.length = L := ⟨_, rfl⟩
    rw [hL]
    have HL := Lib.hid hL
    clear hV hC hP hq hL HC2 hrd hfar ho2
    obtain ⟨f0, f1⟩ := (⟨HE2.out.frozen 0, HE2.out.frozen 1⟩ : _ ∧ _)
    obtain ⟨e0, e1, _, _⟩ := err_cells HE2.out
    clear f0 f1
    obtain ⟨e0, e1, f0, f1⟩ := err_cells HE2.out
    go_wp2_with fail
    obtain ⟨W3, hW3⟩ : ∃ W3, W3 = (w2.setCell ⟨w.heap.size + 1, 0, none⟩ (.int .i64 C)).setCell ⟨w.heap.size + 1, 1, none⟩ (.slice A2 L cap2) := ⟨_, rfl⟩
    rw [← hW3]
    have hc3 : Chg (fun i => i = w.heap.size + 1) w2 W3 := by rw [hW3]; exact chg_set _ _ _ _
    have hb3 := below_chg hbB hc3 hbB.size (fun i hi => by have := HS0.out; omega)
    have HR3 : Hid (RdrT 74 lo hi W3 g b q) := HR2.out.chg hc3 (by omega) (fun i _ h3 e => by omega)
    have HX3 : Hid (RdrT 50 lo' hi' W3 gx b q) := HX2.out.chg hc3 (by omega) (fun i _ h3 e => by omega)
    have HV3 : Hid (ErrR W3 P C y) := HV2.out.chg hc3 (fun f fs hf e => Blk.apart hf HE2.out (by decide) e)
    have hst := (HE2.out.store 0 (.int .i64 C)).store 1 (.slice A2 L cap2)
    have HE3 := Lib.hid (show Blk W3 (w.heap.size + 1) 60 #[.int .i64 C, .slice A2 L cap2] by rw [hW3]; simpa using hst)
    have HRD3 : Hid (Rd W3 2 A2 P.length (flatP P)) := Rd.chg HRD.out hc3 (fun a ha e => by have := HFA.out a ha; omega)
    clear hst hc3 hW3 e0 e1 f0 f1
    obtain ⟨e0, e1, _, _⟩ := err_cells HE3.out
    have pl := HX3.out.place
    have HE4 : Hid (Blk W3.drew (w.heap.size + 1) 60 #[.int .i64 C, .slice A2 L cap2]) := HE3.out
    have HR4 : Hid (RdrT 74 lo hi W3.drew g b q) := HR3.out
    have HX4 : Hid (RdrT 50 lo' hi' W3.drew gx b q) := HX3.out
    have HV4 := Lib.hid (HV3.out.keep (show Below W3.heap.size W3 W3.drew from (Below.refl _ _).drew))
    have HRD4 : Hid (Rd W3.drew 2 A2 P.length (flatP P)) := HRD3.out
    have hb4 : Below w0.heap.size w0 W3.drew := hb3.drew
    have HEE := Lib.hid (Err_res (cap := cap2) HPL.out _ (HG.out.keep hb4) HV4.out HRD4.out)
    rw [HL.out] at HEE
    go_region_held3 (fun W' => W'.cell? ⟨w.heap.size + 1, 0, none⟩ = some (.int .i64 C) ∧ W'.cell? ⟨w.heap.size + 1, 1, none⟩ = some (.slice A2 L cap2) ∧ W'.cell? ⟨gx, 1, none⟩ = some (.int .i64 (q : Nat)))
      (first
        | go_keep
        | exact ⟨(err_cells (HE4.out.keep hb5)).1, (err_cells (HE4.out.keep hb5)).2.1, (HX4.out.keep hb5).place⟩)
      (first
        | (go_at_call 33; refine HEE.out.mono ?_; rintro e w5 ⟨rfl, hb5⟩)
        | (go_at_call 35; refine (Place_any _ (HR4.out.keep hb5)).mono ?_; rintro e w6 ⟨rfl, rfl⟩))
    go_wp2_with fail
    go_ret
    exact ⟨rfl, hb4.trans (hb5.mono hb4.size), q, HR4.out.keep hb5, HX4.out.keep hb5⟩
  · skip
    obtain ⟨R, hR⟩ : ∃ R, Co.getSe b (8 * b.length) p m = R := ⟨_, rfl⟩
    have HC1 := Lib.hid (GetSe_any m hb _ HR.out)
    rw [hR] at HC1
    go_wp2_with fail
    rw [← HW.out]
    clear HW
    refine HC1.out.mono ?_
    rintro e w1 ⟨y, rfl, hv1, ho1⟩
    have hx1 := HX.out.other ho1 hgg.symm (by omega)
    have hbA := below_chg hbW ho1.2 hbW.size (fun i hi => by omega)
    have HE1 := Lib.hid (HE.out.read (by decide) HR.out ho1)
    have HZ1 := Lib.hid (HZ.out.read (by decide) HR.out ho1)
    have HC2 := Lib.hid (RGetSe_any m hb _ (by have := ho1.2.size; omega) hx1)
    rw [hR] at HC2
    have HV1 := Lib.hid hv1
    have HR1 := Lib.hid ho1.1
    have HX1 := Lib.hid hx1
    have hs1 := ho1.2.size
    obtain ⟨q0, q1, q2, q3⟩ := op_cells HZ1.out
    clear hR HC1 hv1 ho1 hx1
    go_wp2_with fail
    refine HC2.out.mono ?_
    rintro e w2 ⟨A2, cap2, rfl, hrd, hfar, ho2⟩
    have hbB := below_chg hbA ho2.2 hbA.size (fun i hi => by omega)
    have HE2 := Lib.hid (HE1.out.read (by decide) HX1.out ho2)
    have HV2 := Lib.hid (HV1.out.read (by decide) HX1.out ho2)
    have HR2 := Lib.hid (HR1.out.other ho2 hgg (by omega))
    have HX2 := Lib.hid ho2.1
    have HRD := Lib.hid hrd
    have HFA := Lib.hid (show ∀ a, A2 = some a → w.heap.size + 2 ≤ a.block from fun a ha => by have := hfar a ha; omega)
    have HPL := Lib.hid (gotP_le R.1)
    have HS0 := Lib.hid (show w0.heap.size ≤ w.heap.size + 1 by omega)
    obtain ⟨V, hV⟩ : ∃ V, gotV R.1 = V := ⟨_, rfl⟩
    obtain ⟨C, hC⟩ : ∃ C, gotC R.1 = C := ⟨_, rfl⟩
    obtain ⟨P, hP⟩ : ∃ P, gotP R.1 = P := ⟨_, rfl⟩
    obtain ⟨q, hq⟩ : ∃ q, R.2 = q := ⟨_, rfl⟩
    rw [hP] at HRD HPL
    rw [hP, hC] at HV2
    rw [hq] at HR2 HX2
    rw [hV, hC, hP]
    obtain ⟨L, hL⟩ : ∃ L, P.length = L := ⟨_, rfl⟩
    rw [hL]
    have HL := Lib.hid hL
    clear hV hC hP hq hL HC2 hrd hfar ho2
    obtain ⟨f0, f1⟩ := (⟨HE2.out.frozen 0, HE2.out.frozen 1⟩ : _ ∧ _)
    obtain ⟨e0, e1, _, _⟩ := err_cells HE2.out
    clear f0 f1
    obtain ⟨e0, e1, f0, f1⟩ := err_cells HE2.out
    go_wp2_with fail
    obtain ⟨W3, hW3⟩ : ∃ W3, W3 = (w2.setCell ⟨w.heap.size + 1, 0, none⟩ (.int .i64 C)).setCell ⟨w.heap.size + 1, 1, none⟩ (.slice A2 L cap2) := ⟨_, rfl⟩
    rw [← hW3]
    have hc3 : Chg (fun i => i = w.heap.size + 1) w2 W3 := by rw [hW3]; exact chg_set _ _ _ _
    have hb3 := below_chg hbB hc3 hbB.size (fun i hi => by have := HS0.out; omega)
    have HR3 : Hid (RdrT 74 lo hi W3 g b q) := HR2.out.chg hc3 (by omega) (fun i _ h3 e => by omega)
    have HX3 : Hid (RdrT 50 lo' hi' W3 gx b q) := HX2.out.chg hc3 (by omega) (fun i _ h3 e => by omega)
    have HV3 : Hid (ErrR W3 P C y) := HV2.out.chg hc3 (fun f fs hf e => Blk.apart hf HE2.out (by decide) e)
    have hst := (HE2.out.store 0 (.int .i64 C)).store 1 (.slice A2 L cap2)
    have HE3 := Lib.hid (show Blk W3 (w.heap.size + 1) 60 #[.int .i64 C, .slice A2 L cap2] by rw [hW3]; simpa using hst)
    have HRD3 : Hid (Rd W3 2 A2 P.length (flatP P)) := Rd.chg HRD.out hc3 (fun a ha e => by have := HFA.out a ha; omega)
    clear hst hc3 hW3 e0 e1 f0 f1
    obtain ⟨e0, e1, _, _⟩ := err_cells HE3.out
    have pl := HX3.out.place
    have HE4 : Hid (Blk W3.drew (w.heap.size + 1) 60 #[.int .i64 C, .slice A2 L cap2]) := HE3.out
    have HR4 : Hid (RdrT 74 lo hi W3.drew g b q) := HR3.out
    have HX4 : Hid (RdrT 50 lo' hi' W3.drew gx b q) := HX3.out
    have HV4 := Lib.hid (HV3.out.keep (show Below W3.heap.size W3 W3.drew from (Below.refl _ _).drew))
    have HRD4 : Hid (Rd W3.drew 2 A2 P.length (flatP P)) := HRD3.out
    have hb4 : Below w0.heap.size w0 W3.drew := hb3.drew
    have HEE := Lib.hid (Err_res (cap := cap2) HPL.out _ (HG.out.keep hb4) HV4.out HRD4.out)
    rw [HL.out] at HEE
    go_region_held3 (fun W' => W'.cell? ⟨w.heap.size + 1, 0, none⟩ = some (.int .i64 C) ∧ W'.cell? ⟨w.heap.size + 1, 1, none⟩ = some (.slice A2 L cap2) ∧ W'.cell? ⟨gx, 1, none⟩ = some (.int .i64 (q : Nat)))
      (first
        | go_keep
        | exact ⟨(err_cells (HE4.out.keep hb5)).1, (err_cells (HE4.out.keep hb5)).2.1, (HX4.out.keep hb5).place⟩)
      (first
        | (go_at_call 33; refine HEE.out.mono ?_; rintro e w5 ⟨rfl, hb5⟩)
        | (go_at_call 35; refine (Place_any _ (HR4.out.keep hb5)).mono ?_; rintro e w6 ⟨rfl, rfl⟩))
    go_wp2_with fail
    go_ret
    exact ⟨rfl, hb4.trans (hb5.mono hb4.size), q, HR4.out.keep hb5, HX4.out.keep hb5⟩
  · by_cases hn : 0 ≤ n ∧ n ≤ 15
    · obtain ⟨K, rfl⟩ := Int.eq_ofNat_of_zero_le hn.1
      have hK : K ≤ 15 := by omega
      obtain ⟨R, hR⟩ : ∃ R, Co.getRice b (8 * b.length) p K m = R := ⟨_, rfl⟩
      have HC1 := Lib.hid (GetRice_any m hK hb _ HR.out)
      rw [hR] at HC1
      go_wp2_with fail
      rw [← HW.out]
      clear HW
      refine HC1.out.mono ?_
      rintro e w1 ⟨y, rfl, hv1, ho1⟩
      have hx1 := HX.out.other ho1 hgg.symm (by omega)
      have hbA := below_chg hbW ho1.2 hbW.size (fun i hi => by omega)
      have HE1 := Lib.hid (HE.out.read (by decide) HR.out ho1)
      have HZ1 := Lib.hid (HZ.out.read (by decide) HR.out ho1)
      have HC2 := Lib.hid (RGetRice_any m hK hb _ (by have := ho1.2.size; omega) hx1)
      rw [hR] at HC2
      have HV1 := Lib.hid hv1
      have HR1 := Lib.hid ho1.1
      have HX1 := Lib.hid hx1
      have hs1 := ho1.2.size
      obtain ⟨q0, q1, q2, q3⟩ := op_cells HZ1.out
      clear hR HC1 hv1 ho1 hx1
      go_wp2_with fail
      refine HC2.out.mono ?_
      rintro e w2 ⟨A2, cap2, rfl, hrd, hfar, ho2⟩
      have hbB := below_chg hbA ho2.2 hbA.size (fun i hi => by omega)
      have HE2 := Lib.hid (HE1.out.read (by decide) HX1.out ho2)
      have HV2 := Lib.hid (HV1.out.read (by decide) HX1.out ho2)
      have HR2 := Lib.hid (HR1.out.other ho2 hgg (by omega))
      have HX2 := Lib.hid ho2.1
      have HRD := Lib.hid hrd
      have HFA := Lib.hid (show ∀ a, A2 = some a → w.heap.size + 2 ≤ a.block from fun a ha => by have := hfar a ha; omega)
      have HPL := Lib.hid (gotP_le R.1)
      have HS0 := Lib.hid (show w0.heap.size ≤ w.heap.size + 1 by omega)
      obtain ⟨V, hV⟩ : ∃ V, gotV R.1 = V := ⟨_, rfl⟩
      obtain ⟨C, hC⟩ : ∃ C, gotC R.1 = C := ⟨_, rfl⟩
      obtain ⟨P, hP⟩ : ∃ P, gotP R.1 = P := ⟨_, rfl⟩
      obtain ⟨q, hq⟩ : ∃ q, R.2 = q := ⟨_, rfl⟩
      rw [hP] at HRD HPL
      rw [hP, hC] at HV2
      rw [hq] at HR2 HX2
      rw [hV, hC, hP]
      obtain ⟨L, hL⟩ : ∃ L, P.length = L := ⟨_, rfl⟩
      rw [hL]
      have HL := Lib.hid hL
      clear hV hC hP hq hL HC2 hrd hfar ho2
      obtain ⟨f0, f1⟩ := (⟨HE2.out.frozen 0, HE2.out.frozen 1⟩ : _ ∧ _)
      obtain ⟨e0, e1, _, _⟩ := err_cells HE2.out
      clear f0 f1
      obtain ⟨e0, e1, f0, f1⟩ := err_cells HE2.out
      go_wp2_with fail
      obtain ⟨W3, hW3⟩ : ∃ W3, W3 = (w2.setCell ⟨w.heap.size + 1, 0, none⟩ (.int .i64 C)).setCell ⟨w.heap.size + 1, 1, none⟩ (.slice A2 L cap2) := ⟨_, rfl⟩
      rw [← hW3]
      have hc3 : Chg (fun i => i = w.heap.size + 1) w2 W3 := by rw [hW3]; exact chg_set _ _ _ _
      have hb3 := below_chg hbB hc3 hbB.size (fun i hi => by have := HS0.out; omega)
      have HR3 : Hid (RdrT 74 lo hi W3 g b q) := HR2.out.chg hc3 (by omega) (fun i _ h3 e => by omega)
      have HX3 : Hid (RdrT 50 lo' hi' W3 gx b q) := HX2.out.chg hc3 (by omega) (fun i _ h3 e => by omega)
      have HV3 : Hid (ErrR W3 P C y) := HV2.out.chg hc3 (fun f fs hf e => Blk.apart hf HE2.out (by decide) e)
      have hst := (HE2.out.store 0 (.int .i64 C)).store 1 (.slice A2 L cap2)
      have HE3 := Lib.hid (show Blk W3 (w.heap.size + 1) 60 #[.int .i64 C, .slice A2 L cap2] by rw [hW3]; simpa using hst)
      have HRD3 : Hid (Rd W3 2 A2 P.length (flatP P)) := Rd.chg HRD.out hc3 (fun a ha e => by have := HFA.out a ha; omega)
      clear hst hc3 hW3 e0 e1 f0 f1
      obtain ⟨e0, e1, _, _⟩ := err_cells HE3.out
      have pl := HX3.out.place
      have HE4 : Hid (Blk W3.drew (w.heap.size + 1) 60 #[.int .i64 C, .slice A2 L cap2]) := HE3.out
      have HR4 : Hid (RdrT 74 lo hi W3.drew g b q) := HR3.out
      have HX4 : Hid (RdrT 50 lo' hi' W3.drew gx b q) := HX3.out
      have HV4 := Lib.hid (HV3.out.keep (show Below W3.heap.size W3 W3.drew from (Below.refl _ _).drew))
      have HRD4 : Hid (Rd W3.drew 2 A2 P.length (flatP P)) := HRD3.out
      have hb4 : Below w0.heap.size w0 W3.drew := hb3.drew
      have HEE := Lib.hid (Err_res (cap := cap2) HPL.out _ (HG.out.keep hb4) HV4.out HRD4.out)
      rw [HL.out] at HEE
      go_region_held3 (fun W' => W'.cell? ⟨w.heap.size + 1, 0, none⟩ = some (.int .i64 C) ∧ W'.cell? ⟨w.heap.size + 1, 1, none⟩ = some (.slice A2 L cap2) ∧ W'.cell? ⟨gx, 1, none⟩ = some (.int .i64 (q : Nat)))
        (first
          | go_keep
          | exact ⟨(err_cells (HE4.out.keep hb5)).1, (err_cells (HE4.out.keep hb5)).2.1, (HX4.out.keep hb5).place⟩)
        (first
          | (go_at_call 33; refine HEE.out.mono ?_; rintro e w5 ⟨rfl, hb5⟩)
          | (go_at_call 35; refine (Place_any _ (HR4.out.keep hb5)).mono ?_; rintro e w6 ⟨rfl, rfl⟩))
      go_wp2_with fail
      go_ret
      exact ⟨rfl, hb4.trans (hb5.mono hb4.size), q, HR4.out.keep hb5, HX4.out.keep hb5⟩
    · skip
      go_wp2_with fail
      rw [← HW.out]
      clear HW
      refine (GetRice_no _ _ hn).mono ?_
      rintro e w1 ⟨rfl, rfl⟩
      obtain ⟨q0, q1, q2, q3⟩ := op_cells HZ.out
      go_wp2_with fail
      refine (RGetRice_no _ _ hn).mono ?_
      rintro e w2 ⟨rfl, hb2⟩
      have hbA := hbW
      have HE1 := HE
      have HR1 := HR
      have HX1 := HX
      have hbB := hbA.trans (hb2.mono hbA.size)
      have HE2 := Lib.hid (HE1.out.keep hb2)
      have HR2 := Lib.hid (HR1.out.keep hb2)
      have HX2 := Lib.hid (HX1.out.keep hb2)
      have HS0 := Lib.hid (show w0.heap.size ≤ w.heap.size + 1 by omega)
      have HV2 := Lib.hid (show ErrR w2 ([] : List (ByteArray × Int)) 3 (.iface 57 (.int .i64 3)) from .inr ⟨by decide, rfl⟩)
      have HRD := Lib.hid (show Rd w2 2 none (([] : List (ByteArray × Int))).length (flatP ([] : List (ByteArray × Int))) from Rd.nil)
      have HFA := Lib.hid (show ∀ a : Addr, none = some a → w.heap.size + 2 ≤ a.block from fun a ha => by cases ha)
      have HPL := Lib.hid (show (([] : List (ByteArray × Int))).length ≤ 1000000000000 by simp)
      clear hb2
      obtain ⟨f0, f1⟩ := (⟨HE2.out.frozen 0, HE2.out.frozen 1⟩ : _ ∧ _)
      obtain ⟨e0, e1, _, _⟩ := err_cells HE2.out
      clear f0 f1
      obtain ⟨e0, e1, f0, f1⟩ := err_cells HE2.out
      go_wp2_with fail
      obtain ⟨W3, hW3⟩ : ∃ W3, W3 = (w2.setCell ⟨w.heap.size + 1, 0, none⟩ (.int .i64 3)).setCell ⟨w.heap.size + 1, 1, none⟩ (.slice none 0 0) := ⟨_, rfl⟩
      rw [← hW3]
      have hc3 : Chg (fun i => i = w.heap.size + 1) w2 W3 := by rw [hW3]; exact chg_set _ _ _ _
      have hb3 := below_chg hbB hc3 hbB.size (fun i hi => by have := HS0.out; omega)
      have HR3 : Hid (RdrT 74 lo hi W3 g b p) := HR2.out.chg hc3 (by omega) (fun i _ h3 e => by omega)
      have HX3 : Hid (RdrT 50 lo' hi' W3 gx b p) := HX2.out.chg hc3 (by omega) (fun i _ h3 e => by omega)
      have HV3 : Hid (ErrR W3 ([] : List (ByteArray × Int)) 3 (.iface 57 (.int .i64 3))) := HV2.out.chg hc3 (fun f fs hf e => Blk.apart hf HE2.out (by decide) e)
      have hst := (HE2.out.store 0 (.int .i64 3)).store 1 (.slice none 0 0)
      have HE3 := Lib.hid (show Blk W3 (w.heap.size + 1) 60 #[.int .i64 3, .slice none 0 0] by rw [hW3]; simpa using hst)
      have HRD3 : Hid (Rd W3 2 none (([] : List (ByteArray × Int))).length (flatP ([] : List (ByteArray × Int)))) := Rd.chg HRD.out hc3 (fun a ha e => by have := HFA.out a ha; omega)
      clear hst hc3 hW3 e0 e1 f0 f1
      obtain ⟨e0, e1, _, _⟩ := err_cells HE3.out
      have pl := HX3.out.place
      have HE4 : Hid (Blk W3.drew (w.heap.size + 1) 60 #[.int .i64 3, .slice none 0 0]) := HE3.out
      have HR4 : Hid (RdrT 74 lo hi W3.drew g b p) := HR3.out
      have HX4 : Hid (RdrT 50 lo' hi' W3.drew gx b p) := HX3.out
      have HV4 := Lib.hid (HV3.out.keep (show Below W3.heap.size W3 W3.drew from (Below.refl _ _).drew))
      have HRD4 : Hid (Rd W3.drew 2 none (([] : List (ByteArray × Int))).length (flatP ([] : List (ByteArray × Int)))) := HRD3.out
      have hb4 : Below w0.heap.size w0 W3.drew := hb3.drew
      have HEE := Lib.hid (Err_res (cap := 0) HPL.out _ (HG.out.keep hb4) HV4.out HRD4.out)
      simp only [List.length_nil] at HEE
      go_region_held3 (fun W' => W'.cell? ⟨w.heap.size + 1, 0, none⟩ = some (.int .i64 3) ∧ W'.cell? ⟨w.heap.size + 1, 1, none⟩ = some (.slice none 0 0) ∧ W'.cell? ⟨gx, 1, none⟩ = some (.int .i64 (p : Nat)))
        (first
          | go_keep
          | exact ⟨(err_cells (HE4.out.keep hb5)).1, (err_cells (HE4.out.keep hb5)).2.1, (HX4.out.keep hb5).place⟩)
        (first
          | (go_at_call 33; refine HEE.out.mono ?_; rintro e w5 ⟨rfl, hb5⟩)
          | (go_at_call 35; refine (Place_any _ (HR4.out.keep hb5)).mono ?_; rintro e w6 ⟨rfl, rfl⟩))
      go_wp2_with fail
      go_ret
      exact ⟨rfl, hb4.trans (hb5.mono hb4.size), p, HR4.out.keep hb5, HX4.out.keep hb5⟩
  · by_cases hn : 0 ≤ n ∧ n ≤ 32
    · obtain ⟨N, rfl⟩ := Int.eq_ofNat_of_zero_le hn.1
      rcases (show 8 * b.length < p + N ∨ p + N ≤ 8 * b.length by omega) with hs | hs
      · skip
        go_wp2_with fail
        rw [← HW.out]
        clear HW
        refine (Get_short (n := N) hb (by omega) hs _ HR.out).mono ?_
        rintro e w1 ⟨y, rfl, he1, hb1⟩
        have hbA := hbW.trans (hb1.mono hbW.size)
        have HE1 := Lib.hid (HE.out.keep hb1)
        have HR1 := Lib.hid (HR.out.keep hb1)
        have HX1 := Lib.hid (HX.out.keep hb1)
        have HV1 := Lib.hid he1
        have hs1 := hb1.size
        obtain ⟨q0, q1, q2, q3⟩ := op_cells (HZ.out.keep hb1)
        clear he1 hb1
        go_wp2_with fail
        refine (RGet_short (n := N) hb (by omega) hs _ HX1.out).mono ?_
        rintro e w2 ⟨A2, cap2, rfl, hrd, hfar, hb2⟩
        have hbB := hbA.trans (hb2.mono hbA.size)
        have HE2 := Lib.hid (HE1.out.keep hb2)
        have HR2 := Lib.hid (HR1.out.keep hb2)
        have HX2 := Lib.hid (HX1.out.keep hb2)
        have HS0 := Lib.hid (show w0.heap.size ≤ w.heap.size + 1 by omega)
        have HV2 := Lib.hid (show ErrR w2 [(sBits, (p : Int))] 1 y from .inr ⟨by decide, HV1.out.below hb2⟩)
        have HRD := Lib.hid hrd
        have HFA := Lib.hid (show ∀ a, A2 = some a → w.heap.size + 2 ≤ a.block from fun a ha => by have := hfar a ha; omega)
        have HPL := Lib.hid (show ([(sBits, (p : Int))]).length ≤ 1000000000000 by simp)
        clear hb2 hrd hfar
        obtain ⟨f0, f1⟩ := (⟨HE2.out.frozen 0, HE2.out.frozen 1⟩ : _ ∧ _)
        obtain ⟨e0, e1, _, _⟩ := err_cells HE2.out
        clear f0 f1
        obtain ⟨e0, e1, f0, f1⟩ := err_cells HE2.out
        go_wp2_with fail
        obtain ⟨W3, hW3⟩ : ∃ W3, W3 = (w2.setCell ⟨w.heap.size + 1, 0, none⟩ (.int .i64 1)).setCell ⟨w.heap.size + 1, 1, none⟩ (.slice A2 1 cap2) := ⟨_, rfl⟩
        rw [← hW3]
        have hc3 : Chg (fun i => i = w.heap.size + 1) w2 W3 := by rw [hW3]; exact chg_set _ _ _ _
        have hb3 := below_chg hbB hc3 hbB.size (fun i hi => by have := HS0.out; omega)
        have HR3 : Hid (RdrT 74 lo hi W3 g b p) := HR2.out.chg hc3 (by omega) (fun i _ h3 e => by omega)
        have HX3 : Hid (RdrT 50 lo' hi' W3 gx b p) := HX2.out.chg hc3 (by omega) (fun i _ h3 e => by omega)
        have HV3 : Hid (ErrR W3 [(sBits, (p : Int))] 1 y) := HV2.out.chg hc3 (fun f fs hf e => Blk.apart hf HE2.out (by decide) e)
        have hst := (HE2.out.store 0 (.int .i64 1)).store 1 (.slice A2 1 cap2)
        have HE3 := Lib.hid (show Blk W3 (w.heap.size + 1) 60 #[.int .i64 1, .slice A2 1 cap2] by rw [hW3]; simpa using hst)
        have HRD3 : Hid (Rd W3 2 A2 ([(sBits, (p : Int))]).length (flatP [(sBits, (p : Int))])) := Rd.chg HRD.out hc3 (fun a ha e => by have := HFA.out a ha; omega)
        clear hst hc3 hW3 e0 e1 f0 f1
        obtain ⟨e0, e1, _, _⟩ := err_cells HE3.out
        have pl := HX3.out.place
        have HE4 : Hid (Blk W3.drew (w.heap.size + 1) 60 #[.int .i64 1, .slice A2 1 cap2]) := HE3.out
        have HR4 : Hid (RdrT 74 lo hi W3.drew g b p) := HR3.out
        have HX4 : Hid (RdrT 50 lo' hi' W3.drew gx b p) := HX3.out
        have HV4 := Lib.hid (HV3.out.keep (show Below W3.heap.size W3 W3.drew from (Below.refl _ _).drew))
        have HRD4 : Hid (Rd W3.drew 2 A2 ([(sBits, (p : Int))]).length (flatP [(sBits, (p : Int))])) := HRD3.out
        have hb4 : Below w0.heap.size w0 W3.drew := hb3.drew
        have HEE := Lib.hid (Err_res (cap := cap2) HPL.out _ (HG.out.keep hb4) HV4.out HRD4.out)
        simp only [List.length_cons, List.length_nil, Nat.zero_add] at HEE
        go_region_held3 (fun W' => W'.cell? ⟨w.heap.size + 1, 0, none⟩ = some (.int .i64 1) ∧ W'.cell? ⟨w.heap.size + 1, 1, none⟩ = some (.slice A2 1 cap2) ∧ W'.cell? ⟨gx, 1, none⟩ = some (.int .i64 (p : Nat)))
          (first
            | go_keep
            | exact ⟨(err_cells (HE4.out.keep hb5)).1, (err_cells (HE4.out.keep hb5)).2.1, (HX4.out.keep hb5).place⟩)
          (first
            | (go_at_call 33; refine HEE.out.mono ?_; rintro e w5 ⟨rfl, hb5⟩)
            | (go_at_call 35; refine (Place_any _ (HR4.out.keep hb5)).mono ?_; rintro e w6 ⟨rfl, rfl⟩))
        go_wp2_with fail
        go_ret
        exact ⟨rfl, hb4.trans (hb5.mono hb4.size), p, HR4.out.keep hb5, HX4.out.keep hb5⟩
      · skip
        go_wp2_with fail
        rw [← HW.out]
        clear HW
        refine (Get_ok (n := N) hb (by omega) hs _ HR.out).mono ?_
        rintro e w1 ⟨rfl, ho1⟩
        have hx1 := HX.out.other ho1 hgg.symm (by omega)
        have hbA := below_chg hbW ho1.2 hbW.size (fun i hi => by omega)
        have HE1 := Lib.hid (HE.out.read (by decide) HR.out ho1)
        have HZ1 := Lib.hid (HZ.out.read (by decide) HR.out ho1)
        have HC2 := Lib.hid (RGet_ok (n := N) hb (by omega) hs _ (by have := ho1.2.size; omega) hx1)
        have HR1 := Lib.hid ho1.1
        have HX1 := Lib.hid hx1
        have hs1 := ho1.2.size
        obtain ⟨q0, q1, q2, q3⟩ := op_cells HZ1.out
        obtain ⟨V, hV⟩ : ∃ V, Bi.num b p N = V := ⟨_, rfl⟩
        rw [hV] at HC2 ⊢
        clear ho1 hx1 hV
        go_wp2_with fail
        refine HC2.out.mono ?_
        rintro e w2 ⟨rfl, ho2⟩
        have hbB := below_chg hbA ho2.2 hbA.size (fun i hi => by omega)
        have HE2 := Lib.hid (HE1.out.read (by decide) HX1.out ho2)
        have HR2 := Lib.hid (HR1.out.other ho2 hgg (by omega))
        have HX2 := Lib.hid ho2.1
        have HS0 := Lib.hid (show w0.heap.size ≤ w.heap.size + 1 by omega)
        have HV2 := Lib.hid (show ErrR w2 ([] : List (ByteArray × Int)) 0 .nilIface from .inl ⟨rfl, rfl, rfl⟩)
        have HRD := Lib.hid (show Rd w2 2 none (([] : List (ByteArray × Int))).length (flatP ([] : List (ByteArray × Int))) from Rd.nil)
        have HFA := Lib.hid (show ∀ a : Addr, none = some a → w.heap.size + 2 ≤ a.block from fun a ha => by cases ha)
        have HPL := Lib.hid (show (([] : List (ByteArray × Int))).length ≤ 1000000000000 by simp)
        obtain ⟨q, hq⟩ : ∃ q, p + N = q := ⟨_, rfl⟩
        rw [hq] at HR2 HX2
        clear ho2 HC2 hq
        obtain ⟨f0, f1⟩ := (⟨HE2.out.frozen 0, HE2.out.frozen 1⟩ : _ ∧ _)
        obtain ⟨e0, e1, _, _⟩ := err_cells HE2.out
        clear f0 f1
        obtain ⟨e0, e1, f0, f1⟩ := err_cells HE2.out
        go_wp2_with fail
        obtain ⟨W3, hW3⟩ : ∃ W3, W3 = (w2.setCell ⟨w.heap.size + 1, 0, none⟩ (.int .i64 0)).setCell ⟨w.heap.size + 1, 1, none⟩ (.slice none 0 0) := ⟨_, rfl⟩
        rw [← hW3]
        have hc3 : Chg (fun i => i = w.heap.size + 1) w2 W3 := by rw [hW3]; exact chg_set _ _ _ _
        have hb3 := below_chg hbB hc3 hbB.size (fun i hi => by have := HS0.out; omega)
        have HR3 : Hid (RdrT 74 lo hi W3 g b q) := HR2.out.chg hc3 (by omega) (fun i _ h3 e => by omega)
        have HX3 : Hid (RdrT 50 lo' hi' W3 gx b q) := HX2.out.chg hc3 (by omega) (fun i _ h3 e => by omega)
        have HV3 : Hid (ErrR W3 ([] : List (ByteArray × Int)) 0 .nilIface) := HV2.out.chg hc3 (fun f fs hf e => Blk.apart hf HE2.out (by decide) e)
        have hst := (HE2.out.store 0 (.int .i64 0)).store 1 (.slice none 0 0)
        have HE3 := Lib.hid (show Blk W3 (w.heap.size + 1) 60 #[.int .i64 0, .slice none 0 0] by rw [hW3]; simpa using hst)
        have HRD3 : Hid (Rd W3 2 none (([] : List (ByteArray × Int))).length (flatP ([] : List (ByteArray × Int)))) := Rd.chg HRD.out hc3 (fun a ha e => by have := HFA.out a ha; omega)
        clear hst hc3 hW3 e0 e1 f0 f1
        obtain ⟨e0, e1, _, _⟩ := err_cells HE3.out
        have pl := HX3.out.place
        have HE4 : Hid (Blk W3.drew (w.heap.size + 1) 60 #[.int .i64 0, .slice none 0 0]) := HE3.out
        have HR4 : Hid (RdrT 74 lo hi W3.drew g b q) := HR3.out
        have HX4 : Hid (RdrT 50 lo' hi' W3.drew gx b q) := HX3.out
        have HV4 := Lib.hid (HV3.out.keep (show Below W3.heap.size W3 W3.drew from (Below.refl _ _).drew))
        have HRD4 : Hid (Rd W3.drew 2 none (([] : List (ByteArray × Int))).length (flatP ([] : List (ByteArray × Int)))) := HRD3.out
        have hb4 : Below w0.heap.size w0 W3.drew := hb3.drew
        have HEE := Lib.hid (Err_res (cap := 0) HPL.out _ (HG.out.keep hb4) HV4.out HRD4.out)
        simp only [List.length_nil] at HEE
        go_region_held3 (fun W' => W'.cell? ⟨w.heap.size + 1, 0, none⟩ = some (.int .i64 0) ∧ W'.cell? ⟨w.heap.size + 1, 1, none⟩ = some (.slice none 0 0) ∧ W'.cell? ⟨gx, 1, none⟩ = some (.int .i64 (q : Nat)))
          (first
            | go_keep
            | exact ⟨(err_cells (HE4.out.keep hb5)).1, (err_cells (HE4.out.keep hb5)).2.1, (HX4.out.keep hb5).place⟩)
          (first
            | (go_at_call 33; refine HEE.out.mono ?_; rintro e w5 ⟨rfl, hb5⟩)
            | (go_at_call 35; refine (Place_any _ (HR4.out.keep hb5)).mono ?_; rintro e w6 ⟨rfl, rfl⟩))
        go_wp2_with fail
        go_ret
        exact ⟨rfl, hb4.trans (hb5.mono hb4.size), q, HR4.out.keep hb5, HX4.out.keep hb5⟩
    · skip
      go_wp2_with fail
      rw [← HW.out]
      clear HW
      refine (Get_range _ hn).mono ?_
      rintro e w1 ⟨rfl, rfl⟩
      obtain ⟨q0, q1, q2, q3⟩ := op_cells HZ.out
      go_wp2_with fail
      refine (RGet_range _ hn).mono ?_
      rintro e w2 ⟨rfl, hb2⟩
      have hbA := hbW
      have HE1 := HE
      have HR1 := HR
      have HX1 := HX
      have hbB := hbA.trans (hb2.mono hbA.size)
      have HE2 := Lib.hid (HE1.out.keep hb2)
      have HR2 := Lib.hid (HR1.out.keep hb2)
      have HX2 := Lib.hid (HX1.out.keep hb2)
      have HS0 := Lib.hid (show w0.heap.size ≤ w.heap.size + 1 by omega)
      have HV2 := Lib.hid (show ErrR w2 ([] : List (ByteArray × Int)) 3 (.iface 57 (.int .i64 3)) from .inr ⟨by decide, rfl⟩)
      have HRD := Lib.hid (show Rd w2 2 none (([] : List (ByteArray × Int))).length (flatP ([] : List (ByteArray × Int))) from Rd.nil)
      have HFA := Lib.hid (show ∀ a : Addr, none = some a → w.heap.size + 2 ≤ a.block from fun a ha => by cases ha)
      have HPL := Lib.hid (show (([] : List (ByteArray × Int))).length ≤ 1000000000000 by simp)
      clear hb2
      obtain ⟨f0, f1⟩ := (⟨HE2.out.frozen 0, HE2.out.frozen 1⟩ : _ ∧ _)
      obtain ⟨e0, e1, _, _⟩ := err_cells HE2.out
      clear f0 f1
      obtain ⟨e0, e1, f0, f1⟩ := err_cells HE2.out
      go_wp2_with fail
      obtain ⟨W3, hW3⟩ : ∃ W3, W3 = (w2.setCell ⟨w.heap.size + 1, 0, none⟩ (.int .i64 3)).setCell ⟨w.heap.size + 1, 1, none⟩ (.slice none 0 0) := ⟨_, rfl⟩
      rw [← hW3]
      have hc3 : Chg (fun i => i = w.heap.size + 1) w2 W3 := by rw [hW3]; exact chg_set _ _ _ _
      have hb3 := below_chg hbB hc3 hbB.size (fun i hi => by have := HS0.out; omega)
      have HR3 : Hid (RdrT 74 lo hi W3 g b p) := HR2.out.chg hc3 (by omega) (fun i _ h3 e => by omega)
      have HX3 : Hid (RdrT 50 lo' hi' W3 gx b p) := HX2.out.chg hc3 (by omega) (fun i _ h3 e => by omega)
      have HV3 : Hid (ErrR W3 ([] : List (ByteArray × Int)) 3 (.iface 57 (.int .i64 3))) := HV2.out.chg hc3 (fun f fs hf e => Blk.apart hf HE2.out (by decide) e)
      have hst := (HE2.out.store 0 (.int .i64 3)).store 1 (.slice none 0 0)
      have HE3 := Lib.hid (show Blk W3 (w.heap.size + 1) 60 #[.int .i64 3, .slice none 0 0] by rw [hW3]; simpa using hst)
      have HRD3 : Hid (Rd W3 2 none (([] : List (ByteArray × Int))).length (flatP ([] : List (ByteArray × Int)))) := Rd.chg HRD.out hc3 (fun a ha e => by have := HFA.out a ha; omega)
      clear hst hc3 hW3 e0 e1 f0 f1
      obtain ⟨e0, e1, _, _⟩ := err_cells HE3.out
      have pl := HX3.out.place
      have HE4 : Hid (Blk W3.drew (w.heap.size + 1) 60 #[.int .i64 3, .slice none 0 0]) := HE3.out
      have HR4 : Hid (RdrT 74 lo hi W3.drew g b p) := HR3.out
      have HX4 : Hid (RdrT 50 lo' hi' W3.drew gx b p) := HX3.out
      have HV4 := Lib.hid (HV3.out.keep (show Below W3.heap.size W3 W3.drew from (Below.refl _ _).drew))
      have HRD4 : Hid (Rd W3.drew 2 none (([] : List (ByteArray × Int))).length (flatP ([] : List (ByteArray × Int)))) := HRD3.out
      have hb4 : Below w0.heap.size w0 W3.drew := hb3.drew
      have HEE := Lib.hid (Err_res (cap := 0) HPL.out _ (HG.out.keep hb4) HV4.out HRD4.out)
      simp only [List.length_nil] at HEE
      go_region_held3 (fun W' => W'.cell? ⟨w.heap.size + 1, 0, none⟩ = some (.int .i64 3) ∧ W'.cell? ⟨w.heap.size + 1, 1, none⟩ = some (.slice none 0 0) ∧ W'.cell? ⟨gx, 1, none⟩ = some (.int .i64 (p : Nat)))
        (first
          | go_keep
          | exact ⟨(err_cells (HE4.out.keep hb5)).1, (err_cells (HE4.out.keep hb5)).2.1, (HX4.out.keep hb5).place⟩)
        (first
          | (go_at_call 33; refine HEE.out.mono ?_; rintro e w5 ⟨rfl, hb5⟩)
          | (go_at_call 35; refine (Place_any _ (HR4.out.keep hb5)).mono ?_; rintro e w6 ⟨rfl, rfl⟩))
      go_wp2_with fail
      go_ret
      exact ⟨rfl, hb4.trans (hb5.mono hb4.size), p, HR4.out.keep hb5, HX4.out.keep hb5⟩

end Go.Proofs.YtdanjeoiandjfaaDoor
