/- The walks of kinlaw19.first and kinlaw19.AllocCaps: they return true, whatever the input. -/
import Derived.Test.YtiaplanhlkndiaaDoorRefCaps
namespace Go.Proofs.YtiaplanhlkndiaaDoor
open Go Go.RowKit Go.Extern.Stop Go.Stop Go.Extern

/-- The cells of a configuration. -/
theorem cfg_cells {w : World} {g : Nat} {qn qx re cu go ra ro fi : Int} (h : Blk w g 23 #[.int .i64 qn, .int .i64 qx, .int .i64 re, .int .i64 cu, .int .i64 go, .int .i64 ra, .int .i64 ro, .int .i64 fi]) :
    w.cell? ⟨g, 0, none⟩ = some (.int .i64 qn) ∧ w.cell? ⟨g, 1, none⟩ = some (.int .i64 qx) ∧ w.cell? ⟨g, 2, none⟩ = some (.int .i64 re) ∧ w.cell? ⟨g, 3, none⟩ = some (.int .i64 cu) ∧
    w.cell? ⟨g, 4, none⟩ = some (.int .i64 go) ∧ w.cell? ⟨g, 5, none⟩ = some (.int .i64 ra) ∧ w.cell? ⟨g, 6, none⟩ = some (.int .i64 ro) ∧ w.cell? ⟨g, 7, none⟩ = some (.int .i64 fi) :=
  ⟨by rw [h.cell]; rfl, by rw [h.cell]; rfl, by rw [h.cell]; rfl, by rw [h.cell]; rfl, by rw [h.cell]; rfl, by rw [h.cell]; rfl, by rw [h.cell]; rfl, by rw [h.cell]; rfl⟩

theorem capsR_112 : capsR (Vb.mayB 0 15 0 0 4 10 30 20) 10 30 20 [1, 1, 2] = .ok [10, 10, 20] := by rfl
theorem capsR_100 : capsR (Vb.mayB 0 15 0 0 4 10 30 20) 10 30 20 [100, 1] = .ok [20, 8] := by rfl
theorem capsR_none : capsR (Vb.mayB 0 15 0 0 4 10 30 20) 10 30 20 [] = .error ([], 3) := by rfl

set_option maxRecDepth 100000 in
set_option maxHeartbeats 400000 in
theorem first_true (w : World) (hg : Gl w) : Calls Tryd.prog 7 #[] w fun e w' => e = .returned (.bool true) ∧ Below w.heap.size w w' := by
  have HG := Lib.hid hg
  clear hg
  go_enter Tryd.func7, Tryd.ntmps7
  go_wp2_with fail
  refine (Caps_any (l := [1, 1, 2]) (A := some ⟨w.heap.size + 1, 0, none⟩) (c := 3) (by simp) _ (RdI.of_blk (Blk.new1 _ _ _ _) rfl)).mono ?_
  rw [capsR_112]
  rintro e w1 ⟨A1, c1, rfl, hr1, hb1⟩
  have hcf := ((Blk.new w 23 #[.int .i64 0, .int .i64 15, .int .i64 0, .int .i64 0, .int .i64 4, .int .i64 10, .int .i64 30, .int .i64 20]).alloc (.cells #[.int .i64 1, .int .i64 1, .int .i64 2] 3)).keep hb1
  obtain ⟨a0, a1, a2, a3, a4, a5, a6, a7⟩ := cfg_cells hcf
  have hz1 := hb1.size
  simp at hz1
  have hbA : Below w.heap.size w w1 := (((Below.refl _ _).alloc (Nat.le_refl _) _).alloc (by simp) _).trans (hb1.mono (by simp; omega))
  clear hb1
  go_wp2_with fail
  refine (Caps_any (l := [100, 1]) (A := some ⟨w1.heap.size, 0, none⟩) (c := 2) (by simp) _ (RdI.of_blk (Blk.new _ _ _) rfl)).mono ?_
  rw [capsR_100]
  rintro e w2 ⟨A2, c2, rfl, hr2, hb2⟩
  have hbB : Below w1.heap.size w1 w2 := ((Below.refl _ _).alloc (Nat.le_refl _) _).trans (hb2.mono (by simp))
  clear a0 a1 a2 a3 a4 a5 a6 a7 hb2
  have hcf2 := hcf.keep hbB
  obtain ⟨a0, a1, a2, a3, a4, a5, a6, a7⟩ := cfg_cells hcf2
  go_wp2_with fail
  refine (Caps_any (l := []) (A := none) (c := 0) (by simp) _ RdI.nil).mono ?_
  rw [capsR_none]
  rintro e w3 ⟨v3, rfl, he3, hb3⟩
  obtain rfl : v3 = _ := he3
  clear a0 a1 a2 a3 a4 a5 a6 a7
  go_wp2_with fail
  refine (Ints_same (l := [10, 10, 20]) (A := A1) (B := some ⟨w3.heap.size, 0, none⟩) (c := c1) (d := 3) (by simp) _ ((hr1.keep (hbB.trans (hb3.mono hbB.size))).alloc _) (RdI.of_blk (Blk.new _ _ _) rfl)).mono ?_
  rintro e w4 ⟨rfl, hb4⟩
  have hbC : Below w3.heap.size w3 w4 := ((Below.refl _ _).alloc (Nat.le_refl _) _).trans (hb4.mono (by simp))
  go_wp2_with fail
  refine (Ints_same (l := [20, 8]) (A := A2) (B := some ⟨w4.heap.size, 0, none⟩) (c := c2) (d := 2) (by simp) _ ((hr2.keep (hb3.trans (hbC.mono hb3.size))).alloc _) (RdI.of_blk (Blk.new _ _ _) rfl)).mono ?_
  rintro e w5 ⟨rfl, hb5⟩
  have hbD : Below w4.heap.size w4 w5 := ((Below.refl _ _).alloc (Nat.le_refl _) _).trans (hb5.mono (by simp))
  go_wp2_with fail
  refine (Fail_any _ _).mono ?_
  rintro e w6 ⟨rfl, hb6⟩
  have hb3' : Below w.heap.size w w3 := hbA.trans ((hbB.trans (hb3.mono hbB.size)).mono hbA.size)
  have hb4' : Below w.heap.size w w4 := hb3'.trans (hbC.mono hb3'.size)
  have hb5' : Below w.heap.size w w5 := hb4'.trans (hbD.mono hb4'.size)
  have hb6' : Below w.heap.size w w6 := hb5'.trans (hb6.mono hb5'.size)
  go_wp2_with fail
  refine (Err_some (path := []) (c := 3) (A := none) (cap := 0) (by simp) (by omega) _ (HG.out.keep hb6') rfl Rd.nil).mono ?_
  rintro e w7 ⟨rfl, hb7⟩
  go_wp2_with fail
  go_ret
  exact ⟨rfl, hb6'.trans (hb7.mono hb6'.size)⟩

theorem capsR_err {may : Bool} {ra ro fi : Int} {l : List Int} {p : List (ByteArray × Int)} {c : Int} (h : capsR may ra ro fi l = .error (p, c)) : p = [] ∧ c ≠ 0 := by
  unfold capsR at h
  split at h
  · split at h
    · cases h
    · cases h; exact ⟨rfl, by omega⟩
  · cases h; exact ⟨rfl, by omega⟩

theorem capsR_len {may : Bool} {ra ro fi : Int} {l m : List Int} (h : capsR may ra ro fi l = .ok m) : m.length = l.length := by
  unfold capsR at h
  split at h
  · split at h
    · cases h; exact Vb.caps_length _ _ _ _ _ _
    · cases h
  · cases h

set_option maxRecDepth 100000 in
set_option maxHeartbeats 4000000 in
theorem AllocCaps_walk {qn qx re cu go ra ro fi : Int} {A : Option Addr} {l : List Int} {c : Nat} (hl : l.length ≤ 9223372036854775807) (w : World) (hg : Gl w) (ha : RdI .i64 w A l) :
    Calls Tryd.prog 3 #[.agg #[.int .i64 qn, .int .i64 qx, .int .i64 re, .int .i64 cu, .int .i64 go, .int .i64 ra, .int .i64 ro, .int .i64 fi], .slice A l.length c] w
      fun e w' => e = .returned (.bool true) ∧ Below w.heap.size w w' := by
  have HG := Lib.hid hg
  have HA := Lib.hid ha
  clear hg ha
  have hb0 : Below w.heap.size w (w.alloc (cfgC qn qx re cu go ra ro fi)) := (Below.refl _ _).alloc (Nat.le_refl _) _
  by_cases h5 : l.length ≤ 5000
  · go_enter Tryd.func3, Tryd.ntmps3
    go_wp2_with fail
    refine (first_true _ (HG.out.keep hb0)).mono ?_
    rintro e w1 ⟨rfl, hb1⟩
    have hbA : Below w.heap.size w w1 := hb0.trans (hb1.mono hb0.size)
    have hcf := (Blk.new w 23 #[.int .i64 qn, .int .i64 qx, .int .i64 re, .int .i64 cu, .int .i64 go, .int .i64 ra, .int .i64 ro, .int .i64 fi]).keep hb1
    clear hb1 hb0
    go_wp2_with fail
    refine (CopyInts_any (by omega) _ (HA.out.keep hbA)).mono ?_
    rintro e w2 ⟨A2, c2, rfl, hr2, hb2⟩
    have hbB : Below w.heap.size w w2 := hbA.trans (hb2.mono hbA.size)
    have hcf2 := hcf.keep hb2
    clear hcf hbA hb2
    obtain ⟨a0, a1, a2, a3, a4, a5, a6, a7⟩ := cfg_cells hcf2
    go_wp2_with fail
    cases hr : capsR (Vb.mayB qn qx re cu go ra ro fi) ra ro fi l with
    | ok m =>
      have HR := Lib.hid hr
      have hml : m.length ≤ 9223372036854775807 := by
        have := capsR_len hr
        omega
      clear hr
      refine (Caps_any hl _ hr2).mono ?_
      rw [HR.out]
      rintro e w3 ⟨A3, c3, rfl, hr3, hb3⟩
      have hbC : Below w.heap.size w w3 := hbB.trans (hb3.mono hbB.size)
      have hcf3 := hcf2.keep hb3
      clear a0 a1 a2 a3 a4 a5 a6 a7
      obtain ⟨a0, a1, a2, a3, a4, a5, a6, a7⟩ := cfg_cells hcf3
      go_wp2_with fail
      refine (RCaps_any hl _ (HA.out.keep hbC)).mono ?_
      rw [HR.out]
      rintro e w4 ⟨A4, c4, rfl, hr4, hb4⟩
      have hbD : Below w.heap.size w w4 := hbC.trans (hb4.mono hbC.size)
      clear a0 a1 a2 a3 a4 a5 a6 a7
      go_wp2_with fail
      have hbE0 := hbD.alloc hbD.size (.cells #[.int .i64 0, .slice none 0 0] 34)
      have hbE := Below.alloc (Below.refl w4.heap.size w4) (Nat.le_refl _) (.cells #[.int .i64 0, .slice none 0 0] 34)
      refine (first_true _ (HG.out.keep hbE0)).mono ?_
      rintro e w5 ⟨rfl, hb5⟩
      have hbF : Below w.heap.size w w5 := hbE0.trans (hb5.mono hbE0.size)
      have hbF4 : Below w4.heap.size w4 w5 := hbE.trans (hb5.mono (by simp))
      have he5 := (Blk.new w4 34 #[.int .i64 0, .slice none 0 0]).keep hb5
      go_wp2_with fail
      refine (Ints_same hml _ (hr3.keep (hb4.trans (hbF4.mono hb4.size))) (hr4.keep hbF4)).mono ?_
      rintro e w6 ⟨rfl, hb6⟩
      have hbG : Below w.heap.size w w6 := hbF.trans (hb6.mono hbF.size)
      have hbG4 : Below w4.heap.size w4 w6 := hbF4.trans (hb6.mono hbF4.size)
      have he6 := he5.keep hb6
      have e0 : w6.cell? ⟨w4.heap.size, 0, none⟩ = some (.int .i64 0) := by rw [he6.cell]; rfl
      have e1 : w6.cell? ⟨w4.heap.size, 1, none⟩ = some (.slice none 0 0) := by rw [he6.cell]; rfl
      go_wp2_with fail
      refine (Err_none (A := none) (cap := 0) _ (HG.out.keep hbG)).mono ?_
      rintro e w7 ⟨rfl, hb7⟩
      have hbH : Below w.heap.size w w7 := hbG.trans (hb7.mono hbG.size)
      have hbH4 : Below w4.heap.size w4 w7 := hbG4.trans (hb7.mono hbG4.size)
      go_wp2_with fail
      refine (Ints_same hl _ (hr2.keep (hb3.trans ((hb4.trans (hbH4.mono hb4.size)).mono hb3.size))) (HA.out.keep hbH)).mono ?_
      rintro e w8 ⟨rfl, hb8⟩
      go_wp2_with fail
      go_ret
      exact ⟨rfl, hbH.trans (hb8.mono hbH.size)⟩
    | error x =>
      obtain ⟨p, k⟩ := x
      obtain ⟨rfl, hk⟩ := capsR_err hr
      have HR := Lib.hid hr
      clear hr
      refine (Caps_any hl _ hr2).mono ?_
      rw [HR.out]
      rintro e w3 ⟨v3, rfl, he3, hb3⟩
      obtain rfl : v3 = _ := he3
      have hbC : Below w.heap.size w w3 := hbB.trans (hb3.mono hbB.size)
      have hcf3 := hcf2.keep hb3
      clear a0 a1 a2 a3 a4 a5 a6 a7
      obtain ⟨a0, a1, a2, a3, a4, a5, a6, a7⟩ := cfg_cells hcf3
      go_wp2_with fail
      refine (RCaps_any hl _ (HA.out.keep hbC)).mono ?_
      rw [HR.out]
      rintro e w4 ⟨A4, c4, rfl, hr4, hb4⟩
      have hbD : Below w.heap.size w w4 := hbC.trans (hb4.mono hbC.size)
      clear a0 a1 a2 a3 a4 a5 a6 a7
      go_wp2_with fail
      have hbE0 := hbD.alloc hbD.size (.cells #[.int .i64 k, .slice A4 0 c4] 34)
      have hbE := Below.alloc (Below.refl w4.heap.size w4) (Nat.le_refl _) (.cells #[.int .i64 k, .slice A4 0 c4] 34)
      refine (first_true _ (HG.out.keep hbE0)).mono ?_
      rintro e w5 ⟨rfl, hb5⟩
      have hbF : Below w.heap.size w w5 := hbE0.trans (hb5.mono hbE0.size)
      have hbF4 : Below w4.heap.size w4 w5 := hbE.trans (hb5.mono (by simp))
      have he5 := (Blk.new w4 34 #[.int .i64 k, .slice A4 0 c4]).keep hb5
      go_wp2_with fail
      refine (Ints_same (l := []) (by simp) _ RdI.nil RdI.nil).mono ?_
      rintro e w6 ⟨rfl, hb6⟩
      have hbG : Below w.heap.size w w6 := hbF.trans (hb6.mono hbF.size)
      have hbG4 : Below w4.heap.size w4 w6 := hbF4.trans (hb6.mono hbF4.size)
      have he6 := he5.keep hb6
      have e0 : w6.cell? ⟨w4.heap.size, 0, none⟩ = some (.int .i64 k) := by rw [he6.cell]; rfl
      have e1 : w6.cell? ⟨w4.heap.size, 1, none⟩ = some (.slice A4 0 c4) := by rw [he6.cell]; rfl
      go_wp2_with fail
      refine (Err_some (path := []) (c := k) (A := A4) (cap := c4) (by simp) hk _ (HG.out.keep hbG) rfl (hr4.keep hbG4)).mono ?_
      rintro e w7 ⟨rfl, hb7⟩
      have hbH : Below w.heap.size w w7 := hbG.trans (hb7.mono hbG.size)
      have hbH4 : Below w4.heap.size w4 w7 := hbG4.trans (hb7.mono hbG4.size)
      go_wp2_with fail
      refine (Ints_same hl _ (hr2.keep (hb3.trans ((hb4.trans (hbH4.mono hb4.size)).mono hb3.size))) (HA.out.keep hbH)).mono ?_
      rintro e w8 ⟨rfl, hb8⟩
      go_wp2_with fail
      go_ret
      exact ⟨rfl, hbH.trans (hb8.mono hbH.size)⟩
  · go_enter Tryd.func3, Tryd.ntmps3
    go_wp2_with fail
    refine (first_true _ (HG.out.keep hb0)).mono ?_
    rintro e w1 ⟨rfl, hb1⟩
    have hbA : Below w.heap.size w w1 := hb0.trans (hb1.mono hb0.size)
    go_wp2_with fail
    refine (first_true _ (HG.out.keep hbA)).mono ?_
    rintro e w2 ⟨rfl, hb2⟩
    go_wp2_with fail
    go_ret
    exact ⟨rfl, hbA.trans (hb2.mono hbA.size)⟩

end Go.Proofs.YtiaplanhlkndiaaDoor
