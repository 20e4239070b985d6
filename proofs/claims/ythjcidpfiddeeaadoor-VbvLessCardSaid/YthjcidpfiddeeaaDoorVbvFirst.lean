/- The walk of kinlaw18.first: it returns true. -/
import Derived.Test.YthjcidpfiddeeaaDoorRes
namespace Go.Proofs.YthjcidpfiddeeaaDoor
open Go Go.RowKit Go.Extern.Stop Go.Stop Go.Extern

theorem play_1025 : bucketR (Vb.mayB 0 15 0 0 4 10 30 20) (Vb.sizesB [10, 25]) (Vb.play 10 30 0 20 [10, 25]) = .error ([(sVbv, 1)], 14) := by rfl
theorem play_101010 : bucketR (Vb.mayB 0 15 0 0 4 10 30 20) (Vb.sizesB [10, 10, 10]) (Vb.play 10 30 0 20 [10, 10, 10]) = .ok [20, 20, 20] := by rfl
theorem fills_880 : bucketR (Vb.mayB 0 15 0 0 4 10 30 20) (Vb.sizesB [8, 8, 0]) (Vb.fills 10 30 0 20 [8, 8, 0]) = .ok [0, 0, 4] := by rfl

set_option maxRecDepth 100000 in
set_option maxHeartbeats 1000000 in
theorem first_true (w : World) (hg : Gl w) : Calls Tryd.prog 8 #[] w fun e w' => e = .returned (.bool true) ∧ Below w.heap.size w w' := by
  have HG := Lib.hid hg
  clear hg
  go_enter Tryd.func8, Tryd.ntmps8
  go_wp2_with fail
  refine (bucket_any _ _ _ _).mono ?_
  rintro e w1 ⟨rfl, hb1⟩
  go_wp2_with fail
  refine (Play_any (l := [10, 25]) (A := some ⟨w1.heap.size + 1, 0, none⟩) (c := 2) (by simp) _ (RdI.of_blk (Blk.new1 _ _ _ _) rfl)).mono ?_
  rw [play_1025]
  rintro e w2 ⟨v2, rfl, he2, hb2⟩
  have hcf := ((Blk.new w1 23 #[.int .i64 0, .int .i64 15, .int .i64 0, .int .i64 0, .int .i64 4, .int .i64 10, .int .i64 30, .int .i64 20]).alloc (.cells #[.int .i64 10, .int .i64 25] 3)).keep hb2
  obtain ⟨a0, a1, a2, a3, a4, a5, a6, a7⟩ := cfg_cells hcf
  have hbA : Below w1.heap.size w1 w2 := (((Below.refl _ _).alloc (Nat.le_refl _) _).alloc (by simp) _).trans (hb2.mono (by simp; omega))
  have hbB : Below w.heap.size w w2 := hb1.trans (hbA.mono hb1.size)
  clear hb2 hb1 hbA
  go_wp2_with fail
  refine (Play_any (l := [10, 10, 10]) (A := some ⟨w2.heap.size, 0, none⟩) (c := 3) (by simp) _ (RdI.of_blk (Blk.new _ _ _) rfl)).mono ?_
  rw [play_101010]
  rintro e w3 ⟨A3, c3, rfl, hr3, hb3⟩
  have hbC : Below w2.heap.size w2 w3 := ((Below.refl _ _).alloc (Nat.le_refl _) _).trans (hb3.mono (by simp))
  clear a0 a1 a2 a3 a4 a5 a6 a7 hb3
  have hcf3 := hcf.keep hbC
  have hbD : Below w.heap.size w w3 := hbB.trans (hbC.mono hbB.size)
  have he3 := he2.below hbC
  obtain ⟨a0, a1, a2, a3, a4, a5, a6, a7⟩ := cfg_cells hcf3
  clear hcf he2 hbC hbB
  go_wp2_with fail
  refine (Fills_any (l := [8, 8, 0]) (A := some ⟨w3.heap.size, 0, none⟩) (c := 3) (by simp) _ (RdI.of_blk (Blk.new _ _ _) rfl)).mono ?_
  rw [fills_880]
  rintro e w4 ⟨A4, c4, rfl, hr4, hb4⟩
  have hbE : Below w3.heap.size w3 w4 := ((Below.refl _ _).alloc (Nat.le_refl _) _).trans (hb4.mono (by simp))
  clear a0 a1 a2 a3 a4 a5 a6 a7 hb4
  have hcf4 := hcf3.keep hbE
  have hbF : Below w.heap.size w w4 := hbD.trans (hbE.mono hbD.size)
  have he4 := he3.below hbE
  have hr34 := hr3.keep hbE
  clear hcf3 he3 hbD hr3 hbE
  go_wp2_with fail
  refine (Wrap_any sVbv 1 (c := 14) (by omega) _).mono ?_
  rintro e w5 ⟨A5, c5, rfl, hr5, _, hb5⟩
  have hbG : Below w.heap.size w w5 := hbF.trans (hb5.mono hbF.size)
  go_wp2_with fail
  refine (Err_some (path := [(sVbv, 1)]) (c := 14) (A := A5) (cap := c5) (by simp) (by omega) _ (HG.out.keep hbG) (he4.below hb5) hr5).mono ?_
  rintro e w6 ⟨rfl, hb6⟩
  have hbH : Below w4.heap.size w4 w6 := hb5.trans (hb6.mono hb5.size)
  clear he4 hr5
  go_wp2_with fail
  refine (Ints_same (l := [20, 20, 20]) (A := A3) (B := some ⟨w6.heap.size, 0, none⟩) (c := c3) (d := 3) (by simp) _ ((hr34.keep hbH).alloc _) (RdI.of_blk (Blk.new _ _ _) rfl)).mono ?_
  rintro e w7 ⟨rfl, hb7⟩
  have hbI : Below w4.heap.size w4 w7 := (hbH.alloc hbH.size _).trans (hb7.mono (by simp; have := hbH.size; omega))
  clear hbH hb7 hr34
  go_wp2_with fail
  refine (Ints_same (l := [0, 0, 4]) (A := A4) (B := some ⟨w7.heap.size, 0, none⟩) (c := c4) (d := 3) (by simp) _ ((hr4.keep hbI).alloc _) (RdI.of_blk (Blk.new _ _ _) rfl)).mono ?_
  rintro e w8 ⟨rfl, hb8⟩
  have hbJ : Below w4.heap.size w4 w8 := (hbI.alloc hbI.size _).trans (hb8.mono (by simp; have := hbI.size; omega))
  clear hbI hb8 hr4
  have hcf8 := hcf4.keep hbJ
  obtain ⟨a0, a1, a2, a3, a4, a5, a6, a7⟩ := cfg_cells hcf8
  go_wp2_with fail
  refine (May_any _).mono ?_
  rintro e w9 ⟨rfl, hb9⟩
  have hbK : Below w4.heap.size w4 w9 := hbJ.trans (hb9.mono hbJ.size)
  clear a0 a1 a2 a3 a4 a5 a6 a7
  have hm1 : Vb.mayB 0 15 0 0 4 10 30 20 = true := by rfl
  rw [hm1]
  go_wp2_with fail
  refine (Check_no (by rfl) _).mono ?_
  rintro e w10 ⟨rfl, hb10⟩
  have hbL : Below w4.heap.size w4 w10 := hbK.trans (hb10.mono hbK.size)
  go_wp2_with fail
  refine (Fail_any _ _).mono ?_
  rintro e w11 ⟨rfl, hb11⟩
  have hbM : Below w4.heap.size w4 w11 := hbL.trans (hb11.mono hbL.size)
  have hbN : Below w.heap.size w w11 := hbF.trans (hbM.mono hbF.size)
  go_wp2_with fail
  refine (Err_some (path := []) (c := 11) (A := none) (cap := 0) (by simp) (by omega) _ (HG.out.keep hbN) rfl Rd.nil).mono ?_
  rintro e w12 ⟨rfl, hb12⟩
  go_wp2_with fail
  go_ret
  exact ⟨rfl, hbN.trans (hb12.mono hbN.size)⟩

end Go.Proofs.YthjcidpfiddeeaaDoor
