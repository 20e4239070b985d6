/- The walk of kinlaw18.VbvPlays: it returns true, whatever the input. -/
import Derived.Test.YthjcidpfiddeeaaDoorVbvFirst
namespace Go.Proofs.YthjcidpfiddeeaaDoor
open Go Go.RowKit Go.Extern.Stop Go.Stop Go.Extern

/-- vbv.Check's answer. -/
def checkV (b : Bool) : Value := if b then .nilIface else .iface 32 (.int .i64 11)
theorem Check_any {qn qx re cu go ra ro fi : Int} (w : World) : Calls Tryd.prog 16 #[.agg #[.int .i64 qn, .int .i64 qx, .int .i64 re, .int .i64 cu, .int .i64 go, .int .i64 ra, .int .i64 ro, .int .i64 fi]] w
    fun e w' => e = .returned (checkV (Vb.mayB qn qx re cu go ra ro fi)) ∧ Below w.heap.size w w' := by
  cases h : Vb.mayB qn qx re cu go ra ro fi with
  | true => exact Check_ok h w
  | false => exact Check_no h w

theorem outL_play {may sizes : Bool} {rate room has : Int} {l : List Int} : (outL (bucketR may sizes (Vb.play rate room 0 has l))).length ≤ l.length := by
  unfold bucketR
  split
  · split
    · cases h : Vb.play rate room 0 has l with
      | ok p => simp [outL, Vb.play_length h]
      | error e => simp [outL]
    · simp [outL]
  · simp [outL]
theorem outL_fills {may sizes : Bool} {rate room has : Int} {l : List Int} : (outL (bucketR may sizes (Vb.fills rate room 0 has l))).length ≤ l.length := by
  unfold bucketR
  split
  · split
    · cases h : Vb.fills rate room 0 has l with
      | ok p => simp [outL, Vb.fills_length h]
      | error e => simp [outL]
    · simp [outL]
  · simp [outL]

set_option maxRecDepth 100000 in
set_option maxHeartbeats 4000000 in
theorem VbvPlays_walk {qn qx re cu go ra ro fi : Int} {A : Option Addr} {l : List Int} {c : Nat} (hl : l.length ≤ 9223372036854775807) (w : World) (hg : Gl w) (ha : RdI .i64 w A l) :
    Calls Tryd.prog 3 #[.agg #[.int .i64 qn, .int .i64 qx, .int .i64 re, .int .i64 cu, .int .i64 go, .int .i64 ra, .int .i64 ro, .int .i64 fi], .slice A l.length c] w
      fun e w' => e = .returned (.bool true) ∧ Below w.heap.size w w' := by
  have HG := Lib.hid hg
  have HA := Lib.hid ha
  clear hg ha
  have hb0 : Below w.heap.size w (w.alloc (cfgC qn qx re cu go ra ro fi)) := (Below.refl _ _).alloc (Nat.le_refl _) _
  by_cases h5 : l.length ≤ 5000
  · obtain ⟨r1, hr1⟩ : ∃ r, bucketR (Vb.mayB qn qx re cu go ra ro fi) (Vb.sizesB l) (Vb.play ra ro 0 fi l) = r := ⟨_, rfl⟩
    obtain ⟨r2, hr2⟩ : ∃ r, bucketR (Vb.mayB qn qx re cu go ra ro fi) (Vb.sizesB l) (Vb.fills ra ro 0 fi l) = r := ⟨_, rfl⟩
    have hg1 : GoodR r1 := by rw [← hr1]; exact goodR fun _ _ => play_code
    have hg2 : GoodR r2 := by rw [← hr2]; exact goodR fun _ _ => fills_code
    have hp1 := outP_le hg1
    have hp2 := outP_le hg2
    have hl1 : (outL r1).length ≤ 9223372036854775807 := by rw [← hr1]; exact Nat.le_trans outL_play hl
    have hl2 : (outL r2).length ≤ 9223372036854775807 := by rw [← hr2]; exact Nat.le_trans outL_fills hl
    have HR1 := Lib.hid hr1
    have HR2 := Lib.hid hr2
    clear hr1 hr2 hg1 hg2
    cases hmay : Vb.mayB qn qx re cu go ra ro fi
    all_goals (
      have HM := Lib.hid hmay
      clear hmay
      go_enter Tryd.func3, Tryd.ntmps3
      go_wp2_with fail
      refine (first_true _ (HG.out.keep hb0)).mono ?_
      rintro e w1 ⟨rfl, hb1⟩
      have hbA : Below w.heap.size w w1 := hb0.trans (hb1.mono hb0.size)
      have hcf := (Blk.new w 23 #[.int .i64 qn, .int .i64 qx, .int .i64 re, .int .i64 cu, .int .i64 go, .int .i64 ra, .int .i64 ro, .int .i64 fi]).keep hb1
      clear hb1 hb0
      go_wp2_with fail
      refine (CopyInts_any (by omega) _ (HA.out.keep hbA)).mono ?_
      rintro e w2 ⟨A2, c2, rfl, hi2, hb2⟩
      have hbB : Below w.heap.size w w2 := hbA.trans (hb2.mono hbA.size)
      have hcf2 := hcf.keep hb2
      clear hcf hbA hb2
      obtain ⟨a0, a1, a2, a3, a4, a5, a6, a7⟩ := cfg_cells hcf2
      go_wp2_with fail
      refine (RMay_any _).mono ?_
      rw [HM.out]
      rintro e w3 ⟨rfl, hb3⟩
      clear a0 a1 a2 a3 a4 a5 a6 a7
      have hbC : Below w.heap.size w w3 := hbB.trans (hb3.mono hbB.size)
      have hcf3 := hcf2.keep hb3
      have hi3 := hi2.keep hb3
      clear hcf2 hi2 hb3 hbB
      obtain ⟨a0, a1, a2, a3, a4, a5, a6, a7⟩ := cfg_cells hcf3
      go_wp2_with fail
      refine (Play_res hl _ hi3).mono ?_
      rw [HR1.out]
      rintro e w4 ⟨A4, c4, v4, rfl, hp4, he4, hb4⟩
      clear a0 a1 a2 a3 a4 a5 a6 a7
      have hbD : Below w.heap.size w w4 := hbC.trans (hb4.mono hbC.size)
      have hcf4 := hcf3.keep hb4
      have hi4 := hi3.keep hb4
      clear hcf3 hi3 hb4 hbC
      obtain ⟨a0, a1, a2, a3, a4, a5, a6, a7⟩ := cfg_cells hcf4
      go_wp2_with fail
      refine (RPlay_res hl _ (HA.out.keep hbD)).mono ?_
      rw [HR1.out]
      rintro e w5 ⟨A5, c5, B5, d5, rfl, hp5, hq5, hb5⟩
      clear a0 a1 a2 a3 a4 a5 a6 a7
      have hbX : Below w4.heap.size w4 (w5.alloc (.cells #[.int .i64 (outC r1), .slice B5 (outP r1).length d5] 35)) := hb5.alloc hb5.size _
      have hbE : Below w.heap.size w _ := hbD.trans (hbX.mono hbD.size)
      have hcf5 := hcf4.keep hbX
      have hi5 := hi4.keep hbX
      have hp45 := hp4.keep hbX
      have he45 := he4.keep hbX
      have hp55 := hp5.alloc (.cells #[.int .i64 (outC r1), .slice B5 (outP r1).length d5] 35)
      have hq55 := hq5.alloc (.cells #[.int .i64 (outC r1), .slice B5 (outP r1).length d5] 35)
      have hE5 := Blk.new w5 35 #[.int .i64 (outC r1), .slice B5 (outP r1).length d5]
      clear hcf4 hi4 hp4 he4 hp5 hq5 hbD hbX hb5
      obtain ⟨a0, a1, a2, a3, a4, a5, a6, a7⟩ := cfg_cells hcf5
      go_wp2_with fail
      refine (Fills_res hl _ hi5).mono ?_
      rw [HR2.out]
      rintro e w6 ⟨A6, c6, v6, rfl, hp6, he6, hb6⟩
      clear a0 a1 a2 a3 a4 a5 a6 a7
      have hbF : Below w.heap.size w w6 := hbE.trans (hb6.mono hbE.size)
      have hcf6 := hcf5.keep hb6
      have hi6 := hi5.keep hb6
      have hp46 := hp45.keep hb6
      have he46 := he45.keep hb6
      have hp56 := hp55.keep hb6
      have hq56 := hq55.keep hb6
      have hE6 := hE5.keep hb6
      clear hcf5 hi5 hp45 he45 hp55 hq55 hbE hb6 hE5
      obtain ⟨a0, a1, a2, a3, a4, a5, a6, a7⟩ := cfg_cells hcf6
      go_wp2_with fail
      refine (RFills_res hl _ (HA.out.keep hbF)).mono ?_
      rw [HR2.out]
      rintro e w7 ⟨A7, c7, B7, d7, rfl, hp7, hq7, hb7⟩
      clear a0 a1 a2 a3 a4 a5 a6 a7
      have hbX : Below w6.heap.size w6 (w7.alloc (.cells #[.int .i64 (outC r2), .slice B7 (outP r2).length d7] 35)) := hb7.alloc hb7.size _
      have hbG : Below w.heap.size w _ := hbF.trans (hbX.mono hbF.size)
      have hcf7 := hcf6.keep hbX
      have hi7 := hi6.keep hbX
      have hp47 := hp46.keep hbX
      have he47 := he46.keep hbX
      have hp57 := hp56.keep hbX
      have hq57 := hq56.keep hbX
      have hp67 := hp6.keep hbX
      have he67 := he6.keep hbX
      have hE7 := hE6.keep hbX
      have hp77 := hp7.alloc (.cells #[.int .i64 (outC r2), .slice B7 (outP r2).length d7] 35)
      have hq77 := hq7.alloc (.cells #[.int .i64 (outC r2), .slice B7 (outP r2).length d7] 35)
      have hF7 := Blk.new w7 35 #[.int .i64 (outC r2), .slice B7 (outP r2).length d7]
      clear hcf6 hi6 hp46 he46 hp56 hq56 hp6 he6 hE6 hp7 hq7 hbF hbX hb7
      go_wp2_with fail
      refine (first_true _ (HG.out.keep hbG)).mono ?_
      generalize (w7.alloc (.cells #[.int .i64 (outC r2), .slice B7 (outP r2).length d7] 35)) = wA at *
      rintro e w8 ⟨rfl, hb8⟩
      obtain ⟨a0, a1, a2, a3, a4, a5, a6, a7⟩ := cfg_cells (hcf7.keep hb8)
      go_wp2_with fail
      refine (May_any _).mono ?_
      rw [HM.out]
      rintro e w9 ⟨rfl, hb9⟩
      have hb19 : Below wA.heap.size wA w9 := hb8.trans (hb9.mono hb8.size)
      clear a0 a1 a2 a3 a4 a5 a6 a7 hb8 hb9
      obtain ⟨a0, a1, a2, a3, a4, a5, a6, a7⟩ := cfg_cells (hcf7.keep hb19)
      go_wp2_with fail
      refine (Check_any _).mono ?_
      rw [HM.out]
      rintro e w10 ⟨rfl, hb10⟩
      have hb110 : Below wA.heap.size wA w10 := hb19.trans (hb10.mono hb19.size)
      clear a0 a1 a2 a3 a4 a5 a6 a7 hb19 hb10
      simp only [checkV, if_true, Bool.false_eq_true, if_false]
      go_wp2_with fail
      refine (Ints_same hl1 _ (hp47.keep hb110) (hp57.keep hb110)).mono ?_
      rintro e w11 ⟨rfl, hb11⟩
      have hb111 : Below wA.heap.size wA w11 := hb110.trans (hb11.mono hb110.size)
      have x0 : w11.cell? ⟨w5.heap.size, 0, none⟩ = some (.int .i64 (outC r1)) := by rw [(hE7.keep hb111).cell]; rfl
      have x1 : w11.cell? ⟨w5.heap.size, 1, none⟩ = some (.slice B5 (outP r1).length d5) := by rw [(hE7.keep hb111).cell]; rfl
      clear hb110 hb11
      go_wp2_with fail
      refine (Err_res hp1 _ (HG.out.keep (hbG.trans (hb111.mono hbG.size))) (he47.keep hb111) (hq57.keep hb111)).mono ?_
      rintro e w12 ⟨rfl, hb12⟩
      have hb112 : Below wA.heap.size wA w12 := hb111.trans (hb12.mono hb111.size)
      clear hb111 hb12 x0 x1
      go_wp2_with fail
      refine (Ints_same hl2 _ (hp67.keep hb112) (hp77.keep hb112)).mono ?_
      rintro e w13 ⟨rfl, hb13⟩
      have hb113 : Below wA.heap.size wA w13 := hb112.trans (hb13.mono hb112.size)
      have x0 : w13.cell? ⟨w7.heap.size, 0, none⟩ = some (.int .i64 (outC r2)) := by rw [(hF7.keep hb113).cell]; rfl
      have x1 : w13.cell? ⟨w7.heap.size, 1, none⟩ = some (.slice B7 (outP r2).length d7) := by rw [(hF7.keep hb113).cell]; rfl
      clear hb112 hb13
      go_wp2_with fail
      refine (Err_res hp2 _ (HG.out.keep (hbG.trans (hb113.mono hbG.size))) (he67.keep hb113) (hq77.keep hb113)).mono ?_
      rintro e w14 ⟨rfl, hb14⟩
      have hb114 : Below wA.heap.size wA w14 := hb113.trans (hb14.mono hb113.size)
      have hbH : Below w.heap.size w w14 := hbG.trans (hb114.mono hbG.size)
      clear hb113 hb14 x0 x1
      go_wp2_with fail
      refine (Ints_same hl _ (hi7.keep hb114) (HA.out.keep hbH)).mono ?_
      rintro e w15 ⟨rfl, hb15⟩
      go_wp2_with fail
      go_ret
      exact ⟨rfl, hbH.trans (hb15.mono hbH.size)⟩)
  · go_enter Tryd.func3, Tryd.ntmps3
    go_wp2_with fail
    refine (first_true _ (HG.out.keep hb0)).mono ?_
    rintro e w1 ⟨rfl, hb1⟩
    have hbA : Below w.heap.size w w1 := hb0.trans (hb1.mono hb0.size)
    go_wp2_with fail
    refine (first_true _ (HG.out.keep hbA)).mono ?_
    rintro e w2 ⟨rfl, hb2⟩
    go_wp2_with fail
    go_ret
    exact ⟨rfl, hbA.trans (hb2.mono hbA.size)⟩

end Go.Proofs.YthjcidpfiddeeaaDoor
