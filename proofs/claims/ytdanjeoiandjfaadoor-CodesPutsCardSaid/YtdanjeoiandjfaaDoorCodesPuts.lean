/- The walk of kinlaw3.CodesPuts: it returns true, whatever the input. -/
import Derived.Test.YtdanjeoiandjfaaDoorCodesPutsC
namespace Go.Proofs.YtdanjeoiandjfaaDoor
open Go Go.RowKit Go.Extern.Stop Go.Stop Go.Extern

set_option maxRecDepth 100000 in
set_option maxHeartbeats 4000000 in
theorem CodesPuts_walk {B : Option Addr} {l : List Op3} {d : Nat} (hll : l.length ≤ 9223372036854775807) (hib : ∀ o ∈ l, InB o) (w : World) (hg : Gl w) (ho : RdO3 w B l) :
    Calls Tryd.prog 6 #[.slice B l.length d] w fun e w' => e = .returned (.bool true) ∧ Below w.heap.size w w' := by
  have HG := Lib.hid hg
  have HB := Lib.hid ho
  have HIB := Lib.hid hib
  clear hg ho hib
  go_enter Tryd.func6, Tryd.ntmps6
  go_wp2_with fail
  refine (first_true _ HG.out).mono ?_
  rintro e w1 ⟨rfl, hb1⟩
  have hs1 := hb1.size
  go_wp2_with fail
  refine (NewWriter_any _).mono ?_
  rintro e w2 ⟨rfl, hw2⟩
  have hwt : Wtr w2 w1.heap.size w1.heap.size (.slice none 0 0) [] := by rw [hw2]; exact Wtr.new _ _
  have hbA : Below w.heap.size w w2 := by rw [hw2]; exact hb1.alloc hb1.size _
  have hs2 := hwt.1.lt
  clear hw2
  go_wp2_with fail
  have hx3 := RWtr.new w2 w1.heap.size
  have hb3 : Below w2.heap.size w2 (w2.alloc (.cells #[.slice none 0 0] 38)) := (Below.refl _ _).alloc (Nat.le_refl _) _
  have hw3 := hwt.keep hb3
  have hbB := hbA.trans (hb3.mono hbA.size)
  obtain ⟨gx, hgx⟩ : ∃ gx, w2.heap.size = gx := ⟨_, rfl⟩
  obtain ⟨gw, hgw⟩ : ∃ gw, w1.heap.size = gw := ⟨_, rfl⟩
  rw [hgx] at hx3 hs2
  rw [hgw] at hx3 hw3 hs2 hs1
  rw [hgx, hgw]
  have HW3 := Lib.hid hw3
  have HX3 := Lib.hid hx3
  have hgwx : gw < gx := hs2
  clear hgx hgw hx3 hw3 hwt hb3
  go_loopg [5] l.length (fun k vi wr => ∃ (j : Nat) (m : List Bool) (v u : Value), j + k = l.length ∧ vi = .int .i64 j ∧ j ≤ 1000 ∧ m.length ≤ 61 * j ∧ Wtr wr gw gw v m ∧ RWtr wr gw gx u m ∧ Below w.heap.size w wr)
  case atStart => exact ⟨0, [], _, _, by omega, rfl, by omega, by simp, HW3.out, HX3.out, hbB⟩
  case round =>
    obtain ⟨j, m, v, u, hj, rfl, hj20, hml, hw, hx, hbel⟩ := hrel
    have HW := Lib.hid hw
    have HX := Lib.hid hx
    have hsz := hbel.size
    have hgwl := hw.1.lt
    have hgxl := hx.1.lt
    have hm9 : m.length ≤ 61000 := by omega
    clear hw hx
    rcases (show (j < l.length ∧ j < 1000) ∨ (j < l.length ∧ 1000 ≤ j) ∨ ¬ j < l.length by omega) with ⟨hlt, hj2⟩ | ⟨hlt, hj2⟩ | hlt
    · obtain ⟨b3, o3, rfl, q0, q1, q2, q3⟩ := HB.out.at_ hlt
      have hb3w : b3 < w.heap.size := lt_of_cell q0
      have hob := Lib.hid (HIB.out _ (List.getElem_mem hlt))
      obtain ⟨op, hop⟩ : ∃ op, l[j] = op := ⟨_, rfl⟩
      rw [hop] at q0 q1 q2 q3 hob
      have k0 := (hbel.cell (p := ⟨b3, o3 + j * 4, none⟩) hb3w).trans q0
      have k1 := (hbel.cell (p := ⟨b3, o3 + j * 4 + 1, none⟩) hb3w).trans q1
      have k2 := (hbel.cell (p := ⟨b3, o3 + j * 4 + 2, none⟩) hb3w).trans q2
      have k3 := (hbel.cell (p := ⟨b3, o3 + j * 4 + 3, none⟩) hb3w).trans q3
      have hlt' : (j : Int) < (l.length : Int) := by omega
      have hj2' : (j : Int) < 1000 := by omega
      have hwd : Hid (Wtr wr.drew gw gw v m) := HW.out
      have hxd : Hid (RWtr wr.drew gw gx u m) := HX.out
      have hbo := bitsOp_len op
      have hmn : (m ++ bitsOp op).length ≤ 61 * (j + 1) := by rw [List.length_append]; omega
      obtain ⟨M, hM⟩ : ∃ M, m ++ bitsOp op = M := ⟨_, rfl⟩
      rw [hM] at hmn
      have HM := Lib.hid hM
      have Q0 := Lib.hid q0
      have Q1 := Lib.hid q1
      have Q2 := Lib.hid q2
      have Q3 := Lib.hid q3
      have HPP := Lib.hid (puts_any (o := op) (by omega) hob.out HG.out hbel.drew (by omega) (by omega) (by omega) (by simp; omega) hwd.out hxd.out)
      clear hop q0 q1 q2 q3 hj2 hM hbo
      go_wp2_with fail
      go_region_law (first
          | (go_simp; go_at_call 24; refine HPP.out.mono ?_; rintro e w5 ⟨rfl, hb5, v5, u5, hw5, hx5⟩; rw [HM.out] at hw5 hx5; obtain ⟨AX, cX, rfl⟩ := own_slice hx5.2; have x0 : w5.cell? ⟨gx, 0, none⟩ = some (.slice AX M.length cX) := (by rw [hx5.1.cell]; rfl))
          | (go_simp; go_at_call 23; refine (WLen_any _ hw5).mono ?_; rintro e w6 ⟨rfl, rfl⟩))
      all_goals (
        have HW5 := Lib.hid hw5
        have HX5 := Lib.hid hx5
        clear hw5 hx5
        go_wp2_with fail
        go_roundg (gk - 1)
        case measure => omega
        case rel => exact ⟨j + 1, M, v5, .slice AX M.length cX, by omega, by go_num, by omega, hmn, HW5.out, HX5.out, hb5⟩)
    · have hge : ¬ ((j : Int) < 1000) := by omega
      have hlt' : (j : Int) < (l.length : Int) := by omega
      go_wp2_with fail
      refine (first_true _ (HG.out.keep hbel)).mono ?_
      rintro e w6 ⟨rfl, hb6⟩
      have hbD := hbel.trans (hb6.mono hbel.size)
      have HW6 := Lib.hid (HW.out.keep hb6)
      have HX6 := Lib.hid (HX.out.keep hb6)
      go_wp2_with fail
      refine (WBytes_any (by omega) _ HW6.out).mono ?_
      rintro e w7 ⟨A7, c7, rfl, hown7, hb7⟩
      have hbE := hbD.trans (hb7.mono hbD.size)
      have HX7 := Lib.hid (HX6.out.keep hb7)
      have HR7 := Lib.hid (RdI.of_own (k := .u8) (l := Bi.pack m) hown7).1
      obtain ⟨N7, hN7⟩ : ∃ N7, (Bi.pack m).length = N7 := ⟨_, rfl⟩
      have HN7 := Lib.hid hN7
      rw [hN7]
      clear hown7 hb7 hN7
      go_wp2_with fail
      refine (RBytes_any (by omega) _ HX7.out).mono ?_
      rintro e w8 ⟨A8, c8, rfl, hown8, hb8⟩
      have hbF := hbE.trans (hb8.mono hbE.size)
      have HR8 := Lib.hid (RdI.of_own (k := .u8) (l := Bi.pack m) hown8).1
      have HR78 := Lib.hid (HR7.out.keep hb8)
      rw [HN7.out]
      clear hown8
      go_wp2_with fail
      refine (Bytes_same (b := Bi.pack m) _ HN7.out.symm HN7.out.symm HR78.out HR8.out).mono ?_
      rintro e w9 ⟨rfl, rfl⟩
      go_wp2_with fail
      go_ret
      exact ⟨rfl, hbF⟩
    · have hge : ¬ ((j : Int) < (l.length : Int)) := by omega
      go_wp2_with fail
      refine (first_true _ (HG.out.keep hbel)).mono ?_
      rintro e w6 ⟨rfl, hb6⟩
      have hbD := hbel.trans (hb6.mono hbel.size)
      have HW6 := Lib.hid (HW.out.keep hb6)
      have HX6 := Lib.hid (HX.out.keep hb6)
      go_wp2_with fail
      refine (WBytes_any (by omega) _ HW6.out).mono ?_
      rintro e w7 ⟨A7, c7, rfl, hown7, hb7⟩
      have hbE := hbD.trans (hb7.mono hbD.size)
      have HX7 := Lib.hid (HX6.out.keep hb7)
      have HR7 := Lib.hid (RdI.of_own (k := .u8) (l := Bi.pack m) hown7).1
      obtain ⟨N7, hN7⟩ : ∃ N7, (Bi.pack m).length = N7 := ⟨_, rfl⟩
      have HN7 := Lib.hid hN7
      rw [hN7]
      clear hown7 hb7 hN7
      go_wp2_with fail
      refine (RBytes_any (by omega) _ HX7.out).mono ?_
      rintro e w8 ⟨A8, c8, rfl, hown8, hb8⟩
      have hbF := hbE.trans (hb8.mono hbE.size)
      have HR8 := Lib.hid (RdI.of_own (k := .u8) (l := Bi.pack m) hown8).1
      have HR78 := Lib.hid (HR7.out.keep hb8)
      rw [HN7.out]
      clear hown8
      go_wp2_with fail
      refine (Bytes_same (b := Bi.pack m) _ HN7.out.symm HN7.out.symm HR78.out HR8.out).mono ?_
      rintro e w9 ⟨rfl, rfl⟩
      go_wp2_with fail
      go_ret
      exact ⟨rfl, hbF⟩

end Go.Proofs.YtdanjeoiandjfaaDoor
