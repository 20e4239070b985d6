/- The walk of kinlaw3.CodesGets: it returns true, whatever the input. -/
import Derived.Test.YtdanjeoiandjfaaDoorCodesGetsC
namespace Go.Proofs.YtdanjeoiandjfaaDoor
open Go Go.RowKit Go.Extern.Stop Go.Stop Go.Extern

set_option maxRecDepth 100000 in
set_option maxHeartbeats 4000000 in
theorem CodesGets_walk {A B : Option Addr} {b : List Int} {l : List Op3} {c d : Nat} (hb : b.length ≤ 9223372036854775807) (hbd : ∀ x ∈ b, 0 ≤ x ∧ x ≤ 255) (w : World) (hg : Gl w) (ha : RdI .u8 w A b) (ho : RdO3 w B l) :
    Calls Tryd.prog 7 #[.slice A b.length c, .slice B l.length d] w fun e w' => e = .returned (.bool true) ∧ Below w.heap.size w w' := by
  have HG := Lib.hid hg
  have HA := Lib.hid ha
  have HB := Lib.hid ho
  have HBD := Lib.hid hbd
  have HAL : Hid (∀ p, A = some p → 0 < b.length → p.block < w.heap.size) := fun p hp h0 => by
    obtain ⟨b', o', e, hc⟩ := ha.at_ h0
    have := Option.some.inj (hp.symm.trans e)
    rw [this]
    exact lt_of_cell (a := ⟨b', o' + 0, none⟩) hc
  clear hg ha ho hbd
  by_cases h5 : b.length ≤ 20000
  · go_enter Tryd.func7, Tryd.ntmps7
    go_wp2_with fail
    refine (first_true _ HG.out).mono ?_
    rintro e w1 ⟨rfl, hb1⟩
    go_wp2_with fail
    refine (NewReader_any (by omega) HBD.out _ (RdI.keep HA.out hb1)).mono ?_
    rintro e w2 ⟨gr, rfl, hr2, hlo, hb2⟩
    have hbA := hb1.trans (hb2.mono hb1.size)
    have hgr2 := hr2.lt
    have hs1 := hb1.size
    have HR2 := Lib.hid hr2
    clear hr2 hb2
    go_wp2_with fail
    obtain ⟨W, hW⟩ : ∃ W, W = w2.alloc (.cells #[.slice A b.length c, .int .i64 0] 50) := ⟨_, rfl⟩
    have hbW : Below w2.heap.size w2 W := by rw [hW]; exact (Below.refl _ _).alloc (Nat.le_refl _) _
    have HX : Hid (RdrT 50 0 w.heap.size W w2.heap.size b 0) := by
      refine ⟨by omega, HBD.out, A, c, by rw [hW]; exact Blk.new _ _ _, (RdI.keep HA.out hbA).keep hbW, fun p hp h0 => ?_⟩
      have := HAL.out p hp h0
      omega
    have HR : Hid (RdrT 74 w1.heap.size gr W gr b 0) := HR2.out.keep hbW
    have hbB := hbA.trans (hbW.mono hbA.size)
    rw [← hW]
    obtain ⟨gx, hgx⟩ : ∃ gx, w2.heap.size = gx := ⟨_, rfl⟩
    rw [hgx] at HX hgr2
    rw [hgx]
    clear hW hbW hgx HR2
    go_loopg [7] l.length (fun k vi wr => ∃ (j p : Nat), j + k = l.length ∧ vi = .int .i64 j ∧ RdrT 74 w1.heap.size gr wr gr b p ∧ RdrT 50 0 w.heap.size wr gx b p ∧ Below w.heap.size w wr)
    case atStart => exact ⟨0, 0, by omega, rfl, HR.out, HX.out, hbB⟩
    case round =>
      obtain ⟨j, p, hj, rfl, hr, hx, hbel⟩ := hrel
      have hrl := hr.lt
      have hsz := hbel.size
      rcases (show (j < l.length ∧ j < 1000) ∨ (j < l.length ∧ 1000 ≤ j) ∨ ¬ j < l.length by omega) with ⟨hlt, hj2⟩ | ⟨hlt, hj2⟩ | hlt
      · obtain ⟨b3, o3, rfl, q0, q1, q2, q3⟩ := HB.out.at_ hlt
        have hb3w : b3 < w.heap.size := lt_of_cell q0
        obtain ⟨op, hop⟩ : ∃ op, l[j] = op := ⟨_, rfl⟩
        rw [hop] at q0 q1 q2 q3
        have k0 := (hbel.cell (p := ⟨b3, o3 + j * 4, none⟩) hb3w).trans q0
        have k1 := (hbel.cell (p := ⟨b3, o3 + j * 4 + 1, none⟩) hb3w).trans q1
        have k2 := (hbel.cell (p := ⟨b3, o3 + j * 4 + 2, none⟩) hb3w).trans q2
        have k3 := (hbel.cell (p := ⟨b3, o3 + j * 4 + 3, none⟩) hb3w).trans q3
        have hlt' : (j : Int) < (l.length : Int) := by omega
        have hj2' : (j : Int) < 1000 := by omega
        have HPP := Lib.hid (gets_any (o := op) (by omega) HG.out hbel (by omega) (by omega) (by omega) (by omega) (by omega) (by omega) (by omega) hr hx)
        clear hop q0 q1 q2 q3 hj2 hr hx
        go_wp2_with fail
        refine HPP.out.mono ?_
        rintro e w5 ⟨rfl, hb5, q, hr5, hx5⟩
        have HR5 := Lib.hid hr5
        have HX5 := Lib.hid hx5
        clear hr5 hx5
        go_wp2_with fail
        go_roundg (gk - 1)
        case measure => omega
        case rel => exact ⟨j + 1, q, by omega, by go_num, HR5.out, HX5.out, hb5⟩
      · have hge : ¬ ((j : Int) < 1000) := by omega
        have hlt' : (j : Int) < (l.length : Int) := by omega
        clear hr hx
        go_wp2_with fail
        refine (first_true _ (HG.out.keep hbel)).mono ?_
        rintro e w6 ⟨rfl, hb6⟩
        go_wp2_with fail
        go_ret
        exact ⟨rfl, hbel.trans (hb6.mono hbel.size)⟩
      · have hge : ¬ ((j : Int) < (l.length : Int)) := by omega
        clear hr hx
        go_wp2_with fail
        refine (first_true _ (HG.out.keep hbel)).mono ?_
        rintro e w6 ⟨rfl, hb6⟩
        go_wp2_with fail
        go_ret
        exact ⟨rfl, hbel.trans (hb6.mono hbel.size)⟩
  · go_enter Tryd.func7, Tryd.ntmps7
    go_wp2_with fail
    refine (first_true _ HG.out).mono ?_
    rintro e w1 ⟨rfl, hb1⟩
    go_wp2_with fail
    refine (first_true _ (HG.out.keep hb1)).mono ?_
    rintro e w2 ⟨rfl, hb2⟩
    go_wp2_with fail
    go_ret
    exact ⟨rfl, hb1.trans (hb2.mono hb1.size)⟩

end Go.Proofs.YtdanjeoiandjfaaDoor
