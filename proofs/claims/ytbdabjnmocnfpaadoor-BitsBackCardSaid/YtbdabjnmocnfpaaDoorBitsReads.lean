/- The walk of kinlaw2.BitsReads: it returns true, whatever the input. -/
import Derived.Test.YtbdabjnmocnfpaaDoorBitsOps
import Derived.Deep.QuietTactic
import Derived.BigQuiet
namespace Go.Proofs.YtbdabjnmocnfpaaDoor
open Go Go.RowKit Go.Extern.Stop Go.Stop Go.Extern

theorem RdrT.drewN {t : TypeId} {lo hi : Nat} {w : World} {g : Nat} {b : List Int} {n : Nat} (h : RdrT t lo hi w g b n) (k : Nat) : RdrT t lo hi (w.drewN k) g b n := h

/-- The document's reader and the program's, apart. -/
theorem RdrT.other {t t' : TypeId} {lo hi lo' hi' : Nat} {w w' : World} {g g' : Nat} {b b' : List Int} {n q : Nat} (h : RdrT t lo hi w g b n) (ho : ROut t' lo' hi' w g' b' q w') (hg : g ≠ g') (hb : g' < lo ∨ hi ≤ g') : RdrT t lo hi w' g b n :=
  h.chg ho.2 hg (fun i h1 h2 e => by omega)



theorem own_of_len {w : World} {base n : Nat} {e : TypeId} {v : Value} {xs : List Int} (h : w.ownsRow base e 1 v n (xs.map (Value.int .u8))) : xs.length = n := by have := h.1; simpa using this

set_option maxRecDepth 100000 in
set_option maxHeartbeats 4000000 in
theorem BitsReads_walk {A B : Option Addr} {b : List Int} {l : List Op2} {c d : Nat} (hb : b.length ≤ 9223372036854775807) (hbd : ∀ x ∈ b, 0 ≤ x ∧ x ≤ 255) (w : World) (hg : Gl w) (ha : RdI .u8 w A b) (ho : RdO w B l) :
    Calls Tryd.prog 7 #[.slice A b.length c, .slice B l.length d] w fun e w' => e = .returned (.bool true) ∧ Below w.heap.size w w' := by
  have HG := Lib.hid hg
  have HA := Lib.hid ha
  have HB := Lib.hid ho
  have HBD := Lib.hid hbd
  have HAL : Hid (∀ p, A = some p → 0 < b.length → p.block < w.heap.size) := fun p hp h0 => by
    obtain ⟨b', o', e, hc⟩ := ha.at_ h0
    have := Option.some.inj (hp.symm.trans e)
    rw [this]
    exact lt_of_cell (a := ⟨b', o' + 0, none⟩) hc
  clear hg ha ho hbd
  by_cases h5 : b.length ≤ 20000
  · go_enter Tryd.func7, Tryd.ntmps7
    go_wp2_with fail
    refine (first_true _ HG.out).mono ?_
    rintro e w1 ⟨rfl, hb1⟩
    go_wp2_with fail
    refine (CopyBytes_any (by omega) _ (HA.out.keep hb1)).mono ?_
    rintro e w2 ⟨A2, c2, rfl, hown2, hb2⟩
    have hbA := hb1.trans (hb2.mono hb1.size)
    have hrd2 := (RdI.of_own hown2).1
    have hlt2 := hown2.lt
    go_wp2_with fail
    refine (NewReader_any (by omega) HBD.out _ hrd2).mono ?_
    rintro e w3 ⟨gr, rfl, hr3, hlo, hb3⟩
    have hbB := hbA.trans (hb3.mono hbA.size)
    have hown3 := own_keep hown2 hb3
    have HR3 := Lib.hid hr3
    have HO3 := Lib.hid hown3
    have HL2 := Lib.hid hlt2
    have hgr3 := hr3.lt
    have hs1 := hb1.size
    have hs2 := hb2.size
    clear hr3 hown2 hown3 hrd2 hlt2 hb2 hb3
    go_wp2_with fail
    go_loopg [7] b.length (fun k vi wr => ∃ (j : Nat) (xs : List Int), j + k = b.length ∧ vi = .int .i64 j ∧ wr.ownsRow w1.heap.size 5 1 (.slice A2 b.length c2) b.length (xs.map (Value.int .u8)) ∧ RdrT 75 w2.heap.size gr wr gr b 0 ∧ Below w.heap.size w wr)
    case atStart => exact ⟨0, b, by omega, rfl, HO3.out, HR3.out, hbB⟩
    case round =>
      obtain ⟨j, xs, hj, rfl, hown, hr, hbel⟩ := hrel
      have HR := Lib.hid hr
      clear hr
      by_cases hlt : j < b.length
      · obtain ⟨gb, cap, hv, hgb0, hgb1, _, hcell, hfroz⟩ := own_form hown (by omega)
        obtain ⟨rfl, rfl⟩ : A2 = some ⟨gb, 0, none⟩ ∧ c2 = cap := by injection hv with h1 h2 h3; exact ⟨h1, h3⟩
        have hxl := own_of_len hown
        have hxj : j < xs.length := by omega
        have k2 := hcell j (.int .u8 xs[j]) (by rw [List.getElem?_map, List.getElem?_eq_getElem hxj]; rfl)
        have f2 := hfroz j
        have hgb2 := (HL2.out gb rfl).2
        obtain ⟨x, hx⟩ : ∃ x, xs[j] = x := ⟨_, rfl⟩
        rw [hx] at k2
        have hst := own_store hown j (.int .u8 (bits .xor .u8 x 255))
        rw [← List.map_set] at hst
        have hc2 : Chg (fun i => i = gb) wr (wr.setCell ⟨gb, j, none⟩ (.int .u8 (bits .xor .u8 x 255))) := (Chg.refl (fun i => i = gb) wr).setCell (p := ⟨gb, j, none⟩) (fun _ => rfl) _
        have HST := Lib.hid hst
        have HR2 := Lib.hid (HR.out.chg hc2 (by omega) (fun i h1 h2 e => by omega))
        have HBL := Lib.hid (below_chg hbel hc2 hbel.size (fun i hi => by omega))
        have hlt' : (j : Int) < (b.length : Int) := by omega
        clear hv hcell hfroz hxl hst hc2 hx hown
        go_wp2_with fail
        go_roundg (gk - 1)
        case measure => omega
        case rel => exact ⟨j + 1, _, by omega, by go_num, HST.out, HR2.out, HBL.out⟩
      · have hge : (b.length : Int) ≤ (j : Int) := by omega
        have hgeb : decide (j < b.length) = false := by simp; omega
        clear hown hlt hj
        obtain ⟨W, hW⟩ : ∃ W, W = wr.alloc (.cells #[.slice A b.length c, .int .i64 0] 59) := ⟨_, rfl⟩
        have hbk : Below wr.heap.size wr W := by rw [hW]; exact (Below.refl _ _).alloc (Nat.le_refl _) _
        have hRW := HR.out.keep hbk
        have hbW := hbel.trans (hbk.mono hbel.size)
        have hsz := hbel.size
        have hgrw := HR.out.lt
        obtain ⟨gx, hgx⟩ : ∃ gx, wr.heap.size = gx := ⟨_, rfl⟩
        have hXW : RdrT 59 0 w.heap.size W gx b 0 := by
          refine ⟨by omega, HBD.out, A, c, ?_, ?_, fun p hp h0 => ?_⟩
          · rw [hW, ← hgx]; exact Blk.new _ _ _
          · exact HA.out.keep hbW
          · have := HAL.out p hp h0; omega
        have HXW := Lib.hid hXW
        have HRW := Lib.hid hRW
        have hg1 : gr < gx := by omega
        have hg2 : w.heap.size ≤ gx := by omega
        have hg3 : w.heap.size ≤ gr := by omega
        go_wp2_with fail
        rw [← hW]
        clear hXW hRW hbk hW hgx hgrw hsz hbel HR HO3 HR3 HL2 hge hgeb
        go_loopg [9] l.length (fun k vi wr => ∃ (j p : Nat), j + k = l.length ∧ vi = .int .i64 j ∧ RdrT 75 w2.heap.size gr wr gr b p ∧ RdrT 59 0 w.heap.size wr gx b p ∧ Below w.heap.size w wr)
        case atStart => exact ⟨0, 0, by omega, rfl, HRW.out, HXW.out, hbW⟩
        case round =>
          obtain ⟨j, p, hj, rfl, hr, hx, hbel⟩ := hrel
          have HR := Lib.hid hr
          have HX := Lib.hid hx
          have hp := hr.1
          have hszr := hbel.size
          clear hr hx
          rcases (show (j < l.length ∧ j < 2000) ∨ (j < l.length ∧ 2000 ≤ j) ∨ ¬ j < l.length by omega) with ⟨hlt, hj2⟩ | ⟨hlt, hj2⟩ | hlt
          · obtain ⟨b3, o3, rfl, k0, _, k2, _⟩ := (HB.out.keep hbel).at_ hlt
            have hb3w : b3 < w.heap.size := by
              obtain ⟨b4, o4, e4, q0, _, _, _⟩ := HB.out.at_ hlt
              have := Option.some.inj e4
              injection this with h1 h2
              subst h1
              exact lt_of_cell q0
            obtain ⟨n, hn⟩ : ∃ n, l[j].n = n := ⟨_, rfl⟩
            obtain ⟨k, hk⟩ : ∃ k, l[j].k = k := ⟨_, rfl⟩
            rw [hn] at k2
            rw [hk] at k0
            have hlt' : (j : Int) < (l.length : Int) := by omega
            have hj2' : (j : Int) < 2000 := by omega
            clear hn hk hj2
            rcases (show k = 0 ∨ k = 1 ∨ (k ≠ 0 ∧ k ≠ 1) by omega) with rfl | rfl | ⟨hk0, hk1⟩
            · rcases (show ¬ (0 ≤ n ∧ n ≤ 32) ∨ (0 ≤ n ∧ n ≤ 32 ∧ 8 * (b.length : Int) < p + n) ∨ (0 ≤ n ∧ n ≤ 32 ∧ p + n ≤ 8 * (b.length : Int)) by omega) with h6 | ⟨h6, h7, h8⟩ | ⟨h6, h7, h8⟩
              · go_wp2_with fail
                refine (Get_range _ h6).mono ?_
                rintro e w5 ⟨rfl, rfl⟩
                go_wp2_with fail
                refine (RGet_range _ h6).mono ?_
                rintro e w6 ⟨rfl, hb6⟩
                have hbL := hbel.trans (hb6.mono hbel.size)
                have hbM := hbL.alloc hbL.size (.cells #[.int .i64 3, .slice none 0 0] 39)
                have hb66 : Below w6.heap.size w6 (w6.alloc (.cells #[.int .i64 3, .slice none 0 0] 39)) := (Below.refl _ _).alloc (Nat.le_refl _) _
                have HRa := Lib.hid ((HR.out.keep hb6).keep hb66)
                have HXa := Lib.hid ((HX.out.keep hb6).keep hb66)
                go_wp2_with fail
                refine (Err_some (path := []) (c := 3) (A := none) (cap := 0) (by simp) (by omega) _ (HG.out.keep hbM) rfl Rd.nil).mono ?_
                rintro e w7 ⟨rfl, hb7'⟩
                have hb7 := hbM.trans (hb7'.mono hbM.size)
                have HR7 := HRa.out.keep hb7'
                have HX7 := HXa.out.keep hb7'
                clear hb66
                have HR8 := Lib.hid HR7
                have HX8 := Lib.hid HX7
                obtain ⟨_, _, AX, cX, hblkX, _, _⟩ := HX7
                have x1 : w7.cell? ⟨gx, 1, none⟩ = some (.int .i64 ((p : Nat) : Int)) := by rw [hblkX.cell]; rfl
                clear hblkX HR7
                go_wp2_with fail
                go_quiet ((first
                  | (go_at_call 24; exact Calls.quiet_of_same ((Place_any _ (HR8.out.drewN _)).mono (fun _ _ h => ⟨h.1, h.2.symm⟩)))
                  | (go_at_call 22; exact Calls.quiet_of (Left_any (by omega) _ (HR8.out.drewN _)))
                  | (go_at_call 30; exact Calls.quiet_of (RLeft_any (by omega) _ (HX8.out.drewN _)))))
                go_wp2_with fail
                go_roundg (gk - 1)
                case measure => omega
                case rel => exact ⟨j + 1, p, by omega, by go_num, HR8.out.drewN _, HX8.out.drewN _, below_drewN hb7 _⟩
              · obtain ⟨m, rfl⟩ := Int.eq_ofNat_of_zero_le h6
                go_wp2_with fail
                refine (Get_short (by omega) (by omega) (by omega) _ HR.out).mono ?_
                rintro e w5 ⟨v5, rfl, he5, hb5⟩
                have hbK := hbel.trans (hb5.mono hbel.size)
                have HR5 := Lib.hid (HR.out.keep hb5)
                have HX5 := Lib.hid (HX.out.keep hb5)
                have HE5 := Lib.hid he5
                have k2' := cell_keep k2 hb5
                clear he5
                go_wp2_with fail
                refine (RGet_short (by omega) (by omega) (by omega) _ HX5.out).mono ?_
                rintro e w6 ⟨A6, c6, rfl, hr6, _, hb6⟩
                have hbL := hbK.trans (hb6.mono hbK.size)
                have hbM := hbL.alloc hbL.size (.cells #[.int .i64 1, .slice A6 1 c6] 39)
                have hb66 : Below w6.heap.size w6 (w6.alloc (.cells #[.int .i64 1, .slice A6 1 c6] 39)) := (Below.refl _ _).alloc (Nat.le_refl _) _
                have HRa := Lib.hid ((HR5.out.keep hb6).keep hb66)
                have HXa := Lib.hid ((HX5.out.keep hb6).keep hb66)
                have HEa := Lib.hid ((HE5.out.below hb6).below hb66)
                have HQa := Lib.hid (hr6.keep hb66)
                clear hr6
                go_wp2_with fail
                refine (Err_some (path := [(sBits, (p : Int))]) (c := 1) (A := A6) (cap := c6) (by simp) (by omega) _ (HG.out.keep hbM) HEa.out HQa.out).mono ?_
                rintro e w7 ⟨rfl, hb7'⟩
                have hb7 := hbM.trans (hb7'.mono hbM.size)
                have HR7 := HRa.out.keep hb7'
                have HX7 := HXa.out.keep hb7'
                clear hb66
                have HR8 := Lib.hid HR7
                have HX8 := Lib.hid HX7
                obtain ⟨_, _, AX, cX, hblkX, _, _⟩ := HX7
                have x1 : w7.cell? ⟨gx, 1, none⟩ = some (.int .i64 ((p : Nat) : Int)) := by rw [hblkX.cell]; rfl
                clear hblkX HR7
                go_wp2_with fail
                go_quiet ((first
                  | (go_at_call 24; exact Calls.quiet_of_same ((Place_any _ (HR8.out.drewN _)).mono (fun _ _ h => ⟨h.1, h.2.symm⟩)))
                  | (go_at_call 22; exact Calls.quiet_of (Left_any (by omega) _ (HR8.out.drewN _)))
                  | (go_at_call 30; exact Calls.quiet_of (RLeft_any (by omega) _ (HX8.out.drewN _)))))
                go_wp2_with fail
                go_roundg (gk - 1)
                case measure => omega
                case rel => exact ⟨j + 1, p, by omega, by go_num, HR8.out.drewN _, HX8.out.drewN _, below_drewN hb7 _⟩
              · obtain ⟨m, rfl⟩ := Int.eq_ofNat_of_zero_le h6
                have HGR := Lib.hid (Get_ok (n := m) (by omega) (by omega) (by omega) _ HR.out)
                obtain ⟨N, hN⟩ : ∃ N, Bi.num b p m = N := ⟨_, rfl⟩
                have HN := Lib.hid hN
                rw [hN] at HGR
                clear hN
                go_wp2_with fail
                refine HGR.out.mono ?_
                rintro e w5 ⟨rfl, ho5⟩
                have hbK := below_chg hbel ho5.2 hbel.size (fun i hi => by omega)
                have hx5 := HX.out.other ho5 (by omega) (by omega)
                have HR5 := Lib.hid ho5.1
                have hs5 := ho5.2.size
                obtain ⟨b3', o3', e3, _, _, k2', _⟩ := (HB.out.keep hbK).at_ hlt
                have HGX := Lib.hid (RGet_ok (n := m) (by omega) (by omega) (by omega) _ (by omega) hx5)
                rw [HN.out] at HGX
                have k2'' : w5.cell? ⟨b3, o3 + j * 4 + 2, none⟩ = some (.int .i64 (m : Int)) := cell_chg k2 ho5.2 (by intro e; simp at e; omega)
                clear ho5 hx5 e3 k2'
                go_wp2_with fail
                refine HGX.out.mono ?_
                rintro e w6 ⟨rfl, ho6⟩
                have hbL := below_chg hbK ho6.2 hbK.size (fun i hi => by omega)
                have hr6 := HR5.out.other ho6 (by omega) (by omega)
                have hbM := hbL.alloc hbL.size (.cells #[.int .i64 0, .slice none 0 0] 39)
                have hb66 : Below w6.heap.size w6 (w6.alloc (.cells #[.int .i64 0, .slice none 0 0] 39)) := (Below.refl _ _).alloc (Nat.le_refl _) _
                have HRa := Lib.hid (hr6.keep hb66)
                have HXa := Lib.hid (ho6.1.keep hb66)
                clear ho6 hr6
                go_wp2_with fail
                refine (Err_none _ (HG.out.keep hbM)).mono ?_
                rintro e w7 ⟨rfl, hb7'⟩
                have hb7 := hbM.trans (hb7'.mono hbM.size)
                have HR7 := HRa.out.keep hb7'
                have HX7 := HXa.out.keep hb7'
                clear hb66
                have HR8 := Lib.hid HR7
                have HX8 := Lib.hid HX7
                obtain ⟨_, _, AX, cX, hblkX, _, _⟩ := HX7
                have x1 : w7.cell? ⟨gx, 1, none⟩ = some (.int .i64 ((p + m : Nat) : Int)) := by rw [hblkX.cell]; rfl
                clear hblkX HR7
                go_wp2_with fail
                go_quiet ((first
                  | (go_at_call 24; exact Calls.quiet_of_same ((Place_any _ (HR8.out.drewN _)).mono (fun _ _ h => ⟨h.1, h.2.symm⟩)))
                  | (go_at_call 22; exact Calls.quiet_of (Left_any (by omega) _ (HR8.out.drewN _)))
                  | (go_at_call 30; exact Calls.quiet_of (RLeft_any (by omega) _ (HX8.out.drewN _)))))
                go_wp2_with fail
                go_roundg (gk - 1)
                case measure => omega
                case rel => exact ⟨j + 1, p + m, by omega, by go_num, HR8.out.drewN _, HX8.out.drewN _, below_drewN hb7 _⟩
            · by_cases h6 : p + 1 ≤ 8 * b.length
              · have HGR := Lib.hid (Flag_ok (by omega) h6 _ HR.out)
                obtain ⟨N, hN⟩ : ∃ N, Bi.bit b p = N := ⟨_, rfl⟩
                have HN := Lib.hid hN
                rw [hN] at HGR
                clear hN
                go_wp2_with fail
                refine HGR.out.mono ?_
                rintro e w5 ⟨rfl, ho5⟩
                have hbK := below_chg hbel ho5.2 hbel.size (fun i hi => by omega)
                have hx5 := HX.out.other ho5 (by omega) (by omega)
                have HR5 := Lib.hid ho5.1
                have hs5 := ho5.2.size
                have HGX := Lib.hid (RGet_ok (n := 1) (by omega) (by omega) h6 _ (by omega) hx5)
                rw [num_one, HN.out] at HGX
                clear ho5 hx5
                go_wp2_with fail
                refine HGX.out.mono ?_
                rintro e w6 ⟨rfl, ho6⟩
                have hbL := below_chg hbK ho6.2 hbK.size (fun i hi => by omega)
                have hr6 := HR5.out.other ho6 (by omega) (by omega)
                have hbM := hbL.alloc hbL.size (.cells #[.int .i64 0, .slice none 0 0] 39)
                have hb66 : Below w6.heap.size w6 (w6.alloc (.cells #[.int .i64 0, .slice none 0 0] 39)) := (Below.refl _ _).alloc (Nat.le_refl _) _
                have HRa := Lib.hid (hr6.keep hb66)
                have HXa := Lib.hid (ho6.1.keep hb66)
                clear ho6 hr6
                go_wp2_with fail
                refine (Err_none _ (HG.out.keep hbM)).mono ?_
                rintro e w7 ⟨rfl, hb7'⟩
                have hb7 := hbM.trans (hb7'.mono hbM.size)
                have HR7 := HRa.out.keep hb7'
                have HX7 := HXa.out.keep hb7'
                clear hb66
                have HR8 := Lib.hid HR7
                have HX8 := Lib.hid HX7
                obtain ⟨_, _, AX, cX, hblkX, _, _⟩ := HX7
                have x1 : w7.cell? ⟨gx, 1, none⟩ = some (.int .i64 ((p + 1 : Nat) : Int)) := by rw [hblkX.cell]; rfl
                clear hblkX HR7
                go_wp2_with fail
                go_quiet ((first
                  | (go_at_call 24; exact Calls.quiet_of_same ((Place_any _ (HR8.out.drewN _)).mono (fun _ _ h => ⟨h.1, h.2.symm⟩)))
                  | (go_at_call 22; exact Calls.quiet_of (Left_any (by omega) _ (HR8.out.drewN _)))
                  | (go_at_call 30; exact Calls.quiet_of (RLeft_any (by omega) _ (HX8.out.drewN _)))))
                go_wp2_with fail
                go_roundg (gk - 1)
                case measure => omega
                case rel => exact ⟨j + 1, p + 1, by omega, by go_num, HR8.out.drewN _, HX8.out.drewN _, below_drewN hb7 _⟩
              · go_wp2_with fail
                refine (Flag_short (by omega) (by omega) _ HR.out).mono ?_
                rintro e w5 ⟨v5, rfl, he5, hb5⟩
                have hbK := hbel.trans (hb5.mono hbel.size)
                have HR5 := Lib.hid (HR.out.keep hb5)
                have HX5 := Lib.hid (HX.out.keep hb5)
                have HE5 := Lib.hid he5
                clear he5
                go_wp2_with fail
                refine (RGet_short (n := 1) (by omega) (by omega) (by omega) _ HX5.out).mono ?_
                rintro e w6 ⟨A6, c6, rfl, hr6, _, hb6⟩
                have hbL := hbK.trans (hb6.mono hbK.size)
                have hbM := hbL.alloc hbL.size (.cells #[.int .i64 1, .slice A6 1 c6] 39)
                have hb66 : Below w6.heap.size w6 (w6.alloc (.cells #[.int .i64 1, .slice A6 1 c6] 39)) := (Below.refl _ _).alloc (Nat.le_refl _) _
                have HRa := Lib.hid ((HR5.out.keep hb6).keep hb66)
                have HXa := Lib.hid ((HX5.out.keep hb6).keep hb66)
                have HEa := Lib.hid ((HE5.out.below hb6).below hb66)
                have HQa := Lib.hid (hr6.keep hb66)
                clear hr6
                go_wp2_with fail
                refine (Err_some (path := [(sBits, (p : Int))]) (c := 1) (A := A6) (cap := c6) (by simp) (by omega) _ (HG.out.keep hbM) HEa.out HQa.out).mono ?_
                rintro e w7 ⟨rfl, hb7'⟩
                have hb7 := hbM.trans (hb7'.mono hbM.size)
                have HR7 := HRa.out.keep hb7'
                have HX7 := HXa.out.keep hb7'
                clear hb66
                have HR8 := Lib.hid HR7
                have HX8 := Lib.hid HX7
                obtain ⟨_, _, AX, cX, hblkX, _, _⟩ := HX7
                have x1 : w7.cell? ⟨gx, 1, none⟩ = some (.int .i64 ((p : Nat) : Int)) := by rw [hblkX.cell]; rfl
                clear hblkX HR7
                go_wp2_with fail
                go_quiet ((first
                  | (go_at_call 24; exact Calls.quiet_of_same ((Place_any _ (HR8.out.drewN _)).mono (fun _ _ h => ⟨h.1, h.2.symm⟩)))
                  | (go_at_call 22; exact Calls.quiet_of (Left_any (by omega) _ (HR8.out.drewN _)))
                  | (go_at_call 30; exact Calls.quiet_of (RLeft_any (by omega) _ (HX8.out.drewN _)))))
                go_wp2_with fail
                go_roundg (gk - 1)
                case measure => omega
                case rel => exact ⟨j + 1, p, by omega, by go_num, HR8.out.drewN _, HX8.out.drewN _, below_drewN hb7 _⟩
            · have hk0' : (k == 0) = false := by rw [beq_eq_false_iff_ne]; exact hk0
              have hk1' : (k == 1) = false := by rw [beq_eq_false_iff_ne]; exact hk1
              clear hk0 hk1
              go_wp2_with fail
              refine (Align_any (by omega) _ HR.out).mono ?_
              rintro e w5 ⟨v5, rfl, he5, ho5⟩
              have hbK := below_chg hbel ho5.2 hbel.size (fun i hi => by omega)
              have hx5 := HX.out.other ho5 (by omega) (by omega)
              have HR5 := Lib.hid ho5.1
              have hs5 := ho5.2.size
              have HE5 := Lib.hid he5
              have HXB := Lib.hid hx5
              have HXA := Lib.hid (RAlign_any (by omega) _ (by omega) hx5)
              clear ho5 hx5 he5
              go_wp2_with fail
              refine HXA.out.mono ?_
              rintro e w6 ⟨A6, c6, rfl, hr6, _, ho6⟩
              have hbL := below_chg hbK ho6.2 hbK.size (fun i hi => by omega)
              have hr6' := HR5.out.other ho6 (by omega) (by omega)
              have he6 := HE5.out.chg ho6.2 (fun g' cs hB' => by
                obtain ⟨_, _, AX, cX, hblkX, _, _⟩ := HXB.out
                exact Blk.apart hB' hblkX (by decide))
              have HEa := Lib.hid he6
              have HQa := Lib.hid hr6
              have HRa := Lib.hid hr6'
              have HXa := Lib.hid ho6.1
              clear ho6 hr6 hr6' he6
              go_wp2_with fail
              refine (Err_res (oneP_le _) _ (HG.out.keep hbL) HEa.out HQa.out).mono ?_
              rintro e w7 ⟨rfl, hb7'⟩
              have hb7 := hbL.trans (hb7'.mono hbL.size)
              have HR7 := HRa.out.keep hb7'
              have HX7 := HXa.out.keep hb7'
              have HR8 := Lib.hid HR7
              have HX8 := Lib.hid HX7
              obtain ⟨_, _, AX, cX, hblkX, _, _⟩ := HX7
              have x1 : w7.cell? ⟨gx, 1, none⟩ = some (.int .i64 ((p + padTo p : Nat) : Int)) := by rw [hblkX.cell]; rfl
              clear hblkX HR7
              go_wp2_with fail
              go_quiet ((first
                | (go_at_call 24; exact Calls.quiet_of_same ((Place_any _ (HR8.out.drewN _)).mono (fun _ _ h => ⟨h.1, h.2.symm⟩)))
                | (go_at_call 22; exact Calls.quiet_of (Left_any (by omega) _ (HR8.out.drewN _)))
                | (go_at_call 30; exact Calls.quiet_of (RLeft_any (by omega) _ (HX8.out.drewN _)))))
              go_wp2_with fail
              go_roundg (gk - 1)
              case measure => omega
              case rel => exact ⟨j + 1, p + padTo p, by omega, by go_num, HR8.out.drewN _, HX8.out.drewN _, below_drewN hb7 _⟩
          · have hj2' : (2000 : Int) ≤ (j : Int) := by omega
            have hlt' : (j : Int) < (l.length : Int) := by omega
            go_wp2_with fail
            refine (first_true _ (HG.out.keep hbel)).mono ?_
            rintro e w3' ⟨rfl, hb3⟩
            go_wp2_with fail
            go_ret
            exact ⟨rfl, hbel.trans (hb3.mono hbel.size)⟩
          · go_wp2_with fail
            refine (first_true _ (HG.out.keep hbel)).mono ?_
            rintro e w3' ⟨rfl, hb3⟩
            go_wp2_with fail
            go_ret
            exact ⟨rfl, hbel.trans (hb3.mono hbel.size)⟩
  · go_enter Tryd.func7, Tryd.ntmps7
    go_wp2_with fail
    refine (first_true _ HG.out).mono ?_
    rintro e w1 ⟨rfl, hb1⟩
    go_wp2_with fail
    refine (first_true _ (HG.out.keep hb1)).mono ?_
    rintro e w2 ⟨rfl, hb2⟩
    go_wp2_with fail
    go_ret
    exact ⟨rfl, hb1.trans (hb2.mono hb1.size)⟩

end Go.Proofs.YtbdabjnmocnfpaaDoor
