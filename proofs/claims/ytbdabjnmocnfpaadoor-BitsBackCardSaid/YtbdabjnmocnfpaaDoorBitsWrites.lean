/- The walk of kinlaw2.BitsWrites: it returns true, whatever the input. -/
import Derived.Test.YtbdabjnmocnfpaaDoorBitsReads
import Derived.Deep.RegionLaw
import Derived.Deep.RegionHeld3
namespace Go.Proofs.YtbdabjnmocnfpaaDoor
open Go Go.RowKit Go.Extern.Stop Go.Stop Go.Extern

/-- The two writers are apart. -/
theorem RWtr.write {w w' : World} {B B' g gx : Nat} {v u : Value} {l m l' : List Bool} (h : RWtr w B' gx u l') (hw : Wtr w B g v l) (ho : WOut w B g v m w') : RWtr w' B' gx u l' := by
  obtain ⟨_, _, hc, _⟩ := ho
  refine ⟨h.1.chg hc (fun hS => ?_), own_chg h.2 hc (fun i hi hS => ?_)⟩
  · rcases hS with e | e
    · exact Blk.apart h.1 hw.1 (by decide) e
    · exact own_notBlk hw.2 h.1 (by decide) e
  · rcases hS with rfl | e
    · exact own_notBlk h.2 hw.1 (by decide) hi
    · exact own_own h.2 hw.2 (by decide) i hi e
theorem Wtr.rwrite {w w' : World} {B B' g gx : Nat} {v u : Value} {l m l' : List Bool} (h : Wtr w B g v l) (hw : RWtr w B' gx u l') (ho : RWOut w B' gx u m w') : Wtr w' B g v l := by
  obtain ⟨_, _, hc, _⟩ := ho
  refine ⟨h.1.chg hc (fun hS => ?_), own_chg h.2 hc (fun i hi hS => ?_)⟩
  · rcases hS with e | e
    · exact Blk.apart h.1 hw.1 (by decide) e
    · exact own_notBlk hw.2 h.1 (by decide) e
  · rcases hS with rfl | e
    · exact own_notBlk h.2 hw.1 (by decide) hi
    · exact own_own h.2 hw.2 (by decide) i hi e
theorem RWtr.keep {w w' : World} {B g : Nat} {v : Value} {l : List Bool} (h : RWtr w B g v l) (hb : Below w.heap.size w w') : RWtr w' B g v l := ⟨h.1.keep hb, own_keep h.2 hb⟩
/-- What a writer's call leaves below. -/
theorem below_w {w0 w w' : World} {B g : Nat} {v : Value} {l m : List Bool} (h : Below w0.heap.size w0 w) (hw : Wtr w B g v l) (ho : WOut w B g v m w') (hg : w0.heap.size ≤ g) (hB : w0.heap.size ≤ B) : Below w0.heap.size w0 w' := by
  obtain ⟨_, _, hc, _⟩ := ho
  refine below_chg h hc h.size (fun i hi => ?_)
  rcases hi with rfl | e
  · exact hg
  · have := (hw.2.lt i e).1; omega
theorem below_rw {w0 w w' : World} {B g : Nat} {v : Value} {l m : List Bool} (h : Below w0.heap.size w0 w) (hw : RWtr w B g v l) (ho : RWOut w B g v m w') (hg : w0.heap.size ≤ g) (hB : w0.heap.size ≤ B) : Below w0.heap.size w0 w' := by
  obtain ⟨_, _, hc, _⟩ := ho
  refine below_chg h hc h.size (fun i hi => ?_)
  rcases hi with rfl | e
  · exact hg
  · have := (hw.2.lt i e).1; omega
theorem cell_below {w0 w w' : World} {p : Addr} {v : Value} (h : w.cell? p = some v) (hp : p.block < w0.heap.size) (h1 : Below w0.heap.size w0 w) (h2 : Below w0.heap.size w0 w') : w'.cell? p = some v := by
  have a := h1.cell (p := p) hp
  have b := h2.cell (p := p) hp
  rw [b, ← a]; exact h
theorem bitsOf_len (v : Int) (n : Nat) : (Bi.bitsOf v n).length = n := Bi.bitsOf_length v n
theorem padded_le (l : List Bool) : (Bi.padded l).length ≤ l.length + 7 := by rw [Bi.padded_length]; omega

set_option maxRecDepth 100000 in
set_option maxHeartbeats 4000000 in
theorem BitsWrites_walk {B : Option Addr} {l : List Op2} {d : Nat} (hll : l.length ≤ 9223372036854775807) (w : World) (hg : Gl w) (ho : RdO w B l) :
    Calls Tryd.prog 3 #[.slice B l.length d] w fun e w' => e = .returned (.bool true) ∧ Below w.heap.size w w' := by
  obtain ⟨i0, hi, hz0, hz1, hz2⟩ := info_parts boolInfo
  have HG := Lib.hid hg
  have HB := Lib.hid ho
  clear hg ho
  go_enter Tryd.func3, Tryd.ntmps3
  go_wp2_with fail
  refine (first_true _ HG.out).mono ?_
  rintro e w1 ⟨rfl, hb1⟩
  have hs1 := hb1.size
  go_wp2_with fail
  refine (NewWriter_any _).mono ?_
  rintro e w2 ⟨rfl, hw2⟩
  have hwt : Wtr w2 w1.heap.size w1.heap.size (.slice none 0 0) [] := by rw [hw2]; exact Wtr.new _ _
  have hbA : Below w.heap.size w w2 := by rw [hw2]; exact hb1.alloc hb1.size _
  have hs2 := hwt.1.lt
  clear hw2
  go_wp2_with fail
  have hx3 := RWtr.new w2 w1.heap.size
  have hb3 : Below w2.heap.size w2 (w2.alloc (.cells #[.slice none 0 0] 29)) := (Below.refl _ _).alloc (Nat.le_refl _) _
  have hw3 := hwt.keep hb3
  have hbB := hbA.trans (hb3.mono hbA.size)
  obtain ⟨gx, hgx⟩ : ∃ gx, w2.heap.size = gx := ⟨_, rfl⟩
  obtain ⟨gw, hgw⟩ : ∃ gw, w1.heap.size = gw := ⟨_, rfl⟩
  rw [hgx] at hx3 hs2
  rw [hgw] at hx3 hw3 hs2 hs1
  rw [hgx, hgw]
  have HW3 := Lib.hid hw3
  have HX3 := Lib.hid hx3
  have hgwx : gw < gx := hs2
  clear hgx hgw hx3 hw3 hwt hb3
  go_loopg [5] l.length (fun k vi wr => ∃ (j : Nat) (m : List Bool) (v u : Value), j + k = l.length ∧ vi = .int .i64 j ∧ j ≤ 2000 ∧ m.length ≤ 40 * j ∧ Wtr wr gw gw v m ∧ RWtr wr gw gx u m ∧ Below w.heap.size w wr)
  case atStart => exact ⟨0, [], _, _, by omega, rfl, by omega, by simp, HW3.out, HX3.out, hbB⟩
  case round =>
    obtain ⟨j, m, v, u, hj, rfl, hj20, hml, hw, hx, hbel⟩ := hrel
    have HW := Lib.hid hw
    have HX := Lib.hid hx
    have hsz := hbel.size
    have hgwl := hw.1.lt
    have hgxl := hx.1.lt
    have hm9 : m.length ≤ 80000 := by omega
    clear hw hx
    rcases (show (j < l.length ∧ j < 2000) ∨ (j < l.length ∧ 2000 ≤ j) ∨ ¬ j < l.length by omega) with ⟨hlt, hj2⟩ | ⟨hlt, hj2⟩ | hlt
    · obtain ⟨b3, o3, rfl, q0, q1, q2, q3⟩ := HB.out.at_ hlt
      have hb3w : b3 < w.heap.size := lt_of_cell q0
      obtain ⟨n, hn⟩ : ∃ n, l[j].n = n := ⟨_, rfl⟩
      obtain ⟨k, hk⟩ : ∃ k, l[j].k = k := ⟨_, rfl⟩
      obtain ⟨x, hx⟩ : ∃ x, l[j].v = x := ⟨_, rfl⟩
      obtain ⟨y, hy⟩ : ∃ y, l[j].b = y := ⟨_, rfl⟩
      rw [hn] at q2
      rw [hk] at q0
      rw [hx] at q1
      rw [hy] at q3
      have k0 := (hbel.cell (p := ⟨b3, o3 + j * 4, none⟩) hb3w).trans q0
      have k1 := (hbel.cell (p := ⟨b3, o3 + j * 4 + 1, none⟩) hb3w).trans q1
      have k2 := (hbel.cell (p := ⟨b3, o3 + j * 4 + 2, none⟩) hb3w).trans q2
      have k3 := (hbel.cell (p := ⟨b3, o3 + j * 4 + 3, none⟩) hb3w).trans q3
      have Q1 := Lib.hid q1
      have Q2 := Lib.hid q2
      have Q3 := Lib.hid q3
      have hlt' : (j : Int) < (l.length : Int) := by omega
      have hj2' : (j : Int) < 2000 := by omega
      clear hn hk hx hy q0 q1 q2 q3 hj2
      rcases (show k = 0 ∨ k = 1 ∨ (k ≠ 0 ∧ k ≠ 1) by omega) with rfl | rfl | ⟨hk0, hk1⟩
      · cases hpm : putMay x n with
        | false =>
          go_wp2_with fail
          go_region_held3 (fun W => W.cell? ⟨b3, o3 + j * 4 + 1, none⟩ = some (.int .i64 x) ∧ W.cell? ⟨b3, o3 + j * 4 + 2, none⟩ = some (.int .i64 n))
            (first
              | go_keep
              | (go_split_ands; exact ⟨cell_keep (by assumption) hb6, cell_keep (by assumption) hb6⟩)
              | (go_split_ands; exact ⟨cell_keep (by assumption) hb7', cell_keep (by assumption) hb7'⟩))
            (first
              | (go_at_call 12; refine (Put_no _ hpm).mono ?_; rintro e w5 ⟨rfl, rfl⟩)
              | (go_at_call 13; refine (RPut_no _ hpm).mono ?_; rintro e w6 ⟨rfl, hb6⟩)
              | (go_at_call 11; refine (Err_some (path := []) (c := 3) (A := none) (cap := 0) (by simp) (by omega) _ (HG.out.keep (hbel.drew.trans (hb6.mono hbel.drew.size))) rfl Rd.nil).mono ?_; rintro e w7 ⟨rfl, hb7'⟩))
          have hb7 : Below w.heap.size w w7 := (hbel.drew.trans (hb6.mono hbel.drew.size)).trans (hb7'.mono (hbel.drew.trans (hb6.mono hbel.drew.size)).size)
          have hwd : Wtr wr.drew gw gw v m := HW.out
          have hxd : RWtr wr.drew gw gx u m := HX.out
          have WO := WOut.refl ((hwd.keep hb6).keep hb7')
          have XO := RWOut.refl ((hxd.keep hb6).keep hb7')
          clear hwd hxd
          obtain ⟨v7, hw7, _, _⟩ := WO
          obtain ⟨u7, hx7, _, _⟩ := XO
          obtain ⟨AX, cX, rfl⟩ := own_slice hx7.2
          have x0 : w7.cell? ⟨gx, 0, none⟩ = some (.slice AX (m).length cX) := by rw [hx7.1.cell]; rfl
          have HW8 := Lib.hid hw7
          have HX8 := Lib.hid hx7
          obtain ⟨M, hM⟩ : ∃ M, m = M := ⟨_, rfl⟩
          have hML : M.length ≤ 40 * (j + 1) := by rw [← hM]; omega
          rw [hM] at HW8 HX8 x0
          clear hw7 hx7 hM
          go_wp2_with fail
          go_quiet ((go_at_call 17; exact Calls.quiet_of_same ((WLen_any _ (show Wtr (w7.drewN _) gw gw v7 M from HW8.out)).mono (fun _ _ h => ⟨h.1, h.2.symm⟩))))
          go_wp2_with fail
          go_roundg (gk - 1)
          case measure => omega
          case rel => exact ⟨j + 1, M, v7, .slice AX M.length cX, by omega, by go_num, by omega, hML, HW8.out, HX8.out, below_drewN hb7 _⟩
        | true =>
          obtain ⟨p0, p1, p2, p3⟩ : 0 ≤ n ∧ n ≤ 32 ∧ 0 ≤ x ∧ x < 2 ^ n.toNat := of_decide_eq_true hpm
          obtain ⟨N, rfl⟩ := Int.eq_ofNat_of_zero_le p0
          rw [Int.toNat_natCast] at p3
          have HP3 := Lib.hid p3
          have hwd : Hid (Wtr wr.drew gw gw v m) := HW.out
          have hxd : Hid (RWtr wr.drew gw gx u m) := HX.out
          clear hpm p3
          go_wp2_with fail
          go_region_held3 (fun W => W.cell? ⟨b3, o3 + j * 4 + 1, none⟩ = some (.int .i64 x) ∧ W.cell? ⟨b3, o3 + j * 4 + 2, none⟩ = some (.int .i64 (N : Int)))
            (first
              | go_keep
              | exact ⟨(hb5.cell (p := ⟨b3, o3 + j * 4 + 1, none⟩) hb3w).trans Q1.out, (hb5.cell (p := ⟨b3, o3 + j * 4 + 2, none⟩) hb3w).trans Q2.out⟩
              | exact ⟨(hb6.cell (p := ⟨b3, o3 + j * 4 + 1, none⟩) hb3w).trans Q1.out, (hb6.cell (p := ⟨b3, o3 + j * 4 + 2, none⟩) hb3w).trans Q2.out⟩
              | exact ⟨(hb7.cell (p := ⟨b3, o3 + j * 4 + 1, none⟩) hb3w).trans Q1.out, (hb7.cell (p := ⟨b3, o3 + j * 4 + 2, none⟩) hb3w).trans Q2.out⟩)
            (first
              | (go_at_call 12; refine (Put_yes (by omega) _ (by simp; omega) (by omega) p2 HP3.out hwd.out).mono ?_; rintro e w5 ⟨rfl, ho5⟩; have hb5 := below_w hbel.drew hwd.out ho5 (by omega) (by omega); have hx5 := Lib.hid (hxd.out.write hwd.out ho5); have HO5 := Lib.hid ho5; clear ho5)
              | (go_at_call 13; refine (RPut_yes (by omega) _ (by have := hb5.size; have := hx5.out.1.lt; omega) (by omega) p2 HP3.out hx5.out).mono ?_; rintro e w6 ⟨rfl, ho6⟩; have hb6 := below_rw hb5 hx5.out ho6 (by omega) (by omega); have HO6 := Lib.hid ho6; clear ho6)
              | (go_at_call 11; refine (Err_none _ (HG.out.keep hb6)).mono ?_; rintro e w7 ⟨rfl, hb7'⟩; have hb7 := hb6.trans (hb7'.mono hb6.size)))
          obtain ⟨v5, hw5, _, _⟩ := HO5.out
          have WO := WOut.refl ((hw5.rwrite hx5.out HO6.out).keep hb7')
          have XO := HO6.out.keep hb7'
          clear hw5
          obtain ⟨v7, hw7, _, _⟩ := WO
          obtain ⟨u7, hx7, _, _⟩ := XO
          obtain ⟨AX, cX, rfl⟩ := own_slice hx7.2
          have x0 : w7.cell? ⟨gx, 0, none⟩ = some (.slice AX ((m ++ Bi.bitsOf x N)).length cX) := by rw [hx7.1.cell]; rfl
          have HW8 := Lib.hid hw7
          have HX8 := Lib.hid hx7
          obtain ⟨M, hM⟩ : ∃ M, (m ++ Bi.bitsOf x N) = M := ⟨_, rfl⟩
          have hML : M.length ≤ 40 * (j + 1) := by rw [← hM]; rw [List.length_append, bitsOf_len]; omega
          rw [hM] at HW8 HX8 x0
          clear hw7 hx7 hM
          go_wp2_with fail
          go_quiet ((go_at_call 17; exact Calls.quiet_of_same ((WLen_any _ (show Wtr (w7.drewN _) gw gw v7 M from HW8.out)).mono (fun _ _ h => ⟨h.1, h.2.symm⟩))))
          go_wp2_with fail
          go_roundg (gk - 1)
          case measure => omega
          case rel => exact ⟨j + 1, M, v7, .slice AX M.length cX, by omega, by go_num, by omega, hML, HW8.out, HX8.out, below_drewN hb7 _⟩
      · have hwd := HW.out
        go_wp2_with fail
        refine (WFlag_any (by omega) _ (by omega) HW.out).mono ?_
        rintro e w5 ⟨rfl, ho5⟩
        have hb5 := below_w hbel HW.out ho5 (by omega) (by omega)
        have hx5 := HX.out.write HW.out ho5
        have hs5 := hb5.size
        have k3' := (hb5.cell (p := ⟨b3, o3 + j * 4 + 3, none⟩) hb3w).trans Q3.out
        obtain ⟨AX, cX, rfl⟩ := own_slice hx5.2
        have hxb := hx5.1
        have hown := hx5.2
        have hne := own_notBlk hown hxb (by decide)
        have e0 : w5.cell? ⟨gx, 0, none⟩ = some (.slice AX m.length cX) := by rw [hxb.cell]; rfl
        have ef := hxb.frozen 0
        have hgx5 := hxb.lt
        have HO5 := Lib.hid ho5
        clear ho5 hwd k0 k1 k2 k3
        go_wp2_with fail
        go_region_law ((refine step_append_lies _ (by rfl) (.tmp 75) (.tmp 81) _ (by rfl) gw 4 i0 _ 1 1 Tryd.underlying27 hi hz0 hz1 hz2 rfl (by omega) (.slice AX m.length cX) m.length _ (by rfl) ((hown.alloc _).drew) ⟨w5.heap.size, 0, none⟩ 1 1 [.bool y] (by rfl) (by rfl) (World.news_of_block (cs := #[.bool y]) (t := 4) (fr := (0, 0)) (heap_alloc_new w5 _)) (by simp [Value.oneCell']) (by omega) (by unfold maxLen; omega) (by omega) (by simp; omega) (w5.heap.size + 1) (by simp) ?_; intro gb cap w6 hown1 hgrow hat hlt1; have hb1' := ((hxb.alloc (.cells #[.bool y] 4)).drew).grown hgrow (Ne.symm hne); have d0 := hb1'.frozen 0; have d4 : w6.cell? ⟨gx, 0, none⟩ = some (.slice AX m.length cX) := (by rw [hb1'.cell]; rfl)))
        all_goals (
          go_wp2_with fail
          have hgrow' : (w5.alloc (.cells #[.bool y] 4)).grownBy w6 (Value.slice AX m.length cX).ownBlock := ⟨hgrow.os, hgrow.tape, hgrow.output, hgrow.size, hgrow.block⟩
          have hat' : (Value.slice AX m.length cX).ownBlock = some gb ∨ gb = (w5.alloc (.cells #[.bool y] 4)).heap.size := by
            rcases hat with h | h
            · exact .inl h
            · refine .inr ?_
              simp
              omega
          have XO := rw_push hxb hown hgrow' hown1 hat'
          obtain ⟨v5, hw5, _, _⟩ := HO5.out
          have hrw5 : RWtr w5 gw gx (.slice AX m.length cX) m := ⟨hxb, hown⟩
          have WO := WOut.refl (hw5.rwrite hrw5 XO)
          have hb7 := below_rw hb5 hrw5 XO (by omega) (by omega)
          clear hw5 hrw5 hgrow' hat' hown1 hgrow hat hb1' d0 d4 e0 ef hown hxb hne
          generalize w6.setCell ⟨gx, 0, none⟩ (.slice (some ⟨gb, 0, none⟩) (m.length + 1) cap) = w7 at *
          obtain ⟨v7, hw7, _, _⟩ := WO
          obtain ⟨u7, hx7, _, _⟩ := XO
          obtain ⟨AX, cX, rfl⟩ := own_slice hx7.2
          have x0 : w7.cell? ⟨gx, 0, none⟩ = some (.slice AX ((m ++ [y])).length cX) := by rw [hx7.1.cell]; rfl
          have HW8 := Lib.hid hw7
          have HX8 := Lib.hid hx7
          obtain ⟨M, hM⟩ : ∃ M, (m ++ [y]) = M := ⟨_, rfl⟩
          have hML : M.length ≤ 40 * (j + 1) := by rw [← hM]; rw [List.length_append]; simp; omega
          rw [hM] at HW8 HX8 x0
          clear hw7 hx7 hM
          go_wp2_with fail
          go_quiet ((go_at_call 17; exact Calls.quiet_of_same ((WLen_any _ (show Wtr (w7.drewN _) gw gw v7 M from HW8.out)).mono (fun _ _ h => ⟨h.1, h.2.symm⟩))))
          go_wp2_with fail
          go_roundg (gk - 1)
          case measure => omega
          case rel => exact ⟨j + 1, M, v7, .slice AX M.length cX, by omega, by go_num, by omega, hML, HW8.out, HX8.out, below_drewN hb7 _⟩)
      · have hk0' : (k == 0) = false := by rw [beq_eq_false_iff_ne]; exact hk0
        have hk1' : (k == 1) = false := by rw [beq_eq_false_iff_ne]; exact hk1
        clear hk0 hk1
        go_wp2_with fail
        refine (WAlign_any (by omega) _ HW.out).mono ?_
        rintro e w5 ⟨rfl, ho5⟩
        have hb5 := below_w hbel HW.out ho5 (by omega) (by omega)
        have hx5 := HX.out.write HW.out ho5
        have hgx5 := hx5.1.lt
        obtain ⟨v5, hw5, _, _⟩ := ho5
        have HX5 := Lib.hid hx5
        have HW5 := Lib.hid hw5
        clear hw5 hx5 k0 k1 k2 k3
        go_wp2_with fail
        refine (RAlignW_any (by omega) _ (by omega) HX5.out).mono ?_
        rintro e w7 ⟨rfl, ho7⟩
        have hb7 := below_rw hb5 HX5.out ho7 (by omega) (by omega)
        have WO := WOut.refl (HW5.out.rwrite HX5.out ho7)
        have XO := ho7
        have hpd := padded_le m
        clear ho7
        obtain ⟨v7, hw7, _, _⟩ := WO
        obtain ⟨u7, hx7, _, _⟩ := XO
        obtain ⟨AX, cX, rfl⟩ := own_slice hx7.2
        have x0 : w7.cell? ⟨gx, 0, none⟩ = some (.slice AX ((Bi.padded m)).length cX) := by rw [hx7.1.cell]; rfl
        have HW8 := Lib.hid hw7
        have HX8 := Lib.hid hx7
        obtain ⟨M, hM⟩ : ∃ M, (Bi.padded m) = M := ⟨_, rfl⟩
        have hML : M.length ≤ 40 * (j + 1) := by rw [← hM]; omega
        rw [hM] at HW8 HX8 x0
        clear hw7 hx7 hM
        go_wp2_with fail
        go_quiet ((go_at_call 17; exact Calls.quiet_of_same ((WLen_any _ (show Wtr (w7.drewN _) gw gw v7 M from HW8.out)).mono (fun _ _ h => ⟨h.1, h.2.symm⟩))))
        go_wp2_with fail
        go_roundg (gk - 1)
        case measure => omega
        case rel => exact ⟨j + 1, M, v7, .slice AX M.length cX, by omega, by go_num, by omega, hML, HW8.out, HX8.out, below_drewN hb7 _⟩
    · have hj2' : (2000 : Int) ≤ (j : Int) := by omega
      have hlt' : (j : Int) < (l.length : Int) := by omega
      go_wp2_with fail
      refine (WBytes_any (by omega) _ HW.out).mono ?_
      rintro e w5 ⟨A5, c5, rfl, hown5, hb5⟩
      have hbC := hbel.trans (hb5.mono hbel.size)
      have HW5 := Lib.hid (HW.out.keep hb5)
      have HX5 := Lib.hid (HX.out.keep hb5)
      have HV := Lib.hid HW.out.2.lt
      have HU := Lib.hid HX.out.2.lt
      obtain ⟨N5, hN5⟩ : ∃ N5, (Bi.pack m).length = N5 := ⟨_, rfl⟩
      have hN9 : N5 ≤ 1000000000 := by rw [← hN5, Bi.pack_length]; omega
      rw [hN5] at hown5
      rw [hN5]
      have HO5 := Lib.hid hown5
      have HL5 := Lib.hid hown5.lt
      clear hown5 hN5 hb5
      go_wp2_with fail
      go_loopg [7] N5 (fun k vi wx => ∃ (i : Nat) (xs : List Int), i + k = N5 ∧ vi = .int .i64 i ∧ wx.ownsRow wr.heap.size 5 1 (.slice A5 N5 c5) N5 (xs.map (Value.int .u8)) ∧ Wtr wx gw gw v m ∧ RWtr wx gw gx u m ∧ Below w.heap.size w wx)
      case atStart => exact ⟨0, Bi.pack m, by omega, rfl, HO5.out, HW5.out, HX5.out, hbC⟩
      case round =>
        clear hj hlt hbel
        obtain ⟨i, xs, hi', rfl, hown, hwx, hxx, hbel⟩ := hrel
        have HWX := Lib.hid hwx
        have HXX := Lib.hid hxx
        clear hwx hxx
        by_cases hlt : i < N5
        · obtain ⟨gb, cap, hv, hgb0, hgb1, _, hcell, hfroz⟩ := own_form hown (by omega)
          obtain ⟨rfl, rfl⟩ : A5 = some ⟨gb, 0, none⟩ ∧ c5 = cap := by injection hv with h1 h2 h3; exact ⟨h1, h3⟩
          have hxl := own_of_len hown
          have hxj : i < xs.length := by omega
          have k2 := hcell i (.int .u8 xs[i]) (by rw [List.getElem?_map, List.getElem?_eq_getElem hxj]; rfl)
          have f2 := hfroz i
          obtain ⟨x, hx⟩ : ∃ x, xs[i] = x := ⟨_, rfl⟩
          rw [hx] at k2
          have hst := own_store hown i (.int .u8 (bits .xor .u8 x 255))
          rw [← List.map_set] at hst
          have hc2 : Chg (fun z => z = gb) wr (wr.setCell ⟨gb, i, none⟩ (.int .u8 (bits .xor .u8 x 255))) := (Chg.refl (fun z => z = gb) wr).setCell (p := ⟨gb, i, none⟩) (fun _ => rfl) _
          have HST := Lib.hid hst
          have HW2 := Lib.hid (HWX.out.chg hc2 (by omega) (fun z hz e => by have := (HV.out z hz).2; omega))
          have HX2 := Lib.hid (show RWtr (wr.setCell ⟨gb, i, none⟩ (.int .u8 (bits .xor .u8 x 255))) gw gx u m from ⟨HXX.out.1.chg hc2 (by omega), own_chg HXX.out.2 hc2 (fun z hz e => by have := (HU.out z hz).2; omega)⟩)
          have HBL := Lib.hid (below_chg hbel hc2 hbel.size (fun z hz => by omega))
          have hlt' : (i : Int) < (N5 : Int) := by omega
          clear hv hcell hfroz hxl hst hc2 hx hown
          go_wp2_with fail
          go_roundg (gk - 1)
          case measure => omega
          case rel => exact ⟨i + 1, _, by omega, by go_num, HST.out, HW2.out, HX2.out, HBL.out⟩
        · have hge : (N5 : Int) ≤ (i : Int) := by omega
          clear hown hlt hi'
          go_wp2_with fail
          refine (first_true _ (HG.out.keep hbel)).mono ?_
          rintro e w6 ⟨rfl, hb6⟩
          have hbD := hbel.trans (hb6.mono hbel.size)
          have HW6 := Lib.hid (HWX.out.keep hb6)
          have HX6 := Lib.hid (HXX.out.keep hb6)
          clear hge
          go_wp2_with fail
          refine (WBytes_any (by omega) _ HW6.out).mono ?_
          rintro e w7 ⟨A7, c7, rfl, hown7, hb7⟩
          have hbE := hbD.trans (hb7.mono hbD.size)
          have HX7 := Lib.hid (HX6.out.keep hb7)
          have HR7 := Lib.hid (RdI.of_own (k := .u8) (l := Bi.pack m) hown7).1
          obtain ⟨N7, hN7⟩ : ∃ N7, (Bi.pack m).length = N7 := ⟨_, rfl⟩
          have HN7 := Lib.hid hN7
          rw [hN7]
          clear hown7 hb7 hN7
          go_wp2_with fail
          refine (RBytes_any (by omega) _ HX7.out).mono ?_
          rintro e w8 ⟨A8, c8, rfl, hown8, hb8⟩
          have hbF := hbE.trans (hb8.mono hbE.size)
          have HR8 := Lib.hid (RdI.of_own (k := .u8) (l := Bi.pack m) hown8).1
          have HR78 := Lib.hid (HR7.out.keep hb8)
          rw [HN7.out]
          clear hown8
          go_wp2_with fail
          refine (Bytes_same (b := Bi.pack m) _ HN7.out.symm HN7.out.symm HR78.out HR8.out).mono ?_
          rintro e w9 ⟨rfl, rfl⟩
          go_wp2_with fail
          go_ret
          exact ⟨rfl, hbF⟩
    · go_wp2_with fail
      refine (WBytes_any (by omega) _ HW.out).mono ?_
      rintro e w5 ⟨A5, c5, rfl, hown5, hb5⟩
      have hbC := hbel.trans (hb5.mono hbel.size)
      have HW5 := Lib.hid (HW.out.keep hb5)
      have HX5 := Lib.hid (HX.out.keep hb5)
      have HV := Lib.hid HW.out.2.lt
      have HU := Lib.hid HX.out.2.lt
      obtain ⟨N5, hN5⟩ : ∃ N5, (Bi.pack m).length = N5 := ⟨_, rfl⟩
      have hN9 : N5 ≤ 1000000000 := by rw [← hN5, Bi.pack_length]; omega
      rw [hN5] at hown5
      rw [hN5]
      have HO5 := Lib.hid hown5
      have HL5 := Lib.hid hown5.lt
      clear hown5 hN5 hb5
      go_wp2_with fail
      go_loopg [7] N5 (fun k vi wx => ∃ (i : Nat) (xs : List Int), i + k = N5 ∧ vi = .int .i64 i ∧ wx.ownsRow wr.heap.size 5 1 (.slice A5 N5 c5) N5 (xs.map (Value.int .u8)) ∧ Wtr wx gw gw v m ∧ RWtr wx gw gx u m ∧ Below w.heap.size w wx)
      case atStart => exact ⟨0, Bi.pack m, by omega, rfl, HO5.out, HW5.out, HX5.out, hbC⟩
      case round =>
        clear hj hlt hbel
        obtain ⟨i, xs, hi', rfl, hown, hwx, hxx, hbel⟩ := hrel
        have HWX := Lib.hid hwx
        have HXX := Lib.hid hxx
        clear hwx hxx
        by_cases hlt : i < N5
        · obtain ⟨gb, cap, hv, hgb0, hgb1, _, hcell, hfroz⟩ := own_form hown (by omega)
          obtain ⟨rfl, rfl⟩ : A5 = some ⟨gb, 0, none⟩ ∧ c5 = cap := by injection hv with h1 h2 h3; exact ⟨h1, h3⟩
          have hxl := own_of_len hown
          have hxj : i < xs.length := by omega
          have k2 := hcell i (.int .u8 xs[i]) (by rw [List.getElem?_map, List.getElem?_eq_getElem hxj]; rfl)
          have f2 := hfroz i
          obtain ⟨x, hx⟩ : ∃ x, xs[i] = x := ⟨_, rfl⟩
          rw [hx] at k2
          have hst := own_store hown i (.int .u8 (bits .xor .u8 x 255))
          rw [← List.map_set] at hst
          have hc2 : Chg (fun z => z = gb) wr (wr.setCell ⟨gb, i, none⟩ (.int .u8 (bits .xor .u8 x 255))) := (Chg.refl (fun z => z = gb) wr).setCell (p := ⟨gb, i, none⟩) (fun _ => rfl) _
          have HST := Lib.hid hst
          have HW2 := Lib.hid (HWX.out.chg hc2 (by omega) (fun z hz e => by have := (HV.out z hz).2; omega))
          have HX2 := Lib.hid (show RWtr (wr.setCell ⟨gb, i, none⟩ (.int .u8 (bits .xor .u8 x 255))) gw gx u m from ⟨HXX.out.1.chg hc2 (by omega), own_chg HXX.out.2 hc2 (fun z hz e => by have := (HU.out z hz).2; omega)⟩)
          have HBL := Lib.hid (below_chg hbel hc2 hbel.size (fun z hz => by omega))
          have hlt' : (i : Int) < (N5 : Int) := by omega
          clear hv hcell hfroz hxl hst hc2 hx hown
          go_wp2_with fail
          go_roundg (gk - 1)
          case measure => omega
          case rel => exact ⟨i + 1, _, by omega, by go_num, HST.out, HW2.out, HX2.out, HBL.out⟩
        · have hge : (N5 : Int) ≤ (i : Int) := by omega
          clear hown hlt hi'
          go_wp2_with fail
          refine (first_true _ (HG.out.keep hbel)).mono ?_
          rintro e w6 ⟨rfl, hb6⟩
          have hbD := hbel.trans (hb6.mono hbel.size)
          have HW6 := Lib.hid (HWX.out.keep hb6)
          have HX6 := Lib.hid (HXX.out.keep hb6)
          clear hge
          go_wp2_with fail
          refine (WBytes_any (by omega) _ HW6.out).mono ?_
          rintro e w7 ⟨A7, c7, rfl, hown7, hb7⟩
          have hbE := hbD.trans (hb7.mono hbD.size)
          have HX7 := Lib.hid (HX6.out.keep hb7)
          have HR7 := Lib.hid (RdI.of_own (k := .u8) (l := Bi.pack m) hown7).1
          obtain ⟨N7, hN7⟩ : ∃ N7, (Bi.pack m).length = N7 := ⟨_, rfl⟩
          have HN7 := Lib.hid hN7
          rw [hN7]
          clear hown7 hb7 hN7
          go_wp2_with fail
          refine (RBytes_any (by omega) _ HX7.out).mono ?_
          rintro e w8 ⟨A8, c8, rfl, hown8, hb8⟩
          have hbF := hbE.trans (hb8.mono hbE.size)
          have HR8 := Lib.hid (RdI.of_own (k := .u8) (l := Bi.pack m) hown8).1
          have HR78 := Lib.hid (HR7.out.keep hb8)
          rw [HN7.out]
          clear hown8
          go_wp2_with fail
          refine (Bytes_same (b := Bi.pack m) _ HN7.out.symm HN7.out.symm HR78.out HR8.out).mono ?_
          rintro e w9 ⟨rfl, rfl⟩
          go_wp2_with fail
          go_ret
          exact ⟨rfl, hbF⟩

end Go.Proofs.YtbdabjnmocnfpaaDoor
