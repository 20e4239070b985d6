/- The walk of kinlaw18.VbvCuts: it returns true, whatever the input. -/
import Derived.Test.YthjcidpfiddeeaaDoorVbvRoom
import Derived.Deep.RegionWith
namespace Go.Proofs.YthjcidpfiddeeaaDoor
open Go Go.RowKit Go.Extern.Stop Go.Stop Go.Extern

theorem RdI.drew {k : IntKind} {w : World} {A : Option Addr} {l : List Int} (h : RdI k w A l) : RdI k w.drew A l := h

theorem Ints_at {l : List Int} {A B : Option Addr} {c d n m : Nat} (hl : l.length ≤ 9223372036854775807) (w : World) (hn : n = l.length) (hm : m = l.length) (ha : RdI .i64 w A l) (hb : RdI .i64 w B l) :
    Calls Tryd.prog 17 #[.slice A n c, .slice B m d] w fun e w' => e = .returned (.bool true) ∧ Below w.heap.size w w' := by
  subst hn; subst hm; exact Ints_same hl w ha hb

theorem Play_at {qn qx re cu go ra ro fi : Int} {A : Option Addr} {l : List Int} {c n : Nat} (hl : l.length ≤ 9223372036854775807) (w : World) (hn : n = l.length) (ha : RdI .i64 w A l) :
    Calls Tryd.prog 11 #[.agg #[.int .i64 qn, .int .i64 qx, .int .i64 re, .int .i64 cu, .int .i64 go, .int .i64 ra, .int .i64 ro, .int .i64 fi], .slice A n c] w (ResOutC w (bucketR (Vb.mayB qn qx re cu go ra ro fi) (Vb.sizesB l) (Vb.play ra ro 0 fi l))) := by
  subst hn; exact Play_cap hl w ha
theorem Fills_at {qn qx re cu go ra ro fi : Int} {A : Option Addr} {l : List Int} {c n : Nat} (hl : l.length ≤ 9223372036854775807) (w : World) (hn : n = l.length) (ha : RdI .i64 w A l) :
    Calls Tryd.prog 13 #[.agg #[.int .i64 qn, .int .i64 qx, .int .i64 re, .int .i64 cu, .int .i64 go, .int .i64 ra, .int .i64 ro, .int .i64 fi], .slice A n c] w (ResOutC w (bucketR (Vb.mayB qn qx re cu go ra ro fi) (Vb.sizesB l) (Vb.fills ra ro 0 fi l))) := by
  subst hn; exact Fills_cap hl w ha

/-- Some answer. -/
def SomeOut (w : World) (e : Ending) (w' : World) : Prop := ∃ A n c v, e = .returned (.tuple #[.slice A n c, v]) ∧ Below w.heap.size w w'
theorem ResOutC.some {w w' : World} {r : Except Er (List Int)} {e : Ending} (h : ResOutC w r e w') : SomeOut w e w' := by
  cases r with
  | ok l => obtain ⟨A, c, _, h1, _, h3⟩ := h; exact ⟨A, _, c, _, h1, h3⟩
  | error x => obtain ⟨v, h1, _, h3⟩ := h; exact ⟨none, 0, 0, v, h1, h3⟩

theorem tm_bd {a b : Int} (ha : a ≤ 0) (hb : 0 < b) : 0 ≤ -(a.tmod b) ∧ -(a.tmod b) < b := by
  have e : -(a.tmod b) = (-a) % b := by rw [← Int.neg_tmod, Int.tmod_eq_emod_of_nonneg (by omega)]
  rw [e]
  exact ⟨Int.emod_nonneg _ (by omega), Int.emod_lt_of_pos _ hb⟩

theorem sizesB_take {l : List Int} (k : Nat) (h : Vb.sizesB l = true) : Vb.sizesB (l.take k) = true := by
  obtain ⟨h1, h2⟩ := sizesB_of h
  exact sizesB_yes (by rw [List.length_take]; omega) (fun n hn => h2 n (List.mem_of_mem_take hn))
theorem play_cut {may : Bool} {ra ro fi : Int} {l p : List Int} (k : Nat) (h : bucketR may (Vb.sizesB l) (Vb.play ra ro 0 fi l) = .ok p) : bucketR may (Vb.sizesB (l.take k)) (Vb.play ra ro 0 fi (l.take k)) = .ok (p.take k) := by
  obtain ⟨h1, h2, h3⟩ := bucketR_of_ok h
  rw [h1, sizesB_take k h2, Vb.play_take k h3]; rfl
theorem fills_cut {may : Bool} {ra ro fi : Int} {l p : List Int} (k : Nat) (h : bucketR may (Vb.sizesB l) (Vb.fills ra ro 0 fi l) = .ok p) : bucketR may (Vb.sizesB (l.take k)) (Vb.fills ra ro 0 fi (l.take k)) = .ok (p.take k) := by
  obtain ⟨h1, h2, h3⟩ := bucketR_of_ok h
  rw [h1, sizesB_take k h2, Vb.fills_take k h3]; rfl
theorem cut_ex {may : Bool} {ra ro fi : Int} {l p : List Int} {k : Nat} (hk : k ≤ l.length) (h : bucketR may (Vb.sizesB l) (Vb.play ra ro 0 fi l) = .ok p) : ∃ q, q.length = k ∧ q = p.take k ∧ bucketR may (Vb.sizesB (l.take k)) (Vb.play ra ro 0 fi (l.take k)) = .ok q := by
  obtain ⟨_, _, h3⟩ := bucketR_of_ok h
  exact ⟨p.take k, by rw [List.length_take, Vb.play_length h3]; omega, rfl, play_cut k h⟩
theorem fcut_ex {may : Bool} {ra ro fi : Int} {l p : List Int} {k : Nat} (hk : k ≤ l.length) (h : bucketR may (Vb.sizesB l) (Vb.fills ra ro 0 fi l) = .ok p) : ∃ q, q.length = k ∧ q = p.take k ∧ bucketR may (Vb.sizesB (l.take k)) (Vb.fills ra ro 0 fi (l.take k)) = .ok q := by
  obtain ⟨_, _, h3⟩ := bucketR_of_ok h
  exact ⟨p.take k, by rw [List.length_take, Vb.fills_length h3]; omega, rfl, fills_cut k h⟩
theorem fills_of_playR {may : Bool} {ra ro fi : Int} {l p : List Int} (h : bucketR may (Vb.sizesB l) (Vb.play ra ro 0 fi l) = .ok p) : ∃ g, bucketR may (Vb.sizesB l) (Vb.fills ra ro 0 fi l) = .ok g := by
  obtain ⟨h1, h2, h3⟩ := bucketR_of_ok h
  rw [h1, h2, Vb.fills_of_play h3]; exact ⟨_, rfl⟩
theorem playR_len {may : Bool} {ra ro fi : Int} {l p : List Int} (h : bucketR may (Vb.sizesB l) (Vb.play ra ro 0 fi l) = .ok p) : p.length = l.length := by
  obtain ⟨_, _, h3⟩ := bucketR_of_ok h; exact Vb.play_length h3
theorem fillsR_len {may : Bool} {ra ro fi : Int} {l p : List Int} (h : bucketR may (Vb.sizesB l) (Vb.fills ra ro 0 fi l) = .ok p) : p.length = l.length := by
  obtain ⟨_, _, h3⟩ := bucketR_of_ok h; exact Vb.fills_length h3

set_option maxRecDepth 100000 in
set_option maxHeartbeats 4000000 in
theorem cuts_ok {qn qx re cu go ra ro fi pl : Int} {A : Option Addr} {l : List Int} {c : Nat} (hl : l.length ≤ 9223372036854775807) (hlc : l.length ≤ c) (hcm : c ≤ 9223372036854775807) (hp1 : -9223372036854775808 ≤ pl) (hp2 : pl ≤ 9223372036854775807) (w : World) (hg : Gl w) (ha : RdI .i64 w A l) (h5 : l.length ≤ 5000) {p : List Int} (hr1 : bucketR (Vb.mayB qn qx re cu go ra ro fi) (Vb.sizesB l) (Vb.play ra ro 0 fi l) = .ok p) :
    Calls Tryd.prog 6 #[.agg #[.int .i64 qn, .int .i64 qx, .int .i64 re, .int .i64 cu, .int .i64 go, .int .i64 ra, .int .i64 ro, .int .i64 fi], .slice A l.length c, .int .i64 pl] w
      fun e w' => e = .returned (.bool true) ∧ Below w.heap.size w w' := by
  have HG := Lib.hid hg
  have HA := Lib.hid ha
  clear hg ha
  have hb0 : Below w.heap.size w (w.alloc (cfgC qn qx re cu go ra ro fi)) := (Below.refl _ _).alloc (Nat.le_refl _) _
  obtain ⟨g, hr3⟩ := fills_of_playR hr1
  have HPL := Lib.hid (playR_len hr1)
  have HGL := Lib.hid (fillsR_len hr3)
  have H1 := Lib.hid hr1
  have H3 := Lib.hid hr3
  clear hr1 hr3
  rcases (show pl < 0 ∨ 0 ≤ pl by omega) with hs | hs
  all_goals (
    go_enter Tryd.func6, Tryd.ntmps6
    go_wp2_with fail
    refine (first_true _ (HG.out.keep hb0)).mono ?_
    rintro e w1 ⟨rfl, hb1⟩
    have hbA : Below w.heap.size w w1 := hb0.trans (hb1.mono hb0.size)
    have hcf := (Blk.new w 23 #[.int .i64 qn, .int .i64 qx, .int .i64 re, .int .i64 cu, .int .i64 go, .int .i64 ra, .int .i64 ro, .int .i64 fi]).keep hb1
    clear hb1
    obtain ⟨a0, a1, a2, a3, a4, a5, a6, a7⟩ := cfg_cells hcf
    go_wp2_with fail
    obtain ⟨z, hz⟩ : ∃ z, z = (if pl < 0 then -((pl + 1).tmod ((l.length : Int) + 1)) else pl % ((l.length : Int) + 1)) := ⟨_, rfl⟩
    first | rw [if_pos hs] at hz | rw [if_neg (by omega)] at hz
    have hz01 : 0 ≤ z ∧ z < (l.length : Int) + 1 := by
      subst hz
      first
        | exact tm_bd (by omega) (by omega)
        | exact ⟨Int.emod_nonneg _ (by omega), Int.emod_lt_of_pos _ (by omega)⟩
    rw [← hz]
    clear hz
    obtain ⟨hz0, hz1⟩ := hz01
    obtain ⟨k, rfl⟩ := Int.eq_ofNat_of_zero_le hz0
    have hk : k ≤ l.length := by omega
    have hkc : (k : Int) ≤ (c : Int) := by omega
    have hk0 : (0 : Int) ≤ (k : Int) := by omega
    clear hz1
    obtain ⟨q2, hq2l, hq2e, H2⟩ := cut_ex hk H1.out
    have HQ2L := Lib.hid hq2l
    have HQ2E := Lib.hid hq2e
    have HH2 := Lib.hid H2
    clear hq2l hq2e H2
    obtain ⟨q4, hq4l, hq4e, H4⟩ := fcut_ex hk H3.out
    have HQ4L := Lib.hid hq4l
    have HQ4E := Lib.hid hq4e
    have HH4 := Lib.hid H4
    clear hq4l hq4e H4
    refine (Play_cap hl _ (HA.out.keep hbA)).mono ?_
    rw [H1.out]
    rintro e w2 ⟨A1, c1, hc1, rfl, hq1, hb2⟩
    have HC1 := Lib.hid hc1
    have HQ1 := Lib.hid hq1
    clear hc1 hq1
    have hbB := hbA.trans (hb2.mono hbA.size)
    have hcf2 := hcf.keep hb2
    clear a0 a1 a2 a3 a4 a5 a6 a7
    obtain ⟨a0, a1, a2, a3, a4, a5, a6, a7⟩ := cfg_cells hcf2
    go_wp2_with fail
    go_region_held3 (fun W => W.cell? ⟨w.heap.size, 0, none⟩ = some (.int .i64 qn) ∧ W.cell? ⟨w.heap.size, 1, none⟩ = some (.int .i64 qx) ∧ W.cell? ⟨w.heap.size, 2, none⟩ = some (.int .i64 re) ∧ W.cell? ⟨w.heap.size, 3, none⟩ = some (.int .i64 cu) ∧ W.cell? ⟨w.heap.size, 4, none⟩ = some (.int .i64 go) ∧ W.cell? ⟨w.heap.size, 5, none⟩ = some (.int .i64 ra) ∧ W.cell? ⟨w.heap.size, 6, none⟩ = some (.int .i64 ro) ∧ W.cell? ⟨w.heap.size, 7, none⟩ = some (.int .i64 fi))
      (first | go_keep | exact cfg_cells (hcf2.drew.keep hb3))
      ((go_at_call 11; refine (Play_at (l := l.take k) (by rw [List.length_take]; omega) _ (by rw [List.length_take]; omega) ((HA.out.keep hbB.drew).take hk)).mono ?_; rw [HH2.out]; rintro e w3 ⟨A2, c2, hc2, rfl, hq2, hb3⟩; clear hc2))
    have HQ2 := Lib.hid hq2
    clear hq2
    have hbC := hbB.drew.trans (hb3.mono hbB.drew.size)
    have hcf3 := hcf2.drew.keep hb3
    have hq13 := Lib.hid (HQ1.out.drew.keep hb3)
    clear a0 a1 a2 a3 a4 a5 a6 a7
    obtain ⟨a0, a1, a2, a3, a4, a5, a6, a7⟩ := cfg_cells hcf3
    go_wp2_with fail
    refine (Fills_cap hl _ (HA.out.keep hbC)).mono ?_
    rw [H3.out]
    rintro e w4 ⟨A3, c3, hc3, rfl, hq3, hb4⟩
    have HC3 := Lib.hid hc3
    have HQ3 := Lib.hid hq3
    clear hc3 hq3
    have hbD := hbC.trans (hb4.mono hbC.size)
    have hcf4 := hcf3.keep hb4
    clear a0 a1 a2 a3 a4 a5 a6 a7
    obtain ⟨a0, a1, a2, a3, a4, a5, a6, a7⟩ := cfg_cells hcf4
    go_wp2_with fail
    go_region_held3 (fun W => W.cell? ⟨w.heap.size, 0, none⟩ = some (.int .i64 qn) ∧ W.cell? ⟨w.heap.size, 1, none⟩ = some (.int .i64 qx) ∧ W.cell? ⟨w.heap.size, 2, none⟩ = some (.int .i64 re) ∧ W.cell? ⟨w.heap.size, 3, none⟩ = some (.int .i64 cu) ∧ W.cell? ⟨w.heap.size, 4, none⟩ = some (.int .i64 go) ∧ W.cell? ⟨w.heap.size, 5, none⟩ = some (.int .i64 ra) ∧ W.cell? ⟨w.heap.size, 6, none⟩ = some (.int .i64 ro) ∧ W.cell? ⟨w.heap.size, 7, none⟩ = some (.int .i64 fi))
      (first | go_keep | exact cfg_cells (hcf4.drew.keep hb5))
      ((go_at_call 13; refine (Fills_at (l := l.take k) (by rw [List.length_take]; omega) _ (by rw [List.length_take]; omega) ((HA.out.keep hbD.drew).take hk)).mono ?_; rw [HH4.out]; rintro e w5 ⟨A4, c4, hc4, rfl, hq4, hb5⟩; clear hc4))
    have hbE := hbD.drew.trans (hb5.mono hbD.drew.size)
    have hq25 := Lib.hid ((HQ2.out.keep hb4).drew.keep hb5)
    have hq15 := Lib.hid ((hq13.out.keep hb4).drew.keep hb5)
    have hq35 := Lib.hid (HQ3.out.drew.keep hb5)
    have HQ4 := Lib.hid hq4
    clear hq4
    have hkp : k ≤ p.length := by have := HPL.out; omega
    have hkg : k ≤ g.length := by have := HGL.out; omega
    have hkc1 : (k : Int) ≤ (c1 : Int) := by have := HC1.out.1; omega
    have hkc3 : (k : Int) ≤ (c3 : Int) := by have := HC3.out.1; omega
    have hne : ((p.length : Int) != (l.length : Int)) = false := by rw [HPL.out]; simp
    have heq : ((g.length : Int) == (l.length : Int)) = true := by rw [HGL.out]; simp
    clear a0 a1 a2 a3 a4 a5 a6 a7
    go_wp2_with fail
    refine (Ints_at (l := q2) (by have := HQ2L.out; omega) _ rfl HQ2L.out.symm hq25.out (by rw [HQ2E.out]; exact hq15.out.take hkp)).mono ?_
    rintro e w6 ⟨rfl, hb6⟩
    have hbF := hbE.trans (hb6.mono hbE.size)
    go_wp2_with fail
    refine (first_true _ (HG.out.keep hbF)).mono ?_
    rintro e w7 ⟨rfl, hb7⟩
    have hbG := hbF.trans (hb7.mono hbF.size)
    have hb67 := hb6.trans (hb7.mono hb6.size)
    go_wp2_with fail
    refine (Ints_at (l := q4) (by have := HQ4L.out; omega) _ rfl HQ4L.out.symm (HQ4.out.keep hb67) (by rw [HQ4E.out]; exact (hq35.out.keep hb67).take hkg)).mono ?_
    rintro e w8 ⟨rfl, hb8⟩
    go_wp2_with fail
    go_ret
    exact ⟨rfl, hbG.trans (hb8.mono hbG.size)⟩)

set_option maxRecDepth 100000 in
set_option maxHeartbeats 4000000 in
theorem cuts_errok {qn qx re cu go ra ro fi pl : Int} {A : Option Addr} {l : List Int} {c : Nat} (hl : l.length ≤ 9223372036854775807) (hlc : l.length ≤ c) (hcm : c ≤ 9223372036854775807) (hp1 : -9223372036854775808 ≤ pl) (hp2 : pl ≤ 9223372036854775807) (w : World) (hg : Gl w) (ha : RdI .i64 w A l) (h5 : l.length ≤ 5000) {pp : List (ByteArray × Int)} {kk : Int} (hr1 : bucketR (Vb.mayB qn qx re cu go ra ro fi) (Vb.sizesB l) (Vb.play ra ro 0 fi l) = .error (pp, kk)) {g : List Int} (hr3 : bucketR (Vb.mayB qn qx re cu go ra ro fi) (Vb.sizesB l) (Vb.fills ra ro 0 fi l) = .ok g) :
    Calls Tryd.prog 6 #[.agg #[.int .i64 qn, .int .i64 qx, .int .i64 re, .int .i64 cu, .int .i64 go, .int .i64 ra, .int .i64 ro, .int .i64 fi], .slice A l.length c, .int .i64 pl] w
      fun e w' => e = .returned (.bool true) ∧ Below w.heap.size w w' := by
  have HG := Lib.hid hg
  have HA := Lib.hid ha
  clear hg ha
  have hb0 : Below w.heap.size w (w.alloc (cfgC qn qx re cu go ra ro fi)) := (Below.refl _ _).alloc (Nat.le_refl _) _
  have HGL := Lib.hid (fillsR_len hr3)
  have H1 := Lib.hid hr1
  have H3 := Lib.hid hr3
  clear hr1 hr3
  rcases (show pl < 0 ∨ 0 ≤ pl by omega) with hs | hs
  all_goals (
    go_enter Tryd.func6, Tryd.ntmps6
    go_wp2_with fail
    refine (first_true _ (HG.out.keep hb0)).mono ?_
    rintro e w1 ⟨rfl, hb1⟩
    have hbA : Below w.heap.size w w1 := hb0.trans (hb1.mono hb0.size)
    have hcf := (Blk.new w 23 #[.int .i64 qn, .int .i64 qx, .int .i64 re, .int .i64 cu, .int .i64 go, .int .i64 ra, .int .i64 ro, .int .i64 fi]).keep hb1
    clear hb1
    obtain ⟨a0, a1, a2, a3, a4, a5, a6, a7⟩ := cfg_cells hcf
    go_wp2_with fail
    obtain ⟨z, hz⟩ : ∃ z, z = (if pl < 0 then -((pl + 1).tmod ((l.length : Int) + 1)) else pl % ((l.length : Int) + 1)) := ⟨_, rfl⟩
    first | rw [if_pos hs] at hz | rw [if_neg (by omega)] at hz
    have hz01 : 0 ≤ z ∧ z < (l.length : Int) + 1 := by
      subst hz
      first
        | exact tm_bd (by omega) (by omega)
        | exact ⟨Int.emod_nonneg _ (by omega), Int.emod_lt_of_pos _ (by omega)⟩
    rw [← hz]
    clear hz
    obtain ⟨hz0, hz1⟩ := hz01
    obtain ⟨k, rfl⟩ := Int.eq_ofNat_of_zero_le hz0
    have hk : k ≤ l.length := by omega
    have hkc : (k : Int) ≤ (c : Int) := by omega
    have hk0 : (0 : Int) ≤ (k : Int) := by omega
    clear hz1
    obtain ⟨q4, hq4l, hq4e, H4⟩ := fcut_ex hk H3.out
    have HQ4L := Lib.hid hq4l
    have HQ4E := Lib.hid hq4e
    have HH4 := Lib.hid H4
    clear hq4l hq4e H4
    refine (Play_cap hl _ (HA.out.keep hbA)).mono ?_
    rw [H1.out]
    rintro e w2 ⟨v1, rfl, he1, hb2⟩
    obtain ⟨T1, x1, rfl⟩ := he1.iface
    clear he1
    have hbB := hbA.trans (hb2.mono hbA.size)
    have hcf2 := hcf.keep hb2
    clear a0 a1 a2 a3 a4 a5 a6 a7
    obtain ⟨a0, a1, a2, a3, a4, a5, a6, a7⟩ := cfg_cells hcf2
    go_wp2_with fail
    go_region_held3 (fun W => W.cell? ⟨w.heap.size, 0, none⟩ = some (.int .i64 qn) ∧ W.cell? ⟨w.heap.size, 1, none⟩ = some (.int .i64 qx) ∧ W.cell? ⟨w.heap.size, 2, none⟩ = some (.int .i64 re) ∧ W.cell? ⟨w.heap.size, 3, none⟩ = some (.int .i64 cu) ∧ W.cell? ⟨w.heap.size, 4, none⟩ = some (.int .i64 go) ∧ W.cell? ⟨w.heap.size, 5, none⟩ = some (.int .i64 ra) ∧ W.cell? ⟨w.heap.size, 6, none⟩ = some (.int .i64 ro) ∧ W.cell? ⟨w.heap.size, 7, none⟩ = some (.int .i64 fi))
      (first | go_keep | exact cfg_cells (hcf2.drew.keep hb3))
      ((go_at_call 11; refine (Play_at (l := l.take k) (by rw [List.length_take]; omega) _ (by rw [List.length_take]; omega) ((HA.out.keep hbB.drew).take hk)).mono ?_; intro e w3 h3; obtain ⟨A2, n2, c2, v2, rfl, hb3⟩ := h3.some; clear h3))
    have hbC := hbB.drew.trans (hb3.mono hbB.drew.size)
    have hcf3 := hcf2.drew.keep hb3
    clear a0 a1 a2 a3 a4 a5 a6 a7
    obtain ⟨a0, a1, a2, a3, a4, a5, a6, a7⟩ := cfg_cells hcf3
    go_wp2_with fail
    refine (Fills_cap hl _ (HA.out.keep hbC)).mono ?_
    rw [H3.out]
    rintro e w4 ⟨A3, c3, hc3, rfl, hq3, hb4⟩
    have HC3 := Lib.hid hc3
    have HQ3 := Lib.hid hq3
    clear hc3 hq3
    have hbD := hbC.trans (hb4.mono hbC.size)
    have hcf4 := hcf3.keep hb4
    clear a0 a1 a2 a3 a4 a5 a6 a7
    obtain ⟨a0, a1, a2, a3, a4, a5, a6, a7⟩ := cfg_cells hcf4
    go_wp2_with fail
    go_region_held3 (fun W => W.cell? ⟨w.heap.size, 0, none⟩ = some (.int .i64 qn) ∧ W.cell? ⟨w.heap.size, 1, none⟩ = some (.int .i64 qx) ∧ W.cell? ⟨w.heap.size, 2, none⟩ = some (.int .i64 re) ∧ W.cell? ⟨w.heap.size, 3, none⟩ = some (.int .i64 cu) ∧ W.cell? ⟨w.heap.size, 4, none⟩ = some (.int .i64 go) ∧ W.cell? ⟨w.heap.size, 5, none⟩ = some (.int .i64 ra) ∧ W.cell? ⟨w.heap.size, 6, none⟩ = some (.int .i64 ro) ∧ W.cell? ⟨w.heap.size, 7, none⟩ = some (.int .i64 fi))
      (first | go_keep | exact cfg_cells (hcf4.drew.keep hb5))
      ((go_at_call 13; refine (Fills_at (l := l.take k) (by rw [List.length_take]; omega) _ (by rw [List.length_take]; omega) ((HA.out.keep hbD.drew).take hk)).mono ?_; rw [HH4.out]; rintro e w5 ⟨A4, c4, hc4, rfl, hq4, hb5⟩; clear hc4))
    have hbE := hbD.drew.trans (hb5.mono hbD.drew.size)
    have hq35 := Lib.hid (HQ3.out.drew.keep hb5)
    have HQ4 := Lib.hid hq4
    clear hq4
    have hkg : k ≤ g.length := by have := HGL.out; omega
    have hkc3 : (k : Int) ≤ (c3 : Int) := by have := HC3.out.1; omega
    have heq : ((g.length : Int) == (l.length : Int)) = true := by rw [HGL.out]; simp
    clear a0 a1 a2 a3 a4 a5 a6 a7
    go_wp2_with fail
    refine (first_true _ (HG.out.keep hbE)).mono ?_
    rintro e w7 ⟨rfl, hb7⟩
    have hbG := hbE.trans (hb7.mono hbE.size)
    go_wp2_with fail
    refine (Ints_at (l := q4) (by have := HQ4L.out; omega) _ rfl HQ4L.out.symm (HQ4.out.keep hb7) (by rw [HQ4E.out]; exact (hq35.out.keep hb7).take hkg)).mono ?_
    rintro e w8 ⟨rfl, hb8⟩
    go_wp2_with fail
    go_ret
    exact ⟨rfl, hbG.trans (hb8.mono hbG.size)⟩)

set_option maxRecDepth 100000 in
set_option maxHeartbeats 4000000 in
theorem cuts_errerr {qn qx re cu go ra ro fi pl : Int} {A : Option Addr} {l : List Int} {c : Nat} (hl : l.length ≤ 9223372036854775807) (hlc : l.length ≤ c) (hcm : c ≤ 9223372036854775807) (hp1 : -9223372036854775808 ≤ pl) (hp2 : pl ≤ 9223372036854775807) (w : World) (hg : Gl w) (ha : RdI .i64 w A l) (h5 : l.length ≤ 5000) {pp : List (ByteArray × Int)} {kk : Int} (hr1 : bucketR (Vb.mayB qn qx re cu go ra ro fi) (Vb.sizesB l) (Vb.play ra ro 0 fi l) = .error (pp, kk)) {pp3 : List (ByteArray × Int)} {kk3 : Int} (hr3 : bucketR (Vb.mayB qn qx re cu go ra ro fi) (Vb.sizesB l) (Vb.fills ra ro 0 fi l) = .error (pp3, kk3)) :
    Calls Tryd.prog 6 #[.agg #[.int .i64 qn, .int .i64 qx, .int .i64 re, .int .i64 cu, .int .i64 go, .int .i64 ra, .int .i64 ro, .int .i64 fi], .slice A l.length c, .int .i64 pl] w
      fun e w' => e = .returned (.bool true) ∧ Below w.heap.size w w' := by
  have HG := Lib.hid hg
  have HA := Lib.hid ha
  clear hg ha
  have hb0 : Below w.heap.size w (w.alloc (cfgC qn qx re cu go ra ro fi)) := (Below.refl _ _).alloc (Nat.le_refl _) _
  have H1 := Lib.hid hr1
  have H3 := Lib.hid hr3
  clear hr1 hr3
  rcases (show pl < 0 ∨ 0 ≤ pl by omega) with hs | hs
  all_goals (
    go_enter Tryd.func6, Tryd.ntmps6
    go_wp2_with fail
    refine (first_true _ (HG.out.keep hb0)).mono ?_
    rintro e w1 ⟨rfl, hb1⟩
    have hbA : Below w.heap.size w w1 := hb0.trans (hb1.mono hb0.size)
    have hcf := (Blk.new w 23 #[.int .i64 qn, .int .i64 qx, .int .i64 re, .int .i64 cu, .int .i64 go, .int .i64 ra, .int .i64 ro, .int .i64 fi]).keep hb1
    clear hb1
    obtain ⟨a0, a1, a2, a3, a4, a5, a6, a7⟩ := cfg_cells hcf
    go_wp2_with fail
    obtain ⟨z, hz⟩ : ∃ z, z = (if pl < 0 then -((pl + 1).tmod ((l.length : Int) + 1)) else pl % ((l.length : Int) + 1)) := ⟨_, rfl⟩
    first | rw [if_pos hs] at hz | rw [if_neg (by omega)] at hz
    have hz01 : 0 ≤ z ∧ z < (l.length : Int) + 1 := by
      subst hz
      first
        | exact tm_bd (by omega) (by omega)
        | exact ⟨Int.emod_nonneg _ (by omega), Int.emod_lt_of_pos _ (by omega)⟩
    rw [← hz]
    clear hz
    obtain ⟨hz0, hz1⟩ := hz01
    obtain ⟨k, rfl⟩ := Int.eq_ofNat_of_zero_le hz0
    have hk : k ≤ l.length := by omega
    have hkc : (k : Int) ≤ (c : Int) := by omega
    have hk0 : (0 : Int) ≤ (k : Int) := by omega
    clear hz1
    refine (Play_cap hl _ (HA.out.keep hbA)).mono ?_
    rw [H1.out]
    rintro e w2 ⟨v1, rfl, he1, hb2⟩
    obtain ⟨T1, x1, rfl⟩ := he1.iface
    clear he1
    have hbB := hbA.trans (hb2.mono hbA.size)
    have hcf2 := hcf.keep hb2
    clear a0 a1 a2 a3 a4 a5 a6 a7
    obtain ⟨a0, a1, a2, a3, a4, a5, a6, a7⟩ := cfg_cells hcf2
    go_wp2_with fail
    go_region_held3 (fun W => W.cell? ⟨w.heap.size, 0, none⟩ = some (.int .i64 qn) ∧ W.cell? ⟨w.heap.size, 1, none⟩ = some (.int .i64 qx) ∧ W.cell? ⟨w.heap.size, 2, none⟩ = some (.int .i64 re) ∧ W.cell? ⟨w.heap.size, 3, none⟩ = some (.int .i64 cu) ∧ W.cell? ⟨w.heap.size, 4, none⟩ = some (.int .i64 go) ∧ W.cell? ⟨w.heap.size, 5, none⟩ = some (.int .i64 ra) ∧ W.cell? ⟨w.heap.size, 6, none⟩ = some (.int .i64 ro) ∧ W.cell? ⟨w.heap.size, 7, none⟩ = some (.int .i64 fi))
      (first | go_keep | exact cfg_cells (hcf2.drew.keep hb3))
      ((go_at_call 11; refine (Play_at (l := l.take k) (by rw [List.length_take]; omega) _ (by rw [List.length_take]; omega) ((HA.out.keep hbB.drew).take hk)).mono ?_; intro e w3 h3; obtain ⟨A2, n2, c2, v2, rfl, hb3⟩ := h3.some; clear h3))
    have hbC := hbB.drew.trans (hb3.mono hbB.drew.size)
    have hcf3 := hcf2.drew.keep hb3
    clear a0 a1 a2 a3 a4 a5 a6 a7
    obtain ⟨a0, a1, a2, a3, a4, a5, a6, a7⟩ := cfg_cells hcf3
    go_wp2_with fail
    refine (Fills_cap hl _ (HA.out.keep hbC)).mono ?_
    rw [H3.out]
    rintro e w4 ⟨v3, rfl, he3, hb4⟩
    obtain ⟨T3, x3, rfl⟩ := he3.iface
    have hbD := hbC.trans (hb4.mono hbC.size)
    have hcf4 := hcf3.keep hb4
    clear a0 a1 a2 a3 a4 a5 a6 a7
    obtain ⟨a0, a1, a2, a3, a4, a5, a6, a7⟩ := cfg_cells hcf4
    go_wp2_with fail
    go_region_held3 (fun W => W.cell? ⟨w.heap.size, 0, none⟩ = some (.int .i64 qn) ∧ W.cell? ⟨w.heap.size, 1, none⟩ = some (.int .i64 qx) ∧ W.cell? ⟨w.heap.size, 2, none⟩ = some (.int .i64 re) ∧ W.cell? ⟨w.heap.size, 3, none⟩ = some (.int .i64 cu) ∧ W.cell? ⟨w.heap.size, 4, none⟩ = some (.int .i64 go) ∧ W.cell? ⟨w.heap.size, 5, none⟩ = some (.int .i64 ra) ∧ W.cell? ⟨w.heap.size, 6, none⟩ = some (.int .i64 ro) ∧ W.cell? ⟨w.heap.size, 7, none⟩ = some (.int .i64 fi))
      (first | go_keep | exact cfg_cells (hcf4.drew.keep hb5))
      ((go_at_call 13; refine (Fills_at (l := l.take k) (by rw [List.length_take]; omega) _ (by rw [List.length_take]; omega) ((HA.out.keep hbD.drew).take hk)).mono ?_; intro e w5 h5'; obtain ⟨A4, n4, c4, v4, rfl, hb5⟩ := h5'.some; clear h5'))
    have hbE := hbD.drew.trans (hb5.mono hbD.drew.size)
    clear a0 a1 a2 a3 a4 a5 a6 a7
    go_wp2_with fail
    refine (first_true _ (HG.out.keep hbE)).mono ?_
    rintro e w7 ⟨rfl, hb7⟩
    go_wp2_with fail
    go_ret
    exact ⟨rfl, hbE.trans (hb7.mono hbE.size)⟩)

set_option maxRecDepth 100000 in
set_option maxHeartbeats 1000000 in
theorem VbvCuts_walk {qn qx re cu go ra ro fi pl : Int} {A : Option Addr} {l : List Int} {c : Nat} (hl : l.length ≤ 9223372036854775807) (hlc : l.length ≤ c) (hcm : c ≤ 9223372036854775807) (hp1 : -9223372036854775808 ≤ pl) (hp2 : pl ≤ 9223372036854775807) (w : World) (hg : Gl w) (ha : RdI .i64 w A l) :
    Calls Tryd.prog 6 #[.agg #[.int .i64 qn, .int .i64 qx, .int .i64 re, .int .i64 cu, .int .i64 go, .int .i64 ra, .int .i64 ro, .int .i64 fi], .slice A l.length c, .int .i64 pl] w
      fun e w' => e = .returned (.bool true) ∧ Below w.heap.size w w' := by
  by_cases h5 : l.length ≤ 5000
  · cases hr1 : bucketR (Vb.mayB qn qx re cu go ra ro fi) (Vb.sizesB l) (Vb.play ra ro 0 fi l) with
    | ok p => exact cuts_ok hl hlc hcm hp1 hp2 w hg ha h5 hr1
    | error x =>
      obtain ⟨pp, kk⟩ := x
      cases hr3 : bucketR (Vb.mayB qn qx re cu go ra ro fi) (Vb.sizesB l) (Vb.fills ra ro 0 fi l) with
      | ok g => exact cuts_errok hl hlc hcm hp1 hp2 w hg ha h5 hr1 hr3
      | error x3 => exact cuts_errerr hl hlc hcm hp1 hp2 w hg ha h5 hr1 hr3
  have HG := Lib.hid hg
  have HA := Lib.hid ha
  clear hg ha
  have hb0 : Below w.heap.size w (w.alloc (cfgC qn qx re cu go ra ro fi)) := (Below.refl _ _).alloc (Nat.le_refl _) _
  go_enter Tryd.func6, Tryd.ntmps6
  go_wp2_with fail
  refine (first_true _ (HG.out.keep hb0)).mono ?_
  rintro e w1 ⟨rfl, hb1⟩
  have hbA : Below w.heap.size w w1 := hb0.trans (hb1.mono hb0.size)
  go_wp2_with fail
  refine (first_true _ (HG.out.keep hbA)).mono ?_
  rintro e w2 ⟨rfl, hb2⟩
  go_wp2_with fail
  go_ret
  exact ⟨rfl, hbA.trans (hb2.mono hbA.size)⟩

end Go.Proofs.YthjcidpfiddeeaaDoor
