/- The walk of kinlaw18.VbvFits: it returns true, whatever the input. -/
import Derived.Test.YthjcidpfiddeeaaDoorVbvCuts
import Derived.Test.YthjcidpfiddeeaaDoorChg
import Derived.BigQuiet
namespace Go.Proofs.YthjcidpfiddeeaaDoor
open Go Go.RowKit Go.Extern.Stop Go.Stop Go.Extern

theorem addL_length {s g : List Int} (h : g.length = s.length) : (Vb.addL s g).length = s.length := by
  induction s generalizing g with
  | nil => cases g <;> simp [Vb.addL]
  | cons a r ih =>
    cases g with
    | nil => simp at h
    | cons b t => simp only [List.length_cons] at h; simp only [Vb.addL, List.length_cons]; rw [ih (by omega)]
theorem addL_get {s g : List Int} : ∀ (k : Nat) (hs : k < s.length) (hg : k < g.length) (hk : k < (Vb.addL s g).length), (Vb.addL s g)[k] = s[k] + g[k] := by
  induction s generalizing g with
  | nil => intro k hs; simp at hs
  | cons a r ih =>
    cases g with
    | nil => intro k _ hg; simp at hg
    | cons b t =>
      intro k hs hg hk
      cases k with
      | zero => simp [Vb.addL]
      | succ k =>
        simp only [Vb.addL, List.getElem_cons_succ]
        exact ih k (by simpa using hs) (by simpa using hg) _
theorem addL_take {s g : List Int} (h : g.length = s.length) (j : Nat) (hs : j < s.length) (hg : j < g.length) : (Vb.addL s g).take (j + 1) = (Vb.addL s g).take j ++ [s[j] + g[j]] := by
  have hl := addL_length h
  rw [List.take_succ_eq_append_getElem (by omega), addL_get j hs hg]

/-- What the fills of sizes that go are. -/
structure Fit (qn qx re cu go ra ro fi : Int) (l g : List Int) : Prop where
  len : g.length = l.length
  rates : 8 ≤ ra ∧ ra ≤ ro ∧ ro ≤ 16384
  l4 : l.length ≤ 4096
  nums : ∀ k (hk : k < l.length) (hg : k < g.length), 0 ≤ l[k] ∧ l[k] ≤ 16384 ∧ 0 ≤ g[k] ∧ g[k] ≤ 16384
  goes : ∃ p, bucketR (Vb.mayB qn qx re cu go ra ro fi) (Vb.sizesB (Vb.addL l g)) (Vb.play ra ro 0 fi (Vb.addL l g)) = .ok p ∧ p.length = l.length ∧ Vb.within ra ro p = true

theorem fit_of {qn qx re cu go ra ro fi : Int} {l g : List Int} (h : bucketR (Vb.mayB qn qx re cu go ra ro fi) (Vb.sizesB l) (Vb.fills ra ro 0 fi l) = .ok g) : Fit qn qx re cu go ra ro fi l g := by
  obtain ⟨h1, h2, h3⟩ := bucketR_of_ok h
  obtain ⟨_, _, _, _, _, _, _, _, _, m1, m2, m3, m4, m5⟩ := mayB_of h1
  obtain ⟨s1, s2⟩ := sizesB_of h2
  have hl := Vb.fills_length h3
  have hbd := fills_bd h3 (fun n hn => (s2 n hn).1) m5 (by omega)
  have hnums : ∀ k (hk : k < l.length) (hg : k < g.length), 0 ≤ l[k] ∧ l[k] ≤ 16384 ∧ 0 ≤ g[k] ∧ g[k] ≤ 16384 := fun k hk hg => by
    have a := hbd k hg
    have b := (s2 l[k] (List.getElem_mem hk)).1
    have d := (Vb.fills_get h3 k hk hg).1
    have e := Vb.afterF_le (rate := ra) (l.take k) m5
    omega
  obtain ⟨p, hp, hpl, hpb, _⟩ := Vb.play_of_fills m2 (fun n hn => (s2 n hn).1) m5 h3
  refine ⟨hl, ⟨m1, m2, m3⟩, s1, hnums, p, ?_, hpl, (Vb.within_iff _ _ _).2 hpb⟩
  rw [h1, sizesB_yes (by rw [addL_length hl]; exact s1) (fun n hn => ?_), hp]
  · rfl
  · obtain ⟨k, hk, rfl⟩ := List.getElem_of_mem hn
    have hk2 : k < l.length := by rw [addL_length hl] at hk; exact hk
    rw [addL_get k hk2 (by omega)]
    have := hnums k hk2 (by omega)
    omega

theorem playR_err {may : Bool} {ra ro fi : Int} {l : List Int} {e : Er} (h : bucketR may (Vb.sizesB l) (Vb.fills ra ro 0 fi l) = .error e) : ∃ p c, bucketR may (Vb.sizesB l) (Vb.play ra ro 0 fi l) = .error (p, c) := by
  cases hp : bucketR may (Vb.sizesB l) (Vb.play ra ro 0 fi l) with
  | error x => exact ⟨x.1, x.2, rfl⟩
  | ok p => obtain ⟨g, hg⟩ := fills_of_playR hp; rw [h] at hg; cases hg
theorem fills_zero {may : Bool} {ra ro fi : Int} {l p g : List Int} (hp : bucketR may (Vb.sizesB l) (Vb.play ra ro 0 fi l) = .ok p) (hg : bucketR may (Vb.sizesB l) (Vb.fills ra ro 0 fi l) = .ok g) : Vb.within 0 0 g = true := by
  obtain ⟨_, _, h3⟩ := bucketR_of_ok hp
  obtain ⟨_, _, h4⟩ := bucketR_of_ok hg
  rw [Vb.fills_of_play h3] at h4
  cases h4
  exact (Vb.within_iff _ _ _).2 fun n hn => by
    have := List.eq_of_mem_replicate hn
    omega

set_option maxRecDepth 100000 in
set_option maxHeartbeats 2000000 in
theorem VbvFits_walk {qn qx re cu go ra ro fi : Int} {A : Option Addr} {l : List Int} {c : Nat} (hl : l.length ≤ 9223372036854775807) (w : World) (hg : Gl w) (ha : RdI .i64 w A l) :
    Calls Tryd.prog 4 #[.agg #[.int .i64 qn, .int .i64 qx, .int .i64 re, .int .i64 cu, .int .i64 go, .int .i64 ra, .int .i64 ro, .int .i64 fi], .slice A l.length c] w
      fun e w' => e = .returned (.bool true) ∧ Below w.heap.size w w' := by
  obtain ⟨i0, hi, hz0, hz1, hz2⟩ := info_parts intInfo
  have HG := Lib.hid hg
  have HA := Lib.hid ha
  clear hg ha
  have hb0 : Below w.heap.size w (w.alloc (cfgC qn qx re cu go ra ro fi)) := (Below.refl _ _).alloc (Nat.le_refl _) _
  by_cases h5 : l.length ≤ 5000
  · go_enter Tryd.func4, Tryd.ntmps4
    go_wp2_with fail
    refine (first_true _ (HG.out.keep hb0)).mono ?_
    rintro e w1 ⟨rfl, hb1⟩
    have hbA : Below w.heap.size w w1 := hb0.trans (hb1.mono hb0.size)
    have hcf := (Blk.new w 23 #[.int .i64 qn, .int .i64 qx, .int .i64 re, .int .i64 cu, .int .i64 go, .int .i64 ra, .int .i64 ro, .int .i64 fi]).keep hb1
    clear hb1 hb0
    obtain ⟨a0, a1, a2, a3, a4, a5, a6, a7⟩ := cfg_cells hcf
    go_wp2_with fail
    cases hr : bucketR (Vb.mayB qn qx re cu go ra ro fi) (Vb.sizesB l) (Vb.fills ra ro 0 fi l) with
    | error x =>
      obtain ⟨pp, kk⟩ := x
      obtain ⟨p2, k2, hr2⟩ := playR_err hr
      have HR := Lib.hid hr
      have HR2 := Lib.hid hr2
      clear hr hr2
      refine (Fills_cap hl _ (HA.out.keep hbA)).mono ?_
      rw [HR.out]
      rintro e w2 ⟨v2, rfl, he2, hb2⟩
      obtain ⟨T2, x2, rfl⟩ := he2.iface
      have hbB := hbA.trans (hb2.mono hbA.size)
      clear a0 a1 a2 a3 a4 a5 a6 a7
      obtain ⟨a0, a1, a2, a3, a4, a5, a6, a7⟩ := cfg_cells (hcf.keep hb2)
      go_wp2_with fail
      refine (Play_cap hl _ (HA.out.keep hbB)).mono ?_
      rw [HR2.out]
      rintro e w3 ⟨v3, rfl, he3, hb3⟩
      obtain ⟨T3, x3, rfl⟩ := he3.iface
      have hbC := hbB.trans (hb3.mono hbB.size)
      clear a0 a1 a2 a3 a4 a5 a6 a7
      go_wp2_with fail
      refine (first_true _ (HG.out.keep hbC)).mono ?_
      rintro e w4 ⟨rfl, hb4⟩
      go_wp2_with fail
      go_ret
      exact ⟨rfl, hbC.trans (hb4.mono hbC.size)⟩
    | ok g =>
      have hfit := fit_of hr
      obtain ⟨p, hp, hpl, hpw⟩ := hfit.goes
      have hzero := Lib.hid (fun q (h : bucketR (Vb.mayB qn qx re cu go ra ro fi) (Vb.sizesB l) (Vb.play ra ro 0 fi l) = .ok q) => (fills_zero h hr))
      have hplen := Lib.hid (fun q (h : bucketR (Vb.mayB qn qx re cu go ra ro fi) (Vb.sizesB l) (Vb.play ra ro 0 fi l) = .ok q) => (playR_len h))
      have HR := Lib.hid hr
      have HP := Lib.hid hp
      have HPL := Lib.hid hpl
      have HPW := Lib.hid hpw
      have HGL := Lib.hid hfit.len
      have HN := Lib.hid hfit.nums
      have hl4 := hfit.l4
      obtain ⟨hra1, hra2, hra3⟩ := hfit.rates
      have hgne : ((g.length : Int) != (l.length : Int)) = false := by rw [hfit.len]; simp
      have hg9 : g.length ≤ 9223372036854775807 := by rw [hfit.len]; omega
      have hp9 : p.length ≤ 9223372036854775807 := by omega
      clear hr hp hpl hpw hfit
      refine (Fills_cap hl _ (HA.out.keep hbA)).mono ?_
      rw [HR.out]
      rintro e w2 ⟨A2, c2, hc2, rfl, hr2, hb2⟩
      have hbB := hbA.trans (hb2.mono hbA.size)
      have hcf2 := hcf.keep hb2
      clear a0 a1 a2 a3 a4 a5 a6 a7
      obtain ⟨a0, a1, a2, a3, a4, a5, a6, a7⟩ := cfg_cells hcf2
      go_wp2_with fail
      cases hq : bucketR (Vb.mayB qn qx re cu go ra ro fi) (Vb.sizesB l) (Vb.play ra ro 0 fi l) with
      | error x =>
        obtain ⟨pp, kk⟩ := x
        have HQ := Lib.hid hq
        clear hq
        refine (Play_cap hl _ (HA.out.keep hbB)).mono ?_
        rw [HQ.out]
        rintro e w3 ⟨v3, rfl, he3, hb3⟩
        obtain ⟨T3, x3, rfl⟩ := he3.iface
        have hbC := hbB.trans (hb3.mono hbB.size)
        have hcf3 := hcf2.keep hb3
        have hr23 := hr2.keep hb3
        have HR23 := Lib.hid hr23
        clear a0 a1 a2 a3 a4 a5 a6 a7 hr2 hr23
        go_wp2_with fail
        go_loopg [9, 10] l.length (fun k vs vi wr => ∃ (j : Nat) (acc : List Int), j + k = l.length ∧ vi = .int .i64 j ∧ Hid (acc.length = j) ∧ Hid (acc = (Vb.addL l g).take j) ∧
          wr.ownsRow w3.heap.size 3 1 vs acc.length (acc.map (Value.int .i64)) ∧ Below w3.heap.size w3 wr)
        case atStart => exact ⟨0, [], by omega, rfl, rfl, rfl, World.ownsRow_nil _ _ _ _, Below.refl _ _⟩
        case round =>
          obtain ⟨j, acc, hj, rfl, hac, hae, hown, hbel⟩ := hrel
          have hac4 : acc.length ≤ 4096 := by have := hac.out; omega
          obtain ⟨A8, c8, rfl⟩ := own_slice hown
          by_cases hlt : j < l.length
          · have hltg : j < g.length := by have := HGL.out; omega
            obtain ⟨b2, o2, rfl, k2'⟩ := (HA.out.keep hbC).at_ hlt
            obtain ⟨b3, o3, rfl, k3'⟩ := HR23.out.at_ hltg
            have hb2l : b2 < w3.heap.size := lt_of_cell k2'
            have hb3l : b3 < w3.heap.size := lt_of_cell k3'
            have k2 := cell_keep k2' hbel
            have k3 := cell_keep k3' hbel
            have hn2 : (Value.slice A8 acc.length c8).ownBlock ≠ some b2 := fun e => by have := (hown.lt b2 e).1; omega
            have hn3 : (Value.slice A8 acc.length c8).ownBlock ≠ some b3 := fun e => by have := (hown.lt b3 e).1; omega
            clear k2' k3'
            have hlt' : (j : Int) < (l.length : Int) := by omega
            have hltg' : (j : Int) < (g.length : Int) := by omega
            obtain ⟨hx0, hx1, hy0, hy1⟩ := HN.out j hlt hltg
            have hsn := Lib.hid (addL_take HGL.out j hlt hltg)
            obtain ⟨x, hx⟩ : ∃ x, l[j] = x := ⟨_, rfl⟩
            obtain ⟨y, hy⟩ : ∃ y, g[j] = y := ⟨_, rfl⟩
            rw [hx] at k2 hx0 hx1 hsn
            rw [hy] at k3 hy0 hy1 hsn
            clear hx hy
            have hwz := hown.lt
            have hsz := hbel.size
            have hb3z := hbC.size
            have hxy0 : 0 ≤ x + y := by omega
            have hxy1 : x + y ≤ 32768 := by omega
            have hwxy : IntKind.i64.wrap (x + y) = x + y := IntWalk.i64_in _ (by omega)
            go_wp2_with fail
            go_region_held3 (fun W => W.cell? ⟨b2, o2 + j, none⟩ = some (.int .i64 x) ∧ W.cell? ⟨b3, o3 + j, none⟩ = some (.int .i64 y))
              (first
                | go_keep
                | (go_split_ands
                   refine ⟨?_, ?_⟩
                   · (rw [hgrow.cell_far _ (by simp; omega) (Ne.symm hn2)]; assumption)
                   · (rw [hgrow.cell_far _ (by simp; omega) (Ne.symm hn3)]; assumption)))
              ((refine step_append_lies _ (by rfl) (.tmp 75) (.tmp 85) _ (by rfl) w3.heap.size 3 i0 _ 1 8 Tryd.underlying24 hi hz0 hz1 hz2 rfl (by omega) (.slice A8 acc.length c8) acc.length _ (by rfl) ((hown.alloc _).drew) ⟨wr.heap.size, 0, none⟩ 1 1 [.int .i64 (x + y)] (by rfl) (by rfl) (World.news_of_block (cs := #[.int .i64 (x + y)]) (t := 3) (fr := (0, 0)) (heap_alloc_new wr _)) (by simp [Value.oneCell']) (by omega) (by unfold maxLen; omega) (by omega) (by simp; omega) (wr.heap.size + 1) (by simp) ?_; intro g' cap w1' hown1 hgrow hat hlt1))
            have HO := Lib.hid hown1
            have HW := Lib.hid hgrow
            clear hown1 hgrow hat
            go_wp2_with fail
            go_roundg (gk - 1)
            case measure => omega
            case rel =>
              refine ⟨j + 1, acc ++ [x + y], by omega, by go_num, Lib.hid (by have := hac.out; simpa using this), Lib.hid (by rw [hsn.out, ← hae.out]), ?_, ?_⟩
              · simpa using HO.out
              · exact (hbel.alloc hbel.size _).drew.grown HW.out (by simp; omega) (fun k hk => by have := (hown.lt k hk).1; omega)
          · have hae' : acc = Vb.addL l g := by rw [hae.out]; exact List.take_of_length_le (by rw [addL_length HGL.out]; omega)
            have HP' := HP
            rw [← hae'] at HP'
            have hbD : Below w.heap.size w wr := hbC.trans (hbel.mono hbC.size)
            have hcf4 := hcf3.keep hbel
            obtain ⟨a0, a1, a2, a3, a4, a5, a6, a7⟩ := cfg_cells hcf4
            have hre := (RdI.of_own hown).1
            clear hae'
            go_wp2_with fail
            refine (Play_cap (by omega) _ hre).mono ?_
            rw [HP'.out]
            rintro e w5 ⟨A5, c5, hc5, rfl, hr5, hb5⟩
            have hbE := hbD.trans (hb5.mono hbD.size)
            have hcf5 := hcf4.keep hb5
            clear a0 a1 a2 a3 a4 a5 a6 a7
            go_wp2_with fail
            refine (first_true _ (HG.out.keep hbE)).mono ?_
            rintro e w6 ⟨rfl, hb6⟩
            have hbF := hbE.trans (hb6.mono hbE.size)
            have hr56 := hr5.keep hb6
            have hcf6 := hcf5.keep hb6
            obtain ⟨a0, a1, a2, a3, a4, a5, a6, a7⟩ := cfg_cells hcf6
            have hpeq : ((p.length : Int) == (l.length : Int)) = true := by rw [HPL.out]; simp
            go_wp2_with fail
            refine (Within_any hp9 _ hr56).mono ?_
            rw [HPW.out]
            rintro e w7 ⟨rfl, rfl⟩
            go_wp2_with fail
            go_ret
            exact ⟨rfl, hbF⟩
      | ok q =>
        have hqw := hzero.out q hq
        have hql := hplen.out q hq
        have hqne : ((q.length : Int) != (l.length : Int)) = false := by rw [hql]; simp
        have HQ := Lib.hid hq
        have HQW := Lib.hid hqw
        clear hq hqw hql
        refine (Play_cap hl _ (HA.out.keep hbB)).mono ?_
        rw [HQ.out]
        rintro e w3 ⟨A3, c3, hc3, rfl, hr3, hb3⟩
        have hbC := hbB.trans (hb3.mono hbB.size)
        have hcf3 := hcf2.keep hb3
        have hr23 := hr2.keep hb3
        have HR23 := Lib.hid hr23
        clear a0 a1 a2 a3 a4 a5 a6 a7 hr2 hr3 hr23
        go_wp2_with fail
        refine (Within_any hg9 _ HR23.out).mono ?_
        rw [HQW.out]
        rintro e w3' ⟨rfl, rfl⟩
        go_wp2_with fail
        go_loopg [9, 10] l.length (fun k vs vi wr => ∃ (j : Nat) (acc : List Int), j + k = l.length ∧ vi = .int .i64 j ∧ Hid (acc.length = j) ∧ Hid (acc = (Vb.addL l g).take j) ∧
          wr.ownsRow w3.heap.size 3 1 vs acc.length (acc.map (Value.int .i64)) ∧ Below w3.heap.size w3 wr)
        case atStart => exact ⟨0, [], by omega, rfl, rfl, rfl, World.ownsRow_nil _ _ _ _, Below.refl _ _⟩
        case round =>
          obtain ⟨j, acc, hj, rfl, hac, hae, hown, hbel⟩ := hrel
          have hac4 : acc.length ≤ 4096 := by have := hac.out; omega
          obtain ⟨A8, c8, rfl⟩ := own_slice hown
          by_cases hlt : j < l.length
          · have hltg : j < g.length := by have := HGL.out; omega
            obtain ⟨b2, o2, rfl, k2'⟩ := (HA.out.keep hbC).at_ hlt
            obtain ⟨b3, o3, rfl, k3'⟩ := HR23.out.at_ hltg
            have hb2l : b2 < w3.heap.size := lt_of_cell k2'
            have hb3l : b3 < w3.heap.size := lt_of_cell k3'
            have k2 := cell_keep k2' hbel
            have k3 := cell_keep k3' hbel
            have hn2 : (Value.slice A8 acc.length c8).ownBlock ≠ some b2 := fun e => by have := (hown.lt b2 e).1; omega
            have hn3 : (Value.slice A8 acc.length c8).ownBlock ≠ some b3 := fun e => by have := (hown.lt b3 e).1; omega
            clear k2' k3'
            have hlt' : (j : Int) < (l.length : Int) := by omega
            have hltg' : (j : Int) < (g.length : Int) := by omega
            obtain ⟨hx0, hx1, hy0, hy1⟩ := HN.out j hlt hltg
            have hsn := Lib.hid (addL_take HGL.out j hlt hltg)
            obtain ⟨x, hx⟩ : ∃ x, l[j] = x := ⟨_, rfl⟩
            obtain ⟨y, hy⟩ : ∃ y, g[j] = y := ⟨_, rfl⟩
            rw [hx] at k2 hx0 hx1 hsn
            rw [hy] at k3 hy0 hy1 hsn
            clear hx hy
            have hwz := hown.lt
            have hsz := hbel.size
            have hb3z := hbC.size
            have hxy0 : 0 ≤ x + y := by omega
            have hxy1 : x + y ≤ 32768 := by omega
            have hwxy : IntKind.i64.wrap (x + y) = x + y := IntWalk.i64_in _ (by omega)
            go_wp2_with fail
            go_region_held3 (fun W => W.cell? ⟨b2, o2 + j, none⟩ = some (.int .i64 x) ∧ W.cell? ⟨b3, o3 + j, none⟩ = some (.int .i64 y))
              (first
                | go_keep
                | (go_split_ands
                   refine ⟨?_, ?_⟩
                   · (rw [hgrow.cell_far _ (by simp; omega) (Ne.symm hn2)]; assumption)
                   · (rw [hgrow.cell_far _ (by simp; omega) (Ne.symm hn3)]; assumption)))
              ((refine step_append_lies _ (by rfl) (.tmp 75) (.tmp 85) _ (by rfl) w3.heap.size 3 i0 _ 1 8 Tryd.underlying24 hi hz0 hz1 hz2 rfl (by omega) (.slice A8 acc.length c8) acc.length _ (by rfl) ((hown.alloc _).drew) ⟨wr.heap.size, 0, none⟩ 1 1 [.int .i64 (x + y)] (by rfl) (by rfl) (World.news_of_block (cs := #[.int .i64 (x + y)]) (t := 3) (fr := (0, 0)) (heap_alloc_new wr _)) (by simp [Value.oneCell']) (by omega) (by unfold maxLen; omega) (by omega) (by simp; omega) (wr.heap.size + 1) (by simp) ?_; intro g' cap w1' hown1 hgrow hat hlt1))
            have HO := Lib.hid hown1
            have HW := Lib.hid hgrow
            clear hown1 hgrow hat
            go_wp2_with fail
            go_roundg (gk - 1)
            case measure => omega
            case rel =>
              refine ⟨j + 1, acc ++ [x + y], by omega, by go_num, Lib.hid (by have := hac.out; simpa using this), Lib.hid (by rw [hsn.out, ← hae.out]), ?_, ?_⟩
              · simpa using HO.out
              · exact (hbel.alloc hbel.size _).drew.grown HW.out (by simp; omega) (fun k hk => by have := (hown.lt k hk).1; omega)
          · have hae' : acc = Vb.addL l g := by rw [hae.out]; exact List.take_of_length_le (by rw [addL_length HGL.out]; omega)
            have HP' := HP
            rw [← hae'] at HP'
            have hbD : Below w.heap.size w wr := hbC.trans (hbel.mono hbC.size)
            have hcf4 := hcf3.keep hbel
            obtain ⟨a0, a1, a2, a3, a4, a5, a6, a7⟩ := cfg_cells hcf4
            have hre := (RdI.of_own hown).1
            clear hae'
            go_wp2_with fail
            refine (Play_cap (by omega) _ hre).mono ?_
            rw [HP'.out]
            rintro e w5 ⟨A5, c5, hc5, rfl, hr5, hb5⟩
            have hbE := hbD.trans (hb5.mono hbD.size)
            have hcf5 := hcf4.keep hb5
            clear a0 a1 a2 a3 a4 a5 a6 a7
            go_wp2_with fail
            refine (first_true _ (HG.out.keep hbE)).mono ?_
            rintro e w6 ⟨rfl, hb6⟩
            have hbF := hbE.trans (hb6.mono hbE.size)
            have hr56 := hr5.keep hb6
            have hcf6 := hcf5.keep hb6
            obtain ⟨a0, a1, a2, a3, a4, a5, a6, a7⟩ := cfg_cells hcf6
            have hpeq : ((p.length : Int) == (l.length : Int)) = true := by rw [HPL.out]; simp
            go_wp2_with fail
            refine (Within_any hp9 _ hr56).mono ?_
            rw [HPW.out]
            rintro e w7 ⟨rfl, rfl⟩
            go_wp2_with fail
            go_ret
            exact ⟨rfl, hbF⟩
  · go_enter Tryd.func4, Tryd.ntmps4
    go_wp2_with fail
    refine (first_true _ (HG.out.keep hb0)).mono ?_
    rintro e w1 ⟨rfl, hb1⟩
    have hbA : Below w.heap.size w w1 := hb0.trans (hb1.mono hb0.size)
    go_wp2_with fail
    refine (first_true _ (HG.out.keep hbA)).mono ?_
    rintro e w2 ⟨rfl, hb2⟩
    go_wp2_with fail
    go_ret
    exact ⟨rfl, hbA.trans (hb2.mono hbA.size)⟩

end Go.Proofs.YthjcidpfiddeeaaDoor
