/- The walk of kinlaw18.VbvLess: it returns true, whatever the input. -/
import Derived.Test.YthjcidpfiddeeaaDoorVbvCuts
import Derived.Test.YthjcidpfiddeeaaDoorChg
import Derived.BigQuiet
namespace Go.Proofs.YthjcidpfiddeeaaDoor
open Go Go.RowKit Go.Extern.Stop Go.Stop Go.Extern

/-- Each of these is at most that one's, and not below nought where that one is not. -/
def Lesser (l s : List Int) : Prop := ∀ k (hs : k < s.length) (hl : k < l.length), s[k] ≤ l[k] ∧ (s[k] = l[k] ∨ 0 ≤ s[k])
theorem Lesser.snoc {l s : List Int} {j : Nat} {y : Int} (h : Lesser l s) (hj : s.length = j) (hl : j < l.length) (h1 : y ≤ l[j]) (h2 : y = l[j] ∨ 0 ≤ y) : Lesser l (s ++ [y]) := by
  intro k hs hk
  by_cases hkl : k < s.length
  · rw [List.getElem_append_left hkl]; exact h k hkl hk
  · have : k = j := by simp at hs; omega
    subst this
    rw [List.getElem_append_right (by omega)]
    simp [hj]; exact ⟨h1, h2⟩

/-- What the two lists' fills are. -/
structure Pair (qn qx re cu go ra ro fi : Int) (l s g : List Int) : Prop where
  glen : g.length = l.length
  rates : 8 ≤ ra ∧ ra ≤ ro ∧ ro ≤ 16384 ∧ 8 ≤ fi ∧ fi ≤ ro
  step : ∀ k (hk : k < l.length) (hg : k < g.length), 0 ≤ l[k] ∧ l[k] ≤ Vb.afterF ra ro fi (l.take k) ∧ Vb.afterF ra ro fi (l.take k) ≤ ro ∧ 0 ≤ g[k] ∧ g[k] ≤ 16384 ∧ Vb.afterF ra ro fi (l.take (k + 1)) = Vb.afterF ra ro fi (l.take k) - l[k] - g[k] + ra
  goes : ∃ h, h.length = s.length ∧ bucketR (Vb.mayB qn qx re cu go ra ro fi) (Vb.sizesB s) (Vb.fills ra ro 0 fi s) = .ok h ∧
    ∀ k (hk : k < s.length) (hh : k < h.length), 0 ≤ s[k] ∧ s[k] ≤ Vb.afterF ra ro fi (s.take k) ∧ Vb.afterF ra ro fi (l.take k) ≤ Vb.afterF ra ro fi (s.take k) ∧ Vb.afterF ra ro fi (s.take k) ≤ ro ∧ 0 ≤ h[k] ∧ h[k] ≤ 16384 ∧ Vb.afterF ra ro fi (s.take (k + 1)) = Vb.afterF ra ro fi (s.take k) - s[k] - h[k] + ra

theorem step_of {ra ro fi : Int} {l g : List Int} (h3 : Vb.fills ra ro 0 fi l = .ok g) (h0 : ∀ n ∈ l, 0 ≤ n) (h1 : fi ≤ ro) (h2 : 8 ≤ ra) (h4 : ra ≤ 16384) (k : Nat) (hk : k < l.length) (hg : k < g.length) :
    0 ≤ l[k] ∧ l[k] ≤ Vb.afterF ra ro fi (l.take k) ∧ Vb.afterF ra ro fi (l.take k) ≤ ro ∧ 0 ≤ g[k] ∧ g[k] ≤ 16384 ∧ Vb.afterF ra ro fi (l.take (k + 1)) = Vb.afterF ra ro fi (l.take k) - l[k] - g[k] + ra := by
  have a := Vb.fills_get h3 k hk hg
  have b := Vb.afterF_le (rate := ra) (l.take k) h1
  have c := h0 _ (List.getElem_mem hk)
  have d := Vb.afterF_snoc ra ro l[k] (l.take k) fi
  rw [← Vb.take_snoc l k hk] at d
  omega

theorem pair_of {qn qx re cu go ra ro fi : Int} {l s g : List Int} (h : bucketR (Vb.mayB qn qx re cu go ra ro fi) (Vb.sizesB l) (Vb.fills ra ro 0 fi l) = .ok g) (hl : s.length = l.length) (hs : Lesser l s) : Pair qn qx re cu go ra ro fi l s g := by
  obtain ⟨h1, h2, h3⟩ := bucketR_of_ok h
  obtain ⟨_, _, _, _, _, _, _, _, _, m1, m2, m3, m4, m5⟩ := mayB_of h1
  obtain ⟨s1, s2⟩ := sizesB_of h2
  have s0 : ∀ n ∈ s, 0 ≤ n ∧ n ≤ 1073741824 := fun n hn => by
    obtain ⟨k, hk, rfl⟩ := List.getElem_of_mem hn
    have a := hs k hk (by omega)
    have b := s2 l[k] (List.getElem_mem (by omega))
    omega
  obtain ⟨⟨h', hh'⟩, hless⟩ := Vb.fills_less hl (fun k hk hm => (hs k hm hk).1) h3
  have hlen := Vb.fills_length hh'
  refine ⟨Vb.fills_length h3, ⟨m1, m2, m3, m4, m5⟩, step_of h3 (fun n hn => (s2 n hn).1) m5 m1 (by omega), h', hlen, ?_, fun k hk hg => ?_⟩
  · rw [h1, sizesB_yes (by omega) s0, hh']; rfl
  · have a := step_of hh' (fun n hn => (s0 n hn).1) m5 m1 (by omega) k hk hg
    have b := hless k hk
    exact ⟨a.1, a.2.1, b.1, a.2.2⟩

set_option maxRecDepth 100000 in
set_option maxHeartbeats 4000000 in
theorem VbvLess_walk {qn qx re cu go ra ro fi : Int} {A B : Option Addr} {l q : List Int} {c d : Nat} (hl : l.length ≤ 9223372036854775807) (hq : q.length ≤ 9223372036854775807) (w : World) (hg : Gl w) (ha : RdI .i64 w A l) (hb : RdI .i64 w B q) :
    Calls Tryd.prog 5 #[.agg #[.int .i64 qn, .int .i64 qx, .int .i64 re, .int .i64 cu, .int .i64 go, .int .i64 ra, .int .i64 ro, .int .i64 fi], .slice A l.length c, .slice B q.length d] w
      fun e w' => e = .returned (.bool true) ∧ Below w.heap.size w w' := by
  obtain ⟨i0, hi, hz0, hz1, hz2⟩ := info_parts intInfo
  have HG := Lib.hid hg
  have HA := Lib.hid ha
  have HB := Lib.hid hb
  clear hg ha hb
  have hb0 : Below w.heap.size w (w.alloc (cfgC qn qx re cu go ra ro fi)) := (Below.refl _ _).alloc (Nat.le_refl _) _
  rcases (show (l.length ≤ 5000 ∧ q.length ≤ 5000) ∨ 5000 < l.length ∨ (l.length ≤ 5000 ∧ 5000 < q.length) by omega) with ⟨h5, h6⟩ | h5 | ⟨h5, h6⟩
  rotate_left 1
  iterate 2
    · go_enter Tryd.func5, Tryd.ntmps5
      go_wp2_with fail
      refine (first_true _ (HG.out.keep hb0)).mono ?_
      rintro e w1 ⟨rfl, hb1⟩
      have hbA : Below w.heap.size w w1 := hb0.trans (hb1.mono hb0.size)
      go_wp2_with fail
      refine (first_true _ (HG.out.keep hbA)).mono ?_
      rintro e w2 ⟨rfl, hb2⟩
      go_wp2_with fail
      go_ret
      exact ⟨rfl, hbA.trans (hb2.mono hbA.size)⟩
  · go_enter Tryd.func5, Tryd.ntmps5
    go_wp2_with fail
    refine (first_true _ (HG.out.keep hb0)).mono ?_
    rintro e w1 ⟨rfl, hb1⟩
    have hbA : Below w.heap.size w w1 := hb0.trans (hb1.mono hb0.size)
    have hcf := (Blk.new w 23 #[.int .i64 qn, .int .i64 qx, .int .i64 re, .int .i64 cu, .int .i64 go, .int .i64 ra, .int .i64 ro, .int .i64 fi]).keep hb1
    have hcw := hcf.lt
    clear hb1 hb0
    go_wp2_with fail
    go_loopg [7, 8] l.length (fun k vs vi wr => ∃ (j : Nat) (acc : List Int), j + k = l.length ∧ vi = .int .i64 j ∧ Hid (acc.length = j) ∧ Hid (Lesser l acc) ∧ wr.ownsRow w1.heap.size 3 1 vs acc.length (acc.map (Value.int .i64)) ∧ Below w1.heap.size w1 wr)
    case atStart => exact ⟨0, [], by omega, rfl, rfl, fun k hk => by simp at hk, World.ownsRow_nil _ _ _ _, Below.refl _ _⟩
    case round =>
      obtain ⟨j, acc, hj, rfl, hac, hle, hown, hbel⟩ := hrel
      have hac5 : acc.length ≤ 5000 := by have := hac.out; omega
      obtain ⟨A8, c8, rfl⟩ := own_slice hown
      have hwz := hown.lt
      have hsz := hbel.size
      have hs1 := hbA.size
      have hbR := hbA.trans (hbel.mono hbA.size)
      by_cases hlt : j < l.length
      · obtain ⟨b2, o2, rfl, k2⟩ := (HA.out.keep hbR).at_ hlt
        have hlt' : (j : Int) < (l.length : Int) := by omega
        have HSN := Lib.hid (fun y h1 h2 => hle.out.snoc (y := y) hac.out hlt h1 h2)
        obtain ⟨x, hx⟩ : ∃ x, l[j] = x := ⟨_, rfl⟩
        rw [hx] at k2 HSN
        clear hx
        have hjq : ∀ (h : j < q.length), ∃ b3 o3, B = some ⟨b3, o3, none⟩ ∧ wr.cell? ⟨b3, o3 + j, none⟩ = some (.int .i64 q[j]) := fun h => (HB.out.keep hbR).at_ h
        rcases (show (∃ h : j < q.length, 0 ≤ q[j] ∧ q[j] < x) ∨ (∃ h : j < q.length, q[j] < 0) ∨ (∃ h : j < q.length, 0 ≤ q[j] ∧ x ≤ q[j]) ∨ ¬ j < q.length by
          by_cases h : j < q.length
          · by_cases h2 : 0 ≤ q[j]
            · by_cases h3 : q[j] < x
              · exact .inl ⟨h, h2, h3⟩
              · exact .inr (.inr (.inl ⟨h, h2, by omega⟩))
            · exact .inr (.inl ⟨h, by omega⟩)
          · exact .inr (.inr (.inr h))) with ⟨h7, h8, h9⟩ | ⟨h7, h8⟩ | ⟨h7, h8, h9⟩ | h7
        · obtain ⟨b3, o3, rfl, k3⟩ := hjq h7
          have h7' : (j : Int) < (q.length : Int) := by omega
          obtain ⟨y, hy⟩ : ∃ y, q[j] = y := ⟨_, rfl⟩
          rw [hy] at k3 h8 h9
          clear hy hjq
          go_wp2_with (at_builtin; refine wpList_append_lies _ rfl (.tmp 61) (.tmp 63) _ rfl w1.heap.size 3 i0 _ 1 8 Tryd.underlying24 hi hz0 hz1 hz2 rfl (by omega) (.slice A8 acc.length c8) acc.length _ rfl (hown.alloc _) ⟨wr.heap.size, 0, none⟩ 1 1 [.int .i64 y] rfl rfl (World.news_of_block (cs := #[.int .i64 y]) (t := 3) (fr := (0, 0)) (heap_alloc_new wr _)) (by simp [Value.oneCell']) (by omega) (by unfold maxLen; omega) (by omega) (by simp; omega) _ rfl ?_; intro g cap w1' hown1 hgrow hat hlt1)
          have HO := Lib.hid hown1
          have HW := Lib.hid hgrow
          clear hown1 hgrow hat
          go_roundg (gk - 1)
          case measure => omega
          case rel =>
            refine ⟨j + 1, acc ++ [y], by omega, by go_num, Lib.hid (by have := hac.out; simpa using this), Lib.hid (HSN.out y (by omega) (by omega)), ?_, ?_⟩
            · simpa using HO.out
            · exact (hbel.alloc hbel.size _).grown HW.out (by simp; omega) (fun k hk => by have := (hown.lt k hk).1; omega)
        · obtain ⟨b3, o3, rfl, k3⟩ := hjq h7
          have h7' : (j : Int) < (q.length : Int) := by omega
          obtain ⟨y, hy⟩ : ∃ y, q[j] = y := ⟨_, rfl⟩
          rw [hy] at k3 h8
          clear hy hjq
          go_wp2_with (at_builtin; refine wpList_append_lies _ rfl (.tmp 61) (.tmp 63) _ rfl w1.heap.size 3 i0 _ 1 8 Tryd.underlying24 hi hz0 hz1 hz2 rfl (by omega) (.slice A8 acc.length c8) acc.length _ rfl (hown.alloc _) ⟨wr.heap.size, 0, none⟩ 1 1 [.int .i64 x] rfl rfl (World.news_of_block (cs := #[.int .i64 x]) (t := 3) (fr := (0, 0)) (heap_alloc_new wr _)) (by simp [Value.oneCell']) (by omega) (by unfold maxLen; omega) (by omega) (by simp; omega) _ rfl ?_; intro g cap w1' hown1 hgrow hat hlt1)
          have HO := Lib.hid hown1
          have HW := Lib.hid hgrow
          clear hown1 hgrow hat
          go_roundg (gk - 1)
          case measure => omega
          case rel =>
            refine ⟨j + 1, acc ++ [x], by omega, by go_num, Lib.hid (by have := hac.out; simpa using this), Lib.hid (HSN.out x (by omega) (by omega)), ?_, ?_⟩
            · simpa using HO.out
            · exact (hbel.alloc hbel.size _).grown HW.out (by simp; omega) (fun k hk => by have := (hown.lt k hk).1; omega)
        · obtain ⟨b3, o3, rfl, k3⟩ := hjq h7
          have h7' : (j : Int) < (q.length : Int) := by omega
          obtain ⟨y, hy⟩ : ∃ y, q[j] = y := ⟨_, rfl⟩
          rw [hy] at k3 h8 h9
          clear hy hjq
          go_wp2_with (at_builtin; refine wpList_append_lies _ rfl (.tmp 61) (.tmp 63) _ rfl w1.heap.size 3 i0 _ 1 8 Tryd.underlying24 hi hz0 hz1 hz2 rfl (by omega) (.slice A8 acc.length c8) acc.length _ rfl (hown.alloc _) ⟨wr.heap.size, 0, none⟩ 1 1 [.int .i64 x] rfl rfl (World.news_of_block (cs := #[.int .i64 x]) (t := 3) (fr := (0, 0)) (heap_alloc_new wr _)) (by simp [Value.oneCell']) (by omega) (by unfold maxLen; omega) (by omega) (by simp; omega) _ rfl ?_; intro g cap w1' hown1 hgrow hat hlt1)
          have HO := Lib.hid hown1
          have HW := Lib.hid hgrow
          clear hown1 hgrow hat
          go_roundg (gk - 1)
          case measure => omega
          case rel =>
            refine ⟨j + 1, acc ++ [x], by omega, by go_num, Lib.hid (by have := hac.out; simpa using this), Lib.hid (HSN.out x (by omega) (by omega)), ?_, ?_⟩
            · simpa using HO.out
            · exact (hbel.alloc hbel.size _).grown HW.out (by simp; omega) (fun k hk => by have := (hown.lt k hk).1; omega)
        · have h7' : (q.length : Int) ≤ (j : Int) := by omega
          clear hjq
          go_wp2_with (at_builtin; refine wpList_append_lies _ rfl (.tmp 61) (.tmp 63) _ rfl w1.heap.size 3 i0 _ 1 8 Tryd.underlying24 hi hz0 hz1 hz2 rfl (by omega) (.slice A8 acc.length c8) acc.length _ rfl (hown.alloc _) ⟨wr.heap.size, 0, none⟩ 1 1 [.int .i64 x] rfl rfl (World.news_of_block (cs := #[.int .i64 x]) (t := 3) (fr := (0, 0)) (heap_alloc_new wr _)) (by simp [Value.oneCell']) (by omega) (by unfold maxLen; omega) (by omega) (by simp; omega) _ rfl ?_; intro g cap w1' hown1 hgrow hat hlt1)
          have HO := Lib.hid hown1
          have HW := Lib.hid hgrow
          clear hown1 hgrow hat
          go_roundg (gk - 1)
          case measure => omega
          case rel =>
            refine ⟨j + 1, acc ++ [x], by omega, by go_num, Lib.hid (by have := hac.out; simpa using this), Lib.hid (HSN.out x (by omega) (by omega)), ?_, ?_⟩
            · simpa using HO.out
            · exact (hbel.alloc hbel.size _).grown HW.out (by simp; omega) (fun k hk => by have := (hown.lt k hk).1; omega)
      · have hacl : acc.length = l.length := by have := hac.out; omega
        have hcf4 := hcf.keep hbel
        obtain ⟨a0, a1, a2, a3, a4, a5, a6, a7⟩ := cfg_cells hcf4
        have HRE := Lib.hid (RdI.of_own hown).1
        have HAL := Lib.hid hacl
        cases hr : bucketR (Vb.mayB qn qx re cu go ra ro fi) (Vb.sizesB l) (Vb.fills ra ro 0 fi l) with
        | error x =>
          obtain ⟨pp, kk⟩ := x
          have HR := Lib.hid hr
          clear hr hacl hown
          go_wp2_with fail
          refine (Fills_cap hl _ (HA.out.keep hbR)).mono ?_
          rw [HR.out]
          rintro e w3 ⟨v3, rfl, he3, hb3⟩
          obtain ⟨T3, x3, rfl⟩ := he3.iface
          have hbC := hbR.trans (hb3.mono hbR.size)
          have HRE3 := Lib.hid (HRE.out.keep hb3)
          clear a0 a1 a2 a3 a4 a5 a6 a7 he3
          obtain ⟨a0, a1, a2, a3, a4, a5, a6, a7⟩ := cfg_cells (hcf4.keep hb3)
          go_wp2_with fail
          refine (Fills_cap (by omega) _ HRE3.out).mono ?_
          intro e w4 h4
          obtain ⟨A4, n4, c4, v4, rfl, hb4⟩ := h4.some
          have hbD := hbC.trans (hb4.mono hbC.size)
          clear h4 a0 a1 a2 a3 a4 a5 a6 a7
          go_wp2_with fail
          refine (first_true _ (HG.out.keep hbD)).mono ?_
          rintro e w5 ⟨rfl, hb5⟩
          go_wp2_with fail
          go_ret
          exact ⟨rfl, hbD.trans (hb5.mono hbD.size)⟩
        | ok g =>
          have hpair := pair_of hr hacl hle.out
          obtain ⟨h, hhl, hh, hst⟩ := hpair.goes
          obtain ⟨hm1, hm2, hm3, hm4, hm5⟩ := hpair.rates
          have HR := Lib.hid hr
          have HH := Lib.hid hh
          have HST := Lib.hid hst
          have HSL := Lib.hid hpair.step
          have HGL := Lib.hid hpair.glen
          have HHL := Lib.hid hhl
          have hgne : ((g.length : Int) != (l.length : Int)) = false := by rw [hpair.glen]; simp
          have hhne : ((h.length : Int) != (l.length : Int)) = false := by rw [hhl, hacl]; simp
          have HOW := Lib.hid hown
          clear hr hh hst hpair hhl hacl hown
          go_wp2_with fail
          refine (Fills_cap hl _ (HA.out.keep hbR)).mono ?_
          rw [HR.out]
          rintro e w3 ⟨A3, c3, hc3, rfl, hr3, hb3⟩
          have hbC := hbR.trans (hb3.mono hbR.size)
          have HRE3 := Lib.hid (HRE.out.keep hb3)
          have HR3 := Lib.hid hr3
          have hcf5 := hcf4.keep hb3
          clear a0 a1 a2 a3 a4 a5 a6 a7 hc3 hr3
          obtain ⟨a0, a1, a2, a3, a4, a5, a6, a7⟩ := cfg_cells hcf5
          go_wp2_with fail
          refine (Fills_cap (by omega) _ HRE3.out).mono ?_
          rw [HH.out]
          rintro e w4 ⟨A4, c4, hc4, rfl, hr4, hb4⟩
          have hbD := hbC.trans (hb4.mono hbC.size)
          have HRE4 := Lib.hid (HRE3.out.keep hb4)
          have HR34 := Lib.hid (HR3.out.keep hb4)
          have HR4 := Lib.hid hr4
          have hcf6 := hcf5.keep hb4
          clear a0 a1 a2 a3 a4 a5 a6 a7 hc4 hr4
          obtain ⟨a0, a1, a2, a3, a4, a5, a6, a7⟩ := cfg_cells hcf6
          go_wp2_with fail
          go_quiet (fail)
          have hbE := below_drewN hbD nq
          have HA4 : Hid (RdI .i64 (w4.drewN nq) A l) := HA.out.keep hbE
          have HG4 : Hid (RdI .i64 (w4.drewN nq) A3 g) := HR34.out
          have HS4 : Hid (RdI .i64 (w4.drewN nq) A8 acc) := HRE4.out
          have HH4 : Hid (RdI .i64 (w4.drewN nq) A4 h) := HR4.out
          have hcf7 : Hid (Blk (w4.drewN nq) w.heap.size 23 #[.int .i64 qn, .int .i64 qx, .int .i64 re, .int .i64 cu, .int .i64 go, .int .i64 ra, .int .i64 ro, .int .i64 fi]) := hcf6
          clear a0 a1 a2 a3 a4 a5 a6 a7 hcf6 hcf5 hcf4
          generalize w4.drewN nq = w7 at *
          go_wp2_with fail
          go_loopg [14, 15, 16] l.length (fun k va vb vi wx => ∃ (i n : Nat) (a b : Int), i + k = l.length ∧ vi = .int .i64 i ∧ va = .int .i64 a ∧ vb = .int .i64 b ∧ a ≤ b ∧ b ≤ ro ∧ 0 ≤ a ∧ Hid (a = Vb.afterF ra ro fi (l.take i)) ∧ Hid (b = Vb.afterF ra ro fi (acc.take i)) ∧ wx = w7.drewN n)
          case atStart => exact ⟨0, 0, fi, fi, by omega, rfl, rfl, rfl, by omega, by omega, by omega, rfl, rfl, rfl⟩
          case round =>
            clear hj hlt
            obtain ⟨i, n, a, b, hi', rfl, rfl, rfl, hab, hbro, ha0, hA, hB, rfl⟩ := hrel
            obtain ⟨a0, a1, a2, a3, a4, a5, a6, a7⟩ := cfg_cells hcf7.out
            clear a0 a1 a2 a3 a4 a6 a7
            by_cases hlt : i < l.length
            · have hls : i < acc.length := by have := HAL.out; omega
              have hlg : i < g.length := by have := HGL.out; omega
              have hlh : i < h.length := by have := HHL.out; omega
              obtain ⟨b2, o2, rfl, k2⟩ := HA4.out.at_ hlt
              obtain ⟨b3, o3, rfl, k3⟩ := HG4.out.at_ hlg
              obtain ⟨b4, o4, rfl, k4⟩ := HS4.out.at_ hls
              obtain ⟨b5, o5, rfl, k5⟩ := HH4.out.at_ hlh
              have hlt' : (i : Int) < (l.length : Int) := by omega
              have hls' : (i : Int) < (acc.length : Int) := by omega
              have hlg' : (i : Int) < (g.length : Int) := by omega
              have hlh' : (i : Int) < (h.length : Int) := by omega
              obtain ⟨s0, s1, s2, s3, s4, s5⟩ := HSL.out i hlt hlg
              obtain ⟨t0, t1, _, t2, t3, t4, t5⟩ := HST.out i hls hlh
              rw [← hA.out] at s1 s2 s5
              rw [← hB.out] at t1 t2 t5
              have hnext : Vb.afterF ra ro fi (l.take (i + 1)) ≤ Vb.afterF ra ro fi (acc.take (i + 1)) ∧ Vb.afterF ra ro fi (acc.take (i + 1)) ≤ ro := by
                by_cases hn : i + 1 < l.length
                · have := HST.out (i + 1) (by have := HAL.out; omega) (by have := HHL.out; have := HAL.out; omega)
                  exact ⟨this.2.2.1, this.2.2.2.1⟩
                · have e1 : l.take (i + 1) = l := List.take_of_length_le (by omega)
                  have e2 : acc.take (i + 1) = acc := List.take_of_length_le (by have := HAL.out; omega)
                  rw [e1, e2]
                  exact ⟨Vb.afterF_mono HAL.out (Int.le_refl _) (fun k hk hm => (hle.out k hm hk).1), Vb.afterF_le acc hm5⟩
              have HS5 := Lib.hid s5
              have HT5 := Lib.hid t5
              rw [s5, t5] at hnext
              obtain ⟨x, hx⟩ : ∃ x, l[i] = x := ⟨_, rfl⟩
              obtain ⟨y, hy⟩ : ∃ y, g[i] = y := ⟨_, rfl⟩
              obtain ⟨u, hu⟩ : ∃ u, acc[i] = u := ⟨_, rfl⟩
              obtain ⟨v, hv⟩ : ∃ v, h[i] = v := ⟨_, rfl⟩
              rw [hx] at k2 s0 s1 HS5 hnext
              rw [hy] at k3 s3 s4 HS5 hnext
              rw [hu] at k4 t0 t1 HT5 hnext
              rw [hv] at k5 t3 t4 HT5 hnext
              obtain ⟨hnx, hny⟩ := hnext
              have hna : 0 ≤ a - x - y + ra := by
                have e := HS5.out
                have := Vb.afterF_snoc ra ro l[i] (l.take i) fi
                rw [← Vb.take_snoc l i hlt, ← hA.out, hx] at this
                omega
              clear hx hy hu hv s5 t5
              go_wp2_with fail
              go_quiet (fail)
              have k4' : (w7.drewN (n + nq)).cell? ⟨b4, o4 + i, none⟩ = some (.int .i64 u) := k4
              have k5' : (w7.drewN (n + nq)).cell? ⟨b5, o5 + i, none⟩ = some (.int .i64 v) := k5
              go_wp2_with fail
              go_quiet (fail)
              go_wp2_with fail
              go_roundg (gk - 1)
              case measure => omega
              case rel => exact ⟨i + 1, _, a - x - y + ra, b - u - v + ra, by omega, by go_num, rfl, rfl, hnx, hny, hna, Lib.hid HS5.out.symm, Lib.hid HT5.out.symm, rfl⟩
            · go_wp2_with fail
              refine (first_true _ (HG.out.keep (below_drewN hbE n))).mono ?_
              rintro e w8 ⟨rfl, hb8⟩
              go_wp2_with fail
              go_ret
              exact ⟨rfl, (below_drewN hbE n).trans (hb8.mono (below_drewN hbE n).size)⟩

end Go.Proofs.YthjcidpfiddeeaaDoor
