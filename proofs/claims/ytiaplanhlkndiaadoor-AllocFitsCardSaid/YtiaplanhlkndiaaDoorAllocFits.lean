/- The walk of kinlaw19.AllocFits: it returns true, whatever the input. -/
import Derived.Test.YtiaplanhlkndiaaDoorAllocBounds
import Derived.Test.YtiaplanhlkndiaaDoorChg
import Derived.RegionTactic
import Derived.BigRegion
namespace Go.Proofs.YtiaplanhlkndiaaDoor
open Go Go.RowKit Go.Extern.Stop Go.Stop Go.Extern

theorem addL_length {s g : List Int} (h : g.length = s.length) : (Vb.addL s g).length = s.length := by
  induction s generalizing g with
  | nil => cases g <;> simp [Vb.addL]
  | cons a r ih =>
    cases g with
    | nil => simp at h
    | cons b t => simp only [List.length_cons] at h; simp only [Vb.addL, List.length_cons]; rw [ih (by omega)]
theorem addL_get {s g : List Int} : ∀ (k : Nat) (hs : k < s.length) (hg : k < g.length) (hk : k < (Vb.addL s g).length), (Vb.addL s g)[k] = s[k] + g[k] := by
  induction s generalizing g with
  | nil => intro k hs; simp at hs
  | cons a r ih =>
    cases g with
    | nil => intro k _ hg; simp at hg
    | cons b t =>
      intro k hs hg hk
      cases k with
      | zero => simp [Vb.addL]
      | succ k =>
        simp only [Vb.addL, List.getElem_cons_succ]
        exact ih k (by simpa using hs) (by simpa using hg) _

/-- The first j sizes with what is filled, the others as they were. -/
def mixL (s g : List Int) (j : Nat) : List Int := (Vb.addL s g).take j ++ s.drop j
theorem mixL_zero (s g : List Int) : mixL s g 0 = s := by simp [mixL]
theorem mixL_all {s g : List Int} (h : g.length = s.length) : mixL s g s.length = Vb.addL s g := by
  simp [mixL, List.take_of_length_le (show (Vb.addL s g).length ≤ s.length by rw [addL_length h]; omega)]
theorem mixL_length {s g : List Int} (h : g.length = s.length) (j : Nat) : (mixL s g j).length = s.length := by
  simp [mixL, addL_length h]; omega
theorem mixL_at {s g : List Int} (h : g.length = s.length) (j k : Nat) (hj : j ≤ s.length) : (mixL s g j)[k]? = if k < j then (Vb.addL s g)[k]? else s[k]? := by
  have hl := addL_length h
  unfold mixL
  split
  · next hk => rw [List.getElem?_append_left (by simp; omega), List.getElem?_take, if_pos hk]
  · next hk => rw [List.getElem?_append_right (by simp; omega), List.getElem?_drop]; congr 1; simp [hl]; omega
theorem mixL_get {s g : List Int} (h : g.length = s.length) (j : Nat) (hj : j < s.length) : (mixL s g j)[j]? = some s[j] := by
  rw [mixL_at h j j (by omega), if_neg (by omega), List.getElem?_eq_getElem hj]
theorem mixL_succ {s g : List Int} (h : g.length = s.length) (j : Nat) (hj : j < s.length) (hg : j < g.length) : (mixL s g j).set j (s[j] + g[j]) = mixL s g (j + 1) := by
  have hl := addL_length h
  have hm := mixL_length h j
  apply List.ext_getElem?
  intro k
  rw [List.getElem?_set, mixL_at h (j + 1) k (by omega)]
  by_cases e : j = k
  · subst e
    rw [if_pos rfl, if_pos (by omega), if_pos (by omega), List.getElem?_eq_getElem (by omega), addL_get j hj hg]
  · rw [if_neg e, mixL_at h j k (by omega)]
    by_cases hk : k < j
    · rw [if_pos hk, if_pos (by omega)]
    · rw [if_neg hk, if_neg (by omega)]

theorem capsOf_fits {ra ro fi : Int} {l m s : List Int} (hm : m = capsOf ra ro fi l) (hr : 8 ≤ ra) (ho : 8 ≤ ro) (h1 : 8 ≤ fi) (h2 : fi ≤ ro) (hl : s.length = m.length)
    (hle : ∀ k (hk : k < s.length) (hc : k < m.length), s[k] ≤ m[k]) : ∃ g, Vb.fills ra ro 0 fi s = .ok g := by
  subst hm
  exact Vb.caps_fits hr ho h1 h2 (by rw [hl, capsOf_len]) (fun k hc hk => hle k hk hc)

theorem fills_le {ra ro fi : Int} {l g : List Int} (h : Vb.fills ra ro 0 fi l = .ok g) (hl : ∀ n ∈ l, 0 ≤ n) (h1 : fi ≤ ro) (h2 : 0 ≤ ra) (k : Nat) (hk : k < g.length) : 0 ≤ g[k] ∧ g[k] ≤ ra := by
  have hlen := Vb.fills_length h
  have h3 := (Vb.fills_get h k (by omega) hk).2
  have h4 := Vb.afterF_le (rate := ra) (l.take k) h1
  have h5 := hl l[k] (List.getElem_mem (by omega))
  omega

theorem within_wide {a b a' b' : Int} {l : List Int} (h : ∀ n ∈ l, a ≤ n ∧ n ≤ b) (h1 : a' ≤ a) (h2 : b ≤ b') : Vb.within a' b' l = true :=
  (Vb.within_iff _ _ _).2 fun n hn => by have := h n hn; omega

theorem snoc_le {acc m : List Int} {j : Nat} {y : Int} (hl : acc.length = j) (hj : j < m.length) (h : ∀ k (hk : k < acc.length) (hc : k < m.length), 8 ≤ acc[k] ∧ acc[k] ≤ m[k]) (h1 : 8 ≤ y) (h2 : y ≤ m[j]) :
    ∀ k (hk : k < (acc ++ [y]).length) (hc : k < m.length), 8 ≤ (acc ++ [y])[k] ∧ (acc ++ [y])[k] ≤ m[k] := by
  intro k hk hc
  by_cases hkl : k < acc.length
  · rw [List.getElem_append_left hkl]; exact h k hkl hc
  · have : k = j := by simp at hk; omega
    subst this
    rw [List.getElem_append_right (by omega)]
    simp [hl, h1, h2]

theorem Play_at {qn qx re cu go ra ro fi : Int} {A : Option Addr} {l : List Int} {c n : Nat} (hl : l.length ≤ 9223372036854775807) (w : World) (hn : n = l.length) (ha : RdI .i64 w A l) :
    Calls Tryd.prog 15 #[.agg #[.int .i64 qn, .int .i64 qx, .int .i64 re, .int .i64 cu, .int .i64 go, .int .i64 ra, .int .i64 ro, .int .i64 fi], .slice A n c] w (ResOutC w (bucketR (Vb.mayB qn qx re cu go ra ro fi) (Vb.sizesB l) (Vb.play ra ro 0 fi l))) := by
  subst hn; exact Play_cap hl w ha

set_option maxRecDepth 100000 in
set_option maxHeartbeats 2000000 in
theorem AllocFits_walk {qn qx re cu go ra ro fi : Int} {A B : Option Addr} {l q : List Int} {c d : Nat} (hl : l.length ≤ 9223372036854775807) (hq : q.length ≤ 9223372036854775807) (w : World) (hg : Gl w) (ha : RdI .i64 w A l) (hb : RdI .i64 w B q) :
    Calls Tryd.prog 6 #[.agg #[.int .i64 qn, .int .i64 qx, .int .i64 re, .int .i64 cu, .int .i64 go, .int .i64 ra, .int .i64 ro, .int .i64 fi], .slice A l.length c, .slice B q.length d] w
      fun e w' => e = .returned (.bool true) ∧ Below w.heap.size w w' := by
  obtain ⟨i0, hi, hz0, hz1, hz2⟩ := info_parts intInfo
  have HG := Lib.hid hg
  have HA := Lib.hid ha
  have HB := Lib.hid hb
  clear hg ha hb
  have hb0 : Below w.heap.size w (w.alloc (cfgC qn qx re cu go ra ro fi)) := (Below.refl _ _).alloc (Nat.le_refl _) _
  by_cases h5 : l.length ≤ 5000
  · go_enter Tryd.func6, Tryd.ntmps6
    go_wp2_with fail
    refine (first_true _ (HG.out.keep hb0)).mono ?_
    rintro e w1 ⟨rfl, hb1⟩
    have hbA : Below w.heap.size w w1 := hb0.trans (hb1.mono hb0.size)
    have hcf := (Blk.new w 23 #[.int .i64 qn, .int .i64 qx, .int .i64 re, .int .i64 cu, .int .i64 go, .int .i64 ra, .int .i64 ro, .int .i64 fi]).keep hb1
    clear hb1 hb0
    obtain ⟨a0, a1, a2, a3, a4, a5, a6, a7⟩ := cfg_cells hcf
    go_wp2_with fail
    cases hr : capsR (Vb.mayB qn qx re cu go ra ro fi) ra ro fi l with
    | error x =>
      obtain ⟨p, k⟩ := x
      obtain ⟨rfl, hk⟩ := capsR_err hr
      have HR := Lib.hid hr
      clear hr
      refine (Caps_any hl _ (HA.out.keep hbA)).mono ?_
      rw [HR.out]
      rintro e w3 ⟨v3, rfl, he3, hb3⟩
      obtain rfl : v3 = _ := he3
      have hbC : Below w.heap.size w w3 := hbA.trans (hb3.mono hbA.size)
      clear a0 a1 a2 a3 a4 a5 a6 a7
      go_wp2_with fail
      refine (first_true _ (HG.out.keep hbC)).mono ?_
      rintro e w4 ⟨rfl, hb4⟩
      go_wp2_with fail
      go_ret
      exact ⟨rfl, hbC.trans (hb4.mono hbC.size)⟩
    | ok m =>
      have hml := capsR_len hr
      obtain ⟨hmay, hwt, hme⟩ := capsR_ok hr
      obtain ⟨_, hl16, _⟩ := weightsB_of hwt
      obtain ⟨_, _, _, _, _, _, _, _, _, hm1, hm2, hm3, hm4, hm5⟩ := mayB_of hmay
      have HR := Lib.hid hr
      have hget := Lib.hid (fun k hk => capsOf_get hme hm1 (by omega) hm4 hm5 k hk)
      have HFIT := Lib.hid (fun s hs hle => capsOf_fits (s := s) hme hm1 (by omega) hm4 hm5 hs hle)
      have hm16 : m.length ≤ 16 := by omega
      have HMAY := Lib.hid hmay
      clear hr hmay hwt hme hml
      refine (Caps_any hl _ (HA.out.keep hbA)).mono ?_
      rw [HR.out]
      rintro e w3 ⟨A3, c3, rfl, hr3, hb3⟩
      have hbC : Below w.heap.size w w3 := hbA.trans (hb3.mono hbA.size)
      have hcf3 := hcf.keep hb3
      have HR3 := Lib.hid hr3
      clear a0 a1 a2 a3 a4 a5 a6 a7 hbA hb3 hr3
      go_wp2_with fail
      go_loopg [9, 10] m.length (fun k vs vi wr => ∃ (j : Nat) (acc : List Int), j + k = m.length ∧ vi = .int .i64 j ∧ Hid (acc.length = j) ∧ Hid (∀ k (hk : k < acc.length) (hc : k < m.length), 8 ≤ acc[k] ∧ acc[k] ≤ m[k]) ∧
        wr.ownsRow w3.heap.size 3 1 vs acc.length (acc.map (Value.int .i64)) ∧ Below w3.heap.size w3 wr)
      case atStart => exact ⟨0, [], by omega, rfl, rfl, fun k hk => by simp at hk, World.ownsRow_nil _ _ _ _, Below.refl _ _⟩
      case round =>
        obtain ⟨j, acc, hj, rfl, hac, hle, hown, hbel⟩ := hrel
        have hac16 : acc.length ≤ 16 := by have := hac.out; omega
        by_cases hlt : j < m.length
        · obtain ⟨b2, o2, rfl, k2⟩ := (HR3.out.keep hbel).at_ hlt
          have hlt' : (j : Int) < (m.length : Int) := by omega
          obtain ⟨hx0, hx1, hx3, _⟩ := hget.out j hlt
          obtain ⟨x, hx⟩ : ∃ x, m[j] = x := ⟨_, rfl⟩
          have HSN := Lib.hid (fun y h1 h2 => snoc_le (y := y) hac.out hlt hle.out h1 h2)
          rw [hx] at k2 hx0 hx1 HSN
          have hx4 : x ≤ 16384 := by omega
          clear hx hx1 hx3
          obtain ⟨A8, c8, rfl⟩ := own_slice hown
          have hwz := hown.lt
          have hsz := hbel.size
          have hb3z := hbC.size
          have hjq : ∀ (h : j < q.length), ∃ b3 o3, B = some ⟨b3, o3, none⟩ ∧ wr.cell? ⟨b3, o3 + j, none⟩ = some (.int .i64 q[j]) := fun h => (HB.out.keep (hbC.trans (hbel.mono hbC.size))).at_ h
          rcases (show (∃ h : j < q.length, 0 ≤ q[j]) ∨ (∃ h : j < q.length, q[j] < 0) ∨ ¬ j < q.length by
            by_cases h : j < q.length
            · by_cases h2 : 0 ≤ q[j]
              · exact .inl ⟨h, h2⟩
              · exact .inr (.inl ⟨h, by omega⟩)
            · exact .inr (.inr h)) with ⟨h6, h7⟩ | ⟨h6, h7⟩ | h6
          · obtain ⟨b3, o3, rfl, k3⟩ := hjq h6
            have h6' : (j : Int) < (q.length : Int) := by omega
            obtain ⟨y, hy⟩ : ∃ y, q[j] = y := ⟨_, rfl⟩
            rw [hy] at k3 h7
            have hy0 := Int.emod_nonneg y (show x - 7 ≠ 0 by omega)
            have hy1 := Int.emod_lt_of_pos y (show 0 < x - 7 by omega)
            obtain ⟨z, hz⟩ : ∃ z, y % (x - 7) = z := ⟨_, rfl⟩
            rw [hz] at hy0 hy1
            have HZ := Lib.hid hz
            clear hy hz hjq
            have hne7 : ((x - 7) == 0) = false := by rw [beq_eq_false_iff_ne]; omega
            have hw7 : IntKind.i64.wrap (x - 7) = x - 7 := IntWalk.i64_in _ (by omega)
            have hyt : y.tmod (x - 7) = z := by rw [← HZ.out, Int.tmod_eq_emod_of_nonneg h7]
            go_wp2_with fail
            go_quiet (fail)
            have hbq : Below w3.heap.size w3 (wr.drewN nq) := below_drewN hbel nq
            have hownq : (wr.drewN nq).ownsRow w3.heap.size 3 1 (.slice A8 acc.length c8) acc.length (acc.map (Value.int .i64)) := hown
            have hszq : wr.heap.size = (wr.drewN nq).heap.size := rfl
            rw [hszq] at hsz hwz
            clear hown hbel hszq hyt hw7 hne7 k2 k3 HZ
            generalize wr.drewN nq = wq at *
            go_wp2_with (at_builtin; refine wpList_append_lies _ rfl (.tmp 74) (.tmp 76) _ rfl w3.heap.size 3 i0 _ 1 8 Tryd.underlying24 hi hz0 hz1 hz2 rfl (by omega) (.slice A8 acc.length c8) acc.length _ rfl (hownq.alloc _) ⟨wq.heap.size, 0, none⟩ 1 1 [.int .i64 (8 + z)] rfl rfl (World.news_of_block (cs := #[.int .i64 (8 + z)]) (t := 3) (fr := (0, 0)) (heap_alloc_new wq _)) (by simp [Value.oneCell']) (by omega) (by unfold maxLen; omega) (by omega) (by simp; omega) _ rfl ?_; intro g cap w1' hown1 hgrow hat hlt1)
            have HO := Lib.hid hown1
            have HW := Lib.hid hgrow
            clear hown1 hgrow hat
            go_roundg (gk - 1)
            case measure => omega
            case rel =>
              refine ⟨j + 1, acc ++ [8 + z], by omega, by go_num, Lib.hid (by have := hac.out; simpa using this), Lib.hid (HSN.out (8 + z) (by omega) (by omega)), ?_, ?_⟩
              · simpa using HO.out
              · exact (hbq.alloc hbq.size _).grown HW.out (by simp; omega) (fun k hk => by have := (hownq.lt k hk).1; omega)
          · obtain ⟨b3, o3, rfl, k3⟩ := hjq h6
            have h6' : (j : Int) < (q.length : Int) := by omega
            clear hjq
            go_wp2_with (at_builtin; refine wpList_append_lies _ rfl (.tmp 74) (.tmp 76) _ rfl w3.heap.size 3 i0 _ 1 8 Tryd.underlying24 hi hz0 hz1 hz2 rfl (by omega) (.slice A8 acc.length c8) acc.length _ rfl (hown.alloc _) ⟨wr.heap.size, 0, none⟩ 1 1 [.int .i64 x] rfl rfl (World.news_of_block (cs := #[.int .i64 x]) (t := 3) (fr := (0, 0)) (heap_alloc_new wr _)) (by simp [Value.oneCell']) (by omega) (by unfold maxLen; omega) (by omega) (by simp; omega) _ rfl ?_; intro g cap w1' hown1 hgrow hat hlt1)
            have HO := Lib.hid hown1
            have HW := Lib.hid hgrow
            clear hown1 hgrow hat
            go_roundg (gk - 1)
            case measure => omega
            case rel =>
              refine ⟨j + 1, acc ++ [x], by omega, by go_num, Lib.hid (by have := hac.out; simpa using this), Lib.hid (HSN.out x hx0 (Int.le_refl _)), ?_, ?_⟩
              · simpa using HO.out
              · exact (hbel.alloc hbel.size _).grown HW.out (by simp; omega) (fun k hk => by have := (hown.lt k hk).1; omega)
          · have h6' : (q.length : Int) ≤ (j : Int) := by omega
            clear hjq
            go_wp2_with (at_builtin; refine wpList_append_lies _ rfl (.tmp 74) (.tmp 76) _ rfl w3.heap.size 3 i0 _ 1 8 Tryd.underlying24 hi hz0 hz1 hz2 rfl (by omega) (.slice A8 acc.length c8) acc.length _ rfl (hown.alloc _) ⟨wr.heap.size, 0, none⟩ 1 1 [.int .i64 x] rfl rfl (World.news_of_block (cs := #[.int .i64 x]) (t := 3) (fr := (0, 0)) (heap_alloc_new wr _)) (by simp [Value.oneCell']) (by omega) (by unfold maxLen; omega) (by omega) (by simp; omega) _ rfl ?_; intro g cap w1' hown1 hgrow hat hlt1)
            have HO := Lib.hid hown1
            have HW := Lib.hid hgrow
            clear hown1 hgrow hat
            go_roundg (gk - 1)
            case measure => omega
            case rel =>
              refine ⟨j + 1, acc ++ [x], by omega, by go_num, Lib.hid (by have := hac.out; simpa using this), Lib.hid (HSN.out x hx0 (Int.le_refl _)), ?_, ?_⟩
              · simpa using HO.out
              · exact (hbel.alloc hbel.size _).grown HW.out (by simp; omega) (fun k hk => by have := (hown.lt k hk).1; omega)
        · have hacl : acc.length = m.length := by have := hac.out; omega
          obtain ⟨g, hgf⟩ := HFIT.out acc hacl (fun k hk hc => (hle.out k hk hc).2)
          have hgl := Vb.fills_length hgf
          have hacc0 : ∀ n ∈ acc, 0 ≤ n ∧ n ≤ 16384 := fun n hn => by
            obtain ⟨k, hk, rfl⟩ := List.getElem_of_mem hn
            have h1 := hle.out k hk (by omega)
            have h2 := hget.out k (by omega)
            omega
          have hgb := fills_le hgf (fun n hn => (hacc0 n hn).1) hm5 (by omega)
          obtain ⟨p, hpf, hpl, hpb, _⟩ := Vb.play_of_fills hm2 (fun n hn => (hacc0 n hn).1) hm5 hgf
          have hadd : ∀ n ∈ Vb.addL acc g, 0 ≤ n ∧ n ≤ 1073741824 := fun n hn => by
            obtain ⟨k, hk, rfl⟩ := List.getElem_of_mem hn
            have hk2 : k < acc.length := by rw [addL_length hgl] at hk; exact hk
            rw [addL_get k hk2 (by omega)]
            have h1 := hacc0 _ (List.getElem_mem hk2)
            have h2 := hgb k (by omega)
            omega
          have HF := Lib.hid (show bucketR (Vb.mayB qn qx re cu go ra ro fi) (Vb.sizesB acc) (Vb.fills ra ro 0 fi acc) = .ok g by
            rw [HMAY.out, sizesB_yes (by omega) (fun n hn => by have := hacc0 n hn; omega), hgf]; rfl)
          have HP := Lib.hid (show bucketR (Vb.mayB qn qx re cu go ra ro fi) (Vb.sizesB (Vb.addL acc g)) (Vb.play ra ro 0 fi (Vb.addL acc g)) = .ok p by
            rw [HMAY.out, sizesB_yes (by rw [addL_length hgl]; omega) hadd, hpf]; rfl)
          have HW := Lib.hid (within_wide (a' := 0) (b' := ro) hpb (by omega) (Int.le_refl _))
          have HGB := Lib.hid hgb
          have HC0 := Lib.hid hacc0
          have HGL := Lib.hid hgl
          have HPL := Lib.hid hpl
          have hpl9 : p.length ≤ 9223372036854775807 := by omega
          obtain ⟨A8, c8, rfl⟩ := own_slice hown
          have hbD : Below w.heap.size w wr := hbC.trans (hbel.mono hbC.size)
          have hcf4 := hcf3.keep hbel
          obtain ⟨a0, a1, a2, a3, a4, a5, a6, a7⟩ := cfg_cells hcf4
          have hre := (RdI.of_own hown).1
          have HAL := Lib.hid hacl
          clear hgf hgl hacc0 hgb hpf hpl hpb hadd hacl
          go_wp2_with fail
          refine (Fills_cap (by omega) _ hre).mono ?_
          rw [HF.out]
          rintro e w4 ⟨A4, c4, hc4, rfl, hg4, hb4⟩
          have hbE := hbD.trans (hb4.mono hbD.size)
          have hown4 := own_keep hown hb4
          have hcf5 := hcf4.keep hb4
          have HG4 := Lib.hid hg4
          have hne : ((g.length : Int) != (acc.length : Int)) = false := by rw [HGL.out]; simp
          have hcb : w.heap.size < w3.heap.size := hcf3.lt
          have hsz4 := hb4.size
          have hszr := hbel.size
          have hfr := Lib.hid (show ∀ p, A4 = some p → ∀ i, (Value.slice A8 acc.length c8).ownBlock = some i → p.block ≠ i by
            intro p hp i hii
            have h1 := hc4.2 p hp
            have h2 := (hown.lt i hii).2
            omega)
          have hob := hown.lt
          have hm0 : (mixL acc g 0) = acc := mixL_zero _ _
          have hown4' : w4.ownsRow w3.heap.size 3 1 (.slice A8 acc.length c8) acc.length ((mixL acc g 0).map (Value.int .i64)) := by rw [hm0]; exact hown4
          have HO4 := Lib.hid hown4'
          clear a0 a1 a2 a3 a4 a5 a6 a7 hre hg4 hc4 hown hown4 hown4' hm0 hle
          go_wp2_with fail
          go_loopg [14] acc.length (fun k vi wx => ∃ (j : Nat), j + k = acc.length ∧ vi = .int .i64 j ∧ wx.ownsRow w3.heap.size 3 1 (.slice A8 acc.length c8) acc.length ((mixL acc g j).map (Value.int .i64)) ∧
            Chg (fun i => (Value.slice A8 acc.length c8).ownBlock = some i) w4 wx)
          case atStart => exact ⟨0, by omega, rfl, HO4.out, Chg.refl _ _⟩
          case round =>
            clear hlt hj
            obtain ⟨j, hj, rfl, hownx, hch⟩ := hrel
            have hgx := HG4.out.chg hch (fun p hp hS => hfr.out p hp _ hS rfl)
            by_cases hlt : j < acc.length
            · have hltg : j < g.length := by have := HGL.out; omega
              obtain ⟨gb, cb, hv, hgb0, hgb1, hgb2, hcell, hfroz⟩ := own_form hownx (by omega)
              obtain ⟨rfl, rfl⟩ : A8 = some ⟨gb, 0, none⟩ ∧ c8 = cb := by injection hv with h1 h2 h3; exact ⟨h1, h3⟩
              have hcj := hcell j (.int .i64 acc[j]) (by rw [List.getElem?_map, mixL_get HGL.out j hlt]; rfl)
              have hfj := hfroz j
              obtain ⟨b3, o3, rfl, k3⟩ := hgx.at_ hltg
              have hst := Lib.hid (own_store hownx j (.int .i64 (acc[j] + g[j])))
              have hms := Lib.hid (mixL_succ HGL.out j hlt hltg)
              obtain ⟨hx0, hx1⟩ := HC0.out acc[j] (List.getElem_mem hlt)
              obtain ⟨hy0, hy1⟩ := HGB.out j hltg
              have hneb := hfr.out _ rfl gb rfl
              obtain ⟨x, hx⟩ : ∃ x, acc[j] = x := ⟨_, rfl⟩
              obtain ⟨y, hy⟩ : ∃ y, g[j] = y := ⟨_, rfl⟩
              rw [hx] at hcj hx0 hx1
              rw [hx, hy] at hst hms
              rw [hy] at k3 hy0 hy1
              have hlt' : (j : Int) < (acc.length : Int) := by omega
              have hltg' : (j : Int) < (g.length : Int) := by omega
              have hwxy : IntKind.i64.wrap (x + y) = x + y := IntWalk.i64_in _ (by omega)
              clear hx hy hcell hfroz hv hgx
              go_wp2_with fail
              go_region
              all_goals (
                go_wp2_with fail
                go_roundg (gk - 1)
                case measure => omega
                case rel =>
                  refine ⟨j + 1, by omega, by go_num, ?_, ?_⟩
                  · have h := hst.out
                    rw [← List.map_set, hms.out] at h
                    exact h
                  · exact (hch.setCell (p := ⟨gb, j, none⟩) (fun _ => rfl) _).drew)
            · have hj' : j = acc.length := by omega
              subst hj'
              have hall := mixL_all HGL.out
              rw [hall] at hownx
              have hbF : Below w.heap.size w wr := below_chg hbE hch hbE.size (fun i hi => by have := hob i hi; omega)
              have hcf6 := hcf5.chg hch (fun hS => by have := hob _ hS; omega)
              obtain ⟨a0, a1, a2, a3, a4, a5, a6, a7⟩ := cfg_cells hcf6
              obtain ⟨s, hs⟩ : ∃ s, Vb.addL acc g = s := ⟨_, rfl⟩
              have hsl : acc.length = s.length := by rw [← hs, addL_length HGL.out]
              have HP' := HP
              rw [hs] at hownx HP'
              have hre := (RdI.of_own hownx).1
              have hs16 : s.length ≤ 9223372036854775807 := by omega
              have HSL := Lib.hid hsl
              clear hall hs hsl hgx hownx
              go_wp2_with fail
              refine (Play_at hs16 _ HSL.out hre).mono ?_
              rw [HP'.out]
              rintro e w6 ⟨A6, c6, hc6, rfl, hr6, hb6⟩
              have hbG := hbF.trans (hb6.mono hbF.size)
              clear a0 a1 a2 a3 a4 a5 a6 a7 hre
              have hcf7 := hcf6.keep hb6
              go_wp2_with fail
              refine (first_true _ (HG.out.keep hbG)).mono ?_
              rintro e w7 ⟨rfl, hb7⟩
              have hbH := hbG.trans (hb7.mono hbG.size)
              have hr67 := hr6.keep hb7
              obtain ⟨a0, a1, a2, a3, a4, a5, a6, a7⟩ := cfg_cells (hcf7.keep hb7)
              go_wp2_with fail
              refine (Within_any hpl9 _ hr67).mono ?_
              rw [HW.out]
              rintro e w8 ⟨rfl, rfl⟩
              go_wp2_with fail
              go_ret
              exact ⟨rfl, hbH⟩
  · go_enter Tryd.func6, Tryd.ntmps6
    go_wp2_with fail
    refine (first_true _ (HG.out.keep hb0)).mono ?_
    rintro e w1 ⟨rfl, hb1⟩
    have hbA : Below w.heap.size w w1 := hb0.trans (hb1.mono hb0.size)
    go_wp2_with fail
    refine (first_true _ (HG.out.keep hbA)).mono ?_
    rintro e w2 ⟨rfl, hb2⟩
    go_wp2_with fail
    go_ret
    exact ⟨rfl, hbA.trans (hb2.mono hbA.size)⟩

end Go.Proofs.YtiaplanhlkndiaaDoor
