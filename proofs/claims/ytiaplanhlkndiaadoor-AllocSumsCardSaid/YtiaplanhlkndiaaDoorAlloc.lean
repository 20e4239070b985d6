/- The contract of alloc.Caps. -/
import Derived.Test.YtiaplanhlkndiaaDoorVbv
import Derived.BigRegion
namespace Go.Proofs.YtiaplanhlkndiaaDoor
open Go Go.RowKit Go.Extern.Stop Go.Stop Go.Extern

/-- May these be the weights? -/
def weightsB (l : List Int) : Bool := decide (1 ≤ l.length) && decide (l.length ≤ 16) && Vb.within 1 16777216 l
def capsOf (ra ro fi : Int) (l : List Int) : List Int := Vb.caps (fi + ((l.length : Int) - 1) * ra) (Vb.sumL l) ra ro fi l
def capsR (may : Bool) (ra ro fi : Int) (l : List Int) : Except Er (List Int) :=
  if may then if weightsB l then .ok (capsOf ra ro fi l) else .error ([], 3) else .error ([], 11)

theorem weightsB_no_len {l : List Int} (h : ¬ (1 ≤ l.length ∧ l.length ≤ 16)) : weightsB l = false := by
  unfold weightsB
  by_cases h1 : 1 ≤ l.length
  · have h2 : ¬ l.length ≤ 16 := fun h2 => h ⟨h1, h2⟩
    simp [h2]
  · simp [h1]
theorem weightsB_no {l : List Int} {j : Nat} (hj : j < l.length) (h : ¬ (1 ≤ l[j] ∧ l[j] ≤ 16777216)) : weightsB l = false := by simp [weightsB, within_take_false hj h]
theorem weightsB_yes {l : List Int} (h1 : 1 ≤ l.length) (h2 : l.length ≤ 16) (h : ∀ n ∈ l, 1 ≤ n ∧ n ≤ 16777216) : weightsB l = true := by simp [weightsB, h1, h2, (Vb.within_iff _ _ _).2 h]
theorem weightsB_of {l : List Int} (h : weightsB l = true) : 1 ≤ l.length ∧ l.length ≤ 16 ∧ ∀ n ∈ l, 1 ≤ n ∧ n ≤ 16777216 := by
  simp only [weightsB, Bool.and_eq_true, decide_eq_true_eq, Vb.within_iff] at h
  exact ⟨h.1.1, h.1.2, h.2⟩

theorem capsR_no {ra ro fi : Int} {l : List Int} (h : weightsB l = false) : capsR true ra ro fi l = .error ([], 3) := by simp [capsR, h]
theorem capsR_yes {ra ro fi : Int} {l : List Int} (h : weightsB l = true) : capsR true ra ro fi l = .ok (capsOf ra ro fi l) := by simp [capsR, h]

/-- The sum of a beginning. -/
theorem sumL_take_bd {l : List Int} {j : Nat} (hl : l.length ≤ 16) (h : ∀ n ∈ l.take j, 1 ≤ n ∧ n ≤ 16777216) : 0 ≤ Vb.sumL (l.take j) ∧ Vb.sumL (l.take j) ≤ 268435456 ∧ ((l.take j).length : Int) ≤ Vb.sumL (l.take j) := by
  have := Vb.sumL_bd (l.take j) h
  have h2 : (l.take j).length ≤ 16 := by rw [List.length_take]; omega
  omega

theorem mul_bd {a b A B : Int} (h0 : 0 ≤ a) (h1 : a ≤ A) (h2 : 0 ≤ b) (h3 : b ≤ B) : 0 ≤ a * b ∧ a * b ≤ A * B :=
  ⟨Int.mul_nonneg h0 h2, Int.mul_le_mul h1 h3 h2 (by omega)⟩

set_option maxRecDepth 100000 in
set_option maxHeartbeats 4000000 in
theorem Caps_any {qn qx re cu go ra ro fi : Int} {A : Option Addr} {l : List Int} {c : Nat} (hl : l.length ≤ 9223372036854775807) (w : World) (ha : RdI .i64 w A l) :
    Calls Tryd.prog 9 #[.agg #[.int .i64 qn, .int .i64 qx, .int .i64 re, .int .i64 cu, .int .i64 go, .int .i64 ra, .int .i64 ro, .int .i64 fi], .slice A l.length c] w
      (ResOut w (capsR (Vb.mayB qn qx re cu go ra ro fi) ra ro fi l)) := by
  obtain ⟨i0, hi, hz0, hz1, hz2⟩ := info_parts intInfo
  have HA := Lib.hid ha
  clear ha
  cases hmay : Vb.mayB qn qx re cu go ra ro fi with
  | false =>
    have H := Lib.hid hmay
    clear hmay
    go_enter Tryd.func9, Tryd.ntmps9
    go_wp2_with (go_at_call 17; refine (Check_no H.out _).mono ?_; rintro e w' ⟨rfl, hb⟩)
    go_ret2
    exact resOut_err (p := []) (c := 11) rfl rfl (((Below.refl _ _).alloc (Nat.le_refl _) _).trans (hb.mono (by simp)))
  | true =>
    have hm := mayB_of hmay
    have H := Lib.hid hmay
    clear hmay
    obtain ⟨_, _, _, _, _, _, _, _, _, hm1, hm2, hm3, hm4, hm5⟩ := hm
    by_cases hlen : 1 ≤ l.length ∧ l.length ≤ 16
    · obtain ⟨hl1, hl2⟩ := hlen
      have hl1' : ((l.length : Int) == 0) = false := by rw [beq_eq_false_iff_ne]; omega
      go_enter Tryd.func9, Tryd.ntmps9
      go_wp2_with (go_at_call 17; refine (Check_ok H.out _).mono ?_; rintro e w' ⟨rfl, hb⟩)
      have hcf := (Blk.new w 23 #[.int .i64 qn, .int .i64 qx, .int .i64 re, .int .i64 cu, .int .i64 go, .int .i64 ra, .int .i64 ro, .int .i64 fi]).keep hb
      have hb1 : Below w.heap.size w w' := ((Below.refl _ _).alloc (Nat.le_refl _) _).trans (hb.mono (by simp))
      have hwz := hcf.lt
      have hc5 : w'.cell? ⟨w.heap.size, 5, none⟩ = some (.int .i64 ra) := by rw [hcf.cell]; rfl
      have hc6 : w'.cell? ⟨w.heap.size, 6, none⟩ = some (.int .i64 ro) := by rw [hcf.cell]; rfl
      have hc7 : w'.cell? ⟨w.heap.size, 7, none⟩ = some (.int .i64 fi) := by rw [hcf.cell]; rfl
      go_loopg [8, 33] l.length (fun k vs vi wr => ∃ (j : Nat) (S : Int), j + k = l.length ∧ vi = .int .i64 j ∧ vs = .int .i64 S ∧ 0 ≤ S ∧ S ≤ 268435456 ∧ Hid (S = Vb.sumL (l.take j)) ∧ Hid (∀ n ∈ l.take j, 1 ≤ n ∧ n ≤ 16777216) ∧ wr = w')
      case atStart => exact ⟨0, 0, by omega, rfl, rfl, by omega, by omega, rfl, fun n hn => by simp at hn, rfl⟩
      case round =>
        obtain ⟨j, S, hj, rfl, rfl, hS0, hS1, hS, hin, rfl⟩ := hrel
        by_cases hlt : j < l.length
        · obtain ⟨b2, o2, rfl, k2⟩ := (HA.out.keep hb1).at_ hlt
          have hlt' : (j : Int) < (l.length : Int) := by omega
          obtain ⟨x, hx⟩ : ∃ x, l[j] = x := ⟨_, rfl⟩
          rw [hx] at k2
          have hx' := Lib.hid hx
          clear hx
          rcases (show x < 1 ∨ (1 ≤ x ∧ 16777216 < x) ∨ (1 ≤ x ∧ x ≤ 16777216) by omega) with h1 | ⟨h1, h2⟩ | ⟨h1, h2⟩
          · have hres := Lib.hid (weightsB_no hlt (by rw [hx'.out]; omega))
            go_wp2_with fail
            go_ret2
            exact resOut_err (p := []) (c := 3) (capsR_no hres.out) rfl hb1
          · have hres := Lib.hid (weightsB_no hlt (by rw [hx'.out]; omega))
            go_wp2_with fail
            go_ret2
            exact resOut_err (p := []) (c := 3) (capsR_no hres.out) rfl hb1
          · go_wp2_with fail
            have hin' : Hid (∀ n ∈ l.take (j + 1), 1 ≤ n ∧ n ≤ 16777216) := fun n hn => by
              rw [List.take_succ_eq_append_getElem hlt] at hn
              rcases List.mem_append.1 hn with h | h
              · exact hin.out n h
              · simp at h; subst h; rw [hx'.out]; exact ⟨h1, h2⟩
            have hsum : S + x = Vb.sumL (l.take (j + 1)) := by rw [Vb.sumL_snoc l j hlt, ← hS.out, hx'.out]
            have hbd := sumL_take_bd hl2 hin'.out
            go_roundg (gk - 1)
            case measure => omega
            case rel => exact ⟨j + 1, S + x, by omega, by go_num, rfl, by omega, by omega, hsum, hin', rfl⟩
        · have ht : l.take j = l := List.take_of_length_le (by omega)
          have hSe : Hid (S = Vb.sumL l) := by rw [← ht]; exact hS
          have HI : Hid (∀ n ∈ l, 1 ≤ n ∧ n ≤ 16777216) := by rw [← ht]; exact hin
          have hSl : 1 ≤ S := by
            have := sumL_take_bd (j := l.length) hl2 (by rw [List.take_length]; exact HI.out)
            rw [List.take_length, ← hSe.out] at this
            omega
          clear ht hin hS
          have hM := mul_bd (a := (l.length : Int) - 1) (b := ra) (A := 15) (B := 16384) (by omega) (by omega) (by omega) (by omega)
          obtain ⟨M, hMe⟩ : ∃ M, ((l.length : Int) - 1) * ra = M := ⟨_, rfl⟩
          obtain ⟨T, hTe⟩ : ∃ T, fi + M = T := ⟨_, rfl⟩
          have HTe := Lib.hid (show T = fi + ((l.length : Int) - 1) * ra by rw [hMe, hTe])
          rw [hMe] at hM
          obtain ⟨hM0, hM1⟩ := hM
          have hT0 : 0 ≤ T := by omega
          have hT1 : T ≤ 262144 := by omega
          go_wp2_with fail
          go_quiet (fail)
          have hbq : Below w.heap.size w (wr.drewN nq) := below_drewN hb1 nq
          have hcfq := Lib.hid (hcf.drewN nq)
          generalize wr.drewN nq = wq at *
          clear hMe hTe hc5 hc6 hc7 hcf hb hb1 hwz hM0 hM1
          go_wp2_with fail
          go_loopg [12, 13, 60] l.length (fun k vh lv vi wr => ∃ (j : Nat) (H : Int) (acc : List Int), j + k = l.length ∧ vi = .int .i64 j ∧ vh = .int .i64 H ∧ 8 ≤ H ∧ H ≤ ro ∧ Hid (H = Vb.afterC T S ra ro fi (l.take j)) ∧ Hid (acc = Vb.caps T S ra ro fi (l.take j)) ∧
            wr.ownsRow (w.heap.size + 1) 3 1 lv acc.length (acc.map (Value.int .i64)) ∧ Blk wr w.heap.size 23 #[.int .i64 qn, .int .i64 qx, .int .i64 re, .int .i64 cu, .int .i64 go, .int .i64 ra, .int .i64 ro, .int .i64 fi] ∧ Below w.heap.size w wr)
          case atStart => exact ⟨0, fi, [], by omega, rfl, rfl, by omega, by omega, rfl, rfl, World.ownsRow_nil _ _ _ _, hcfq.out, hbq⟩
          case round =>
            clear hlt hj hbq hcfq
            obtain ⟨j, H', acc, hj, rfl, rfl, hH0, hH1, hH, hac, hown, hcf, hbel⟩ := hrel
            have hc5 : wr.cell? ⟨w.heap.size, 5, none⟩ = some (.int .i64 ra) := by rw [hcf.cell]; rfl
            have hc6 : wr.cell? ⟨w.heap.size, 6, none⟩ = some (.int .i64 ro) := by rw [hcf.cell]; rfl
            have hwz : w.heap.size + 1 ≤ wr.heap.size := hcf.lt
            have haccl : acc.length ≤ 16 := by rw [hac.out, Vb.caps_length, List.length_take]; omega
            obtain ⟨A8, c8, rfl⟩ := own_slice hown
            by_cases hlt : j < l.length
            · obtain ⟨b2, o2, rfl, k2⟩ := (HA.out.keep hbel).at_ hlt
              have hlt' : (j : Int) < (l.length : Int) := by omega
              obtain ⟨x, hx⟩ : ∃ x, l[j] = x := ⟨_, rfl⟩
              obtain ⟨hx0, hx1⟩ := HI.out l[j] (List.getElem_mem hlt)
              rw [hx] at k2 hx0 hx1
              have hx' := Lib.hid hx
              clear hx
              obtain ⟨hTx0, hTx1⟩ := mul_bd (a := T) (b := x) (A := 262144) (B := 16777216) hT0 hT1 (by omega) hx1
              have hq0 : 0 ≤ T * x / S := Int.ediv_nonneg hTx0 (by omega)
              have hq1 : T * x / S ≤ T * x := Int.ediv_le_self _ hTx0
              obtain ⟨q, hqe⟩ : ∃ q, T * x / S = q := ⟨_, rfl⟩
              rw [hqe] at hq0 hq1
              have hsn := Lib.hid (show Vb.caps T S ra ro fi (l.take (j + 1)) = acc ++ [max 8 (min q H')] by
                rw [Vb.take_snoc l j hlt, Vb.caps_app, ← hac.out, ← hH.out, hx'.out]; simp only [Vb.caps, hqe])
              have haf := Lib.hid (show Vb.afterC T S ra ro fi (l.take (j + 1)) = min ro (H' - max 8 (min q H') + ra) by
                rw [Vb.take_snoc l j hlt, Vb.afterC_snoc, ← hH.out, hx'.out, hqe])
              obtain ⟨y, hy⟩ : ∃ y, y = max 8 (min q H') := ⟨_, rfl⟩
              rw [← hy] at hsn haf
              rcases (show (H' < q ∧ 8 < H' ∧ y = H') ∨ (H' < q ∧ H' ≤ 8 ∧ y = 8) ∨ (q ≤ H' ∧ 8 < q ∧ y = q) ∨ (q ≤ H' ∧ q ≤ 8 ∧ y = 8) by omega) with ⟨h1, h2, h3⟩ | ⟨h1, h2, h3⟩ | ⟨h1, h2, h3⟩ | ⟨h1, h2, h3⟩
              · rw [h3] at hsn haf
                clear hy h3
                go_wp2_with (at_builtin; refine wpList_append_lies _ rfl (.tmp 72) (.tmp 74) _ rfl (w.heap.size + 1) 3 i0 _ 1 8 Tryd.underlying24 hi hz0 hz1 hz2 rfl (by omega) (.slice A8 acc.length c8) acc.length _ rfl (hown.alloc _) ⟨wr.heap.size, 0, none⟩ 1 1 [.int .i64 (H')] rfl rfl (World.news_of_block (cs := #[.int .i64 (H')]) (t := 3) (fr := (0, 0)) (heap_alloc_new wr _)) (by simp [Value.oneCell']) (by omega) (by unfold maxLen; omega) (by omega) (by simp; omega) _ rfl ?_; intro g cap w1 hown1 hgrow hat hlt1; have hcf1 := (hcf.alloc (.cells #[.int .i64 (H')] 3)).grown hgrow (Ne.symm (own_notBlk hown hcf (by decide))); have hc5' : w1.cell? ⟨w.heap.size, 5, none⟩ = some (.int .i64 ra) := (by rw [hcf1.cell]; rfl); have hc6' : w1.cell? ⟨w.heap.size, 6, none⟩ = some (.int .i64 ro) := (by rw [hcf1.cell]; rfl))
                all_goals (
                  have HO := Lib.hid hown1
                  have HW := Lib.hid hgrow
                  clear hown1 hgrow hat
                  go_roundg (gk - 1)
                  case measure => omega
                  case rel =>
                    refine ⟨j + 1, min ro (H' - (H') + ra), acc ++ [H'], by omega, by go_num, by go_num, by omega, by omega, haf.out.symm, hsn.out.symm, ?_, hcf1, ?_⟩
                    · simpa using HO.out
                    · exact (hbel.alloc hbel.size _).grown HW.out (by simp; omega) (fun k hk => by have := (hown.lt k hk).1; omega))
              · rw [h3] at hsn haf
                clear hy h3
                go_wp2_with (at_builtin; refine wpList_append_lies _ rfl (.tmp 72) (.tmp 74) _ rfl (w.heap.size + 1) 3 i0 _ 1 8 Tryd.underlying24 hi hz0 hz1 hz2 rfl (by omega) (.slice A8 acc.length c8) acc.length _ rfl (hown.alloc _) ⟨wr.heap.size, 0, none⟩ 1 1 [.int .i64 (8)] rfl rfl (World.news_of_block (cs := #[.int .i64 (8)]) (t := 3) (fr := (0, 0)) (heap_alloc_new wr _)) (by simp [Value.oneCell']) (by omega) (by unfold maxLen; omega) (by omega) (by simp; omega) _ rfl ?_; intro g cap w1 hown1 hgrow hat hlt1; have hcf1 := (hcf.alloc (.cells #[.int .i64 (8)] 3)).grown hgrow (Ne.symm (own_notBlk hown hcf (by decide))); have hc5' : w1.cell? ⟨w.heap.size, 5, none⟩ = some (.int .i64 ra) := (by rw [hcf1.cell]; rfl); have hc6' : w1.cell? ⟨w.heap.size, 6, none⟩ = some (.int .i64 ro) := (by rw [hcf1.cell]; rfl))
                all_goals (
                  have HO := Lib.hid hown1
                  have HW := Lib.hid hgrow
                  clear hown1 hgrow hat
                  go_roundg (gk - 1)
                  case measure => omega
                  case rel =>
                    refine ⟨j + 1, min ro (H' - (8) + ra), acc ++ [8], by omega, by go_num, by go_num, by omega, by omega, haf.out.symm, hsn.out.symm, ?_, hcf1, ?_⟩
                    · simpa using HO.out
                    · exact (hbel.alloc hbel.size _).grown HW.out (by simp; omega) (fun k hk => by have := (hown.lt k hk).1; omega))
              · rw [h3] at hsn haf
                clear hy h3
                go_wp2_with (at_builtin; refine wpList_append_lies _ rfl (.tmp 72) (.tmp 74) _ rfl (w.heap.size + 1) 3 i0 _ 1 8 Tryd.underlying24 hi hz0 hz1 hz2 rfl (by omega) (.slice A8 acc.length c8) acc.length _ rfl (hown.alloc _) ⟨wr.heap.size, 0, none⟩ 1 1 [.int .i64 (q)] rfl rfl (World.news_of_block (cs := #[.int .i64 (q)]) (t := 3) (fr := (0, 0)) (heap_alloc_new wr _)) (by simp [Value.oneCell']) (by omega) (by unfold maxLen; omega) (by omega) (by simp; omega) _ rfl ?_; intro g cap w1 hown1 hgrow hat hlt1; have hcf1 := (hcf.alloc (.cells #[.int .i64 (q)] 3)).grown hgrow (Ne.symm (own_notBlk hown hcf (by decide))); have hc5' : w1.cell? ⟨w.heap.size, 5, none⟩ = some (.int .i64 ra) := (by rw [hcf1.cell]; rfl); have hc6' : w1.cell? ⟨w.heap.size, 6, none⟩ = some (.int .i64 ro) := (by rw [hcf1.cell]; rfl))
                all_goals (
                  have HO := Lib.hid hown1
                  have HW := Lib.hid hgrow
                  clear hown1 hgrow hat
                  go_roundg (gk - 1)
                  case measure => omega
                  case rel =>
                    refine ⟨j + 1, min ro (H' - (q) + ra), acc ++ [q], by omega, by go_num, by go_num, by omega, by omega, haf.out.symm, hsn.out.symm, ?_, hcf1, ?_⟩
                    · simpa using HO.out
                    · exact (hbel.alloc hbel.size _).grown HW.out (by simp; omega) (fun k hk => by have := (hown.lt k hk).1; omega))
              · rw [h3] at hsn haf
                clear hy h3
                go_wp2_with (at_builtin; refine wpList_append_lies _ rfl (.tmp 72) (.tmp 74) _ rfl (w.heap.size + 1) 3 i0 _ 1 8 Tryd.underlying24 hi hz0 hz1 hz2 rfl (by omega) (.slice A8 acc.length c8) acc.length _ rfl (hown.alloc _) ⟨wr.heap.size, 0, none⟩ 1 1 [.int .i64 (8)] rfl rfl (World.news_of_block (cs := #[.int .i64 (8)]) (t := 3) (fr := (0, 0)) (heap_alloc_new wr _)) (by simp [Value.oneCell']) (by omega) (by unfold maxLen; omega) (by omega) (by simp; omega) _ rfl ?_; intro g cap w1 hown1 hgrow hat hlt1; have hcf1 := (hcf.alloc (.cells #[.int .i64 (8)] 3)).grown hgrow (Ne.symm (own_notBlk hown hcf (by decide))); have hc5' : w1.cell? ⟨w.heap.size, 5, none⟩ = some (.int .i64 ra) := (by rw [hcf1.cell]; rfl); have hc6' : w1.cell? ⟨w.heap.size, 6, none⟩ = some (.int .i64 ro) := (by rw [hcf1.cell]; rfl))
                all_goals (
                  have HO := Lib.hid hown1
                  have HW := Lib.hid hgrow
                  clear hown1 hgrow hat
                  go_roundg (gk - 1)
                  case measure => omega
                  case rel =>
                    refine ⟨j + 1, min ro (H' - (8) + ra), acc ++ [8], by omega, by go_num, by go_num, by omega, by omega, haf.out.symm, hsn.out.symm, ?_, hcf1, ?_⟩
                    · simpa using HO.out
                    · exact (hbel.alloc hbel.size _).grown HW.out (by simp; omega) (fun k hk => by have := (hown.lt k hk).1; omega))
            · go_wp2_with fail
              have ht : l.take j = l := List.take_of_length_le (by omega)
              have hw : weightsB l = true := weightsB_yes hl1 hl2 HI.out
              have hac' : capsOf ra ro fi l = acc := by rw [hac.out, ht, HTe.out, hSe.out]; rfl
              go_ret2
              exact resOut_ok (by rw [capsR_yes hw, hac']) rfl (RdI.of_own hown).1 hbel
    · have hres := Lib.hid (weightsB_no_len hlen)
      have hlen' : ¬ (1 ≤ l.length ∧ l.length ≤ 16) := hlen
      clear hlen
      by_cases h0 : l.length = 0
      · have h0' : ((l.length : Int) == 0) = true := by rw [beq_iff_eq]; omega
        have H0 := Lib.hid h0
        clear h0 hlen'
        go_enter Tryd.func9, Tryd.ntmps9
        go_wp2_with (go_at_call 17; refine (Check_ok H.out _).mono ?_; rintro e w' ⟨rfl, hb⟩)
        go_ret2
        exact resOut_err (p := []) (c := 3) (capsR_no hres.out) rfl (((Below.refl _ _).alloc (Nat.le_refl _) _).trans (hb.mono (by simp)))
      · have h0' : ((l.length : Int) == 0) = false := by rw [beq_eq_false_iff_ne]; omega
        have h16 : 16 < l.length := by omega
        clear h0 hlen'
        go_enter Tryd.func9, Tryd.ntmps9
        go_wp2_with (go_at_call 17; refine (Check_ok H.out _).mono ?_; rintro e w' ⟨rfl, hb⟩)
        go_ret2
        exact resOut_err (p := []) (c := 3) (capsR_no hres.out) rfl (((Below.refl _ _).alloc (Nat.le_refl _) _).trans (hb.mono (by simp)))

end Go.Proofs.YtiaplanhlkndiaaDoor
