/- The contract of kinref18.Caps, the document's caps. -/
import Derived.Test.YtiaplanhlkndiaaDoorAlloc
import Derived.OneCell
namespace Go.Proofs.YtiaplanhlkndiaaDoor
open Go Go.RowKit Go.Extern.Stop Go.Stop Go.Extern

/-- What a reference's function that answers a list of integers and an error leaves. -/
def RefOut (w : World) (r : Except Er (List Int)) (e : Ending) (w' : World) : Prop :=
  match r with
  | .ok l => ∃ A c, e = .returned (.tuple #[.slice A l.length c, .agg #[.int .i64 0, .slice none 0 0]]) ∧ RdI .i64 w' A l ∧ Below w.heap.size w w'
  | .error (p, c) => ∃ A cap, e = .returned (.tuple #[.slice none 0 0, .agg #[.int .i64 c, .slice A p.length cap]]) ∧ Rd w' 2 A p.length (flatP p) ∧ Below w.heap.size w w'

theorem refOut_err {w w' : World} {r : Except Er (List Int)} {p : List (ByteArray × Int)} {c : Int} {A : Option Addr} {n cap : Nat} (h : r = .error (p, c)) (hn : n = p.length) (hr : Rd w' 2 A p.length (flatP p)) (hb : Below w.heap.size w w') :
    RefOut w r (.returned (.tuple #[.slice none 0 0, .agg #[.int .i64 c, .slice A n cap]])) w' := by subst h; subst hn; exact ⟨A, cap, rfl, hr, hb⟩
theorem refOut_ok {w w' : World} {r : Except Er (List Int)} {l : List Int} {A : Option Addr} {n c : Nat} (h : r = .ok l) (hn : n = l.length) (hr : RdI .i64 w' A l) (hb : Below w.heap.size w w') :
    RefOut w r (.returned (.tuple #[.slice A n c, .agg #[.int .i64 0, .slice none 0 0]])) w' := by subst h; subst hn; exact ⟨A, c, rfl, hr, hb⟩

theorem Fail_any (c : Int) (w : World) : Calls Tryd.prog 16 #[.int .i64 c] w fun e w' => e = .returned (.agg #[.int .i64 c, .slice none 0 0]) ∧ Below w.heap.size w w' := by
  go_enter Tryd.func16, Tryd.ntmps16
  go_wp2
  refine bodyPost_ret (v := .agg #[.int .i64 c, .slice none 0 0]) (by simp [results, Tryd.results16, go_sem]) rfl ⟨rfl, ?_⟩
  exact (Below.refl _ _).alloc (Nat.le_refl _) _

set_option maxRecDepth 100000 in
set_option maxHeartbeats 4000000 in
theorem RCaps_any {qn qx re cu go ra ro fi : Int} {A : Option Addr} {l : List Int} {c : Nat} (hl : l.length ≤ 9223372036854775807) (w : World) (ha : RdI .i64 w A l) :
    Calls Tryd.prog 10 #[.agg #[.int .i64 qn, .int .i64 qx, .int .i64 re, .int .i64 cu, .int .i64 go, .int .i64 ra, .int .i64 ro, .int .i64 fi], .slice A l.length c] w
      (RefOut w (capsR (Vb.mayB qn qx re cu go ra ro fi) ra ro fi l)) := by
  obtain ⟨i0, hi, hz0, hz1, hz2⟩ := info_parts intInfo
  have HA := Lib.hid ha
  clear ha
  cases hmay : Vb.mayB qn qx re cu go ra ro fi with
  | false =>
    go_enter Tryd.func10, Tryd.ntmps10
    go_wp2_with (first
      | (go_at_call 18; refine (RMay_any _).mono ?_; rintro e w1 ⟨rfl, hb1⟩; have hcc : Blk w1 (w.heap.size + 1) 34 #[.int .i64 0, .slice none 0 0] := (by have := (Blk.new (w.alloc (cfgC qn qx re cu go ra ro fi)) 34 #[.int .i64 0, .slice none 0 0]).keep hb1; simpa using this))
      | (go_at_call 16; refine (Fail_any _ _).mono ?_; rintro e w2 ⟨rfl, hb2⟩; have hx0 : w2.cell? ⟨w.heap.size + 1, 0, none⟩ = some (.int .i64 0) := (by rw [(hcc.keep hb2).cell]; rfl); have hx1 : w2.cell? ⟨w.heap.size + 1, 1, none⟩ = some (.slice none 0 0) := (by rw [(hcc.keep hb2).cell]; rfl); have hf0 := (hcc.keep hb2).frozen 0; have hf1 := (hcc.keep hb2).frozen 1))
    refine bodyPost_ret (v := .tuple #[.slice none 0 0, .agg #[.int .i64 11, .slice none 0 0]]) (by simp [results, Tryd.results10, go_sem, hx0, hx1]) rfl ?_
    refine refOut_err (p := []) (c := 11) rfl rfl Rd.nil ?_
    have hbA : Below w.heap.size w w1 := (((Below.refl _ _).alloc (Nat.le_refl _) _).alloc (by simp) _).trans (hb1.mono (by simp; omega))
    exact ((hbA.trans (hb2.mono hbA.size)).setCell (by simp) _).setCell (by simp) _
  | true =>
    have hm := mayB_of hmay
    obtain ⟨_, _, _, _, _, _, _, _, _, hm1, hm2, hm3, hm4, hm5⟩ := hm
    by_cases hlen : 1 ≤ l.length ∧ l.length ≤ 16
    · obtain ⟨hl1, hl2⟩ := hlen
      cases hwi : Vb.within 1 16777216 l with
      | false =>
        have hres := Lib.hid (show weightsB l = false by simp [weightsB, hwi])
        go_enter Tryd.func10, Tryd.ntmps10
        go_wp2_with (first
          | (go_at_call 18; refine (RMay_any _).mono ?_; rintro e w1 ⟨rfl, hb1⟩; have hcc : Blk w1 (w.heap.size + 1) 34 #[.int .i64 0, .slice none 0 0] := (by have := (Blk.new (w.alloc (cfgC qn qx re cu go ra ro fi)) 34 #[.int .i64 0, .slice none 0 0]).keep hb1; simpa using this); have hbA : Below w.heap.size w w1 := ((((Below.refl _ _).alloc (Nat.le_refl _) _).alloc (by simp) _).trans (hb1.mono (by simp; omega))))
          | (go_at_call 13; refine (Within_any hl _ (HA.out.keep hbA)).mono ?_; rintro e w' ⟨rfl, rfl⟩)
          | (go_at_call 16; refine (Fail_any _ _).mono ?_; rintro e w2 ⟨rfl, hb2⟩; have hx0 : w2.cell? ⟨w.heap.size + 1, 0, none⟩ = some (.int .i64 0) := (by rw [(hcc.keep hb2).cell]; rfl); have hx1 : w2.cell? ⟨w.heap.size + 1, 1, none⟩ = some (.slice none 0 0) := (by rw [(hcc.keep hb2).cell]; rfl); have hf0 := (hcc.keep hb2).frozen 0; have hf1 := (hcc.keep hb2).frozen 1))
        refine bodyPost_ret (v := .tuple #[.slice none 0 0, .agg #[.int .i64 3, .slice none 0 0]]) (by simp [results, Tryd.results10, go_sem, hx0, hx1]) rfl ?_
        refine refOut_err (p := []) (c := 3) (capsR_no hres.out) rfl Rd.nil ?_
        exact ((hbA.trans (hb2.mono hbA.size)).setCell (by simp) _).setCell (by simp) _
      | true =>
        have HI := Lib.hid ((Vb.within_iff _ _ _).1 hwi)
        go_enter Tryd.func10, Tryd.ntmps10
        go_wp2_with (first
          | (go_at_call 18; refine (RMay_any _).mono ?_; rintro e w1 ⟨rfl, hb1⟩; have hcc : Blk w1 (w.heap.size + 1) 34 #[.int .i64 0, .slice none 0 0] := (by have := (Blk.new (w.alloc (cfgC qn qx re cu go ra ro fi)) 34 #[.int .i64 0, .slice none 0 0]).keep hb1; simpa using this); have hbA : Below w.heap.size w w1 := ((((Below.refl _ _).alloc (Nat.le_refl _) _).alloc (by simp) _).trans (hb1.mono (by simp; omega))); have hcf : Blk w1 w.heap.size 23 #[.int .i64 qn, .int .i64 qx, .int .i64 re, .int .i64 cu, .int .i64 go, .int .i64 ra, .int .i64 ro, .int .i64 fi] := (((Blk.new w _ _).alloc _).keep hb1))
          | (go_at_call 13; refine (Within_any hl _ (HA.out.keep hbA)).mono ?_; rintro e w' ⟨rfl, rfl⟩))
        clear hwi hmay
        have hwz := hcc.lt
        go_loopg [7, 8] l.length (fun k vs vi wr => ∃ (j : Nat) (S : Int), j + k = l.length ∧ vi = .int .i64 j ∧ vs = .int .i64 S ∧ 0 ≤ S ∧ S ≤ 268435456 ∧ Hid (S = Vb.sumL (l.take j)) ∧ wr = w1)
        case atStart => exact ⟨0, 0, by omega, rfl, rfl, by omega, by omega, rfl, rfl⟩
        case round =>
          obtain ⟨j, S, hj, rfl, rfl, hS0, hS1, hS, rfl⟩ := hrel
          by_cases hlt : j < l.length
          · obtain ⟨b2, o2, rfl, k2⟩ := (HA.out.keep hbA).at_ hlt
            have hlt' : (j : Int) < (l.length : Int) := by omega
            obtain ⟨x, hx⟩ : ∃ x, l[j] = x := ⟨_, rfl⟩
            obtain ⟨h1, h2⟩ := HI.out l[j] (List.getElem_mem hlt)
            rw [hx] at k2 h1 h2
            have hx' := Lib.hid hx
            clear hx
            go_wp2_with fail
            have hsum : S + x = Vb.sumL (l.take (j + 1)) := by rw [Vb.sumL_snoc l j hlt, ← hS.out, hx'.out]
            have hbd := sumL_take_bd (j := j + 1) hl2 (fun n hn => HI.out n (List.mem_of_mem_take hn))
            go_roundg (gk - 1)
            case measure => omega
            case rel => exact ⟨j + 1, S + x, by omega, by go_num, rfl, by omega, by omega, hsum, rfl⟩
          · have ht : l.take j = l := List.take_of_length_le (by omega)
            have hSe : Hid (S = Vb.sumL l) := by rw [← ht]; exact hS
            have hSl : 1 ≤ S := by
              have := sumL_take_bd (j := l.length) hl2 (by rw [List.take_length]; exact HI.out)
              rw [List.take_length, ← hSe.out] at this
              omega
            clear ht hS
            have hM := mul_bd (a := (l.length : Int) - 1) (b := ra) (A := 15) (B := 16384) (by omega) (by omega) (by omega) (by omega)
            obtain ⟨M, hMe⟩ : ∃ M, ((l.length : Int) - 1) * ra = M := ⟨_, rfl⟩
            obtain ⟨T, hTe⟩ : ∃ T, fi + M = T := ⟨_, rfl⟩
            have HTe := Lib.hid (show T = fi + ((l.length : Int) - 1) * ra by rw [hMe, hTe])
            rw [hMe] at hM
            obtain ⟨hM0, hM1⟩ := hM
            have hT0 : 0 ≤ T := by omega
            have hT1 : T ≤ 262144 := by omega
            have hc7 : wr.cell? ⟨w.heap.size, 7, none⟩ = some (.int .i64 fi) := by rw [hcf.cell]; rfl
            have HTE := Lib.hid hTe
            have HME := Lib.hid hMe
            clear hTe hMe
            go_wp2_with fail
            go_loopg [9, 10, 11] l.length (fun k lv vh vi wx => ∃ (j : Nat) (H : Int) (acc : List Int), j + k = l.length ∧ vi = .int .i64 j ∧ vh = .int .i64 H ∧ 8 ≤ H ∧ H ≤ ro ∧ Hid (H = Vb.afterC T S ra ro fi (l.take j)) ∧ Hid (acc = Vb.caps T S ra ro fi (l.take j)) ∧
              wx.ownsRow (w.heap.size + 2) 3 1 lv acc.length (acc.map (Value.int .i64)) ∧ Blk wx w.heap.size 23 #[.int .i64 qn, .int .i64 qx, .int .i64 re, .int .i64 cu, .int .i64 go, .int .i64 ra, .int .i64 ro, .int .i64 fi] ∧ Blk wx (w.heap.size + 1) 34 #[.int .i64 0, .slice none 0 0] ∧ Below w.heap.size w wx)
            case atStart => exact ⟨0, fi, [], by omega, rfl, rfl, by omega, by omega, rfl, rfl, World.ownsRow_nil _ _ _ _, hcf, hcc, hbA⟩
            case round =>
              clear hlt hj hbA hcf hcc hc7 hb1 hwz
              obtain ⟨j, H', acc, hj, rfl, rfl, hH0, hH1, hH, hac, hown, hcf, hcc, hbel⟩ := hrel
              have hc5 : wr.cell? ⟨w.heap.size, 5, none⟩ = some (.int .i64 ra) := by rw [hcf.cell]; rfl
              have hc6 : wr.cell? ⟨w.heap.size, 6, none⟩ = some (.int .i64 ro) := by rw [hcf.cell]; rfl
              have hc7 : wr.cell? ⟨w.heap.size, 7, none⟩ = some (.int .i64 fi) := by rw [hcf.cell]; rfl
              have hwz : w.heap.size + 2 ≤ wr.heap.size := hcc.lt
              have haccl : acc.length ≤ 16 := by rw [hac.out, Vb.caps_length, List.length_take]; omega
              obtain ⟨A8, c8, rfl⟩ := own_slice hown
              by_cases hlt : j < l.length
              · obtain ⟨b2, o2, rfl, k2⟩ := (HA.out.keep hbel).at_ hlt
                have hlt' : (j : Int) < (l.length : Int) := by omega
                obtain ⟨x, hx⟩ : ∃ x, l[j] = x := ⟨_, rfl⟩
                obtain ⟨hx0, hx1⟩ := HI.out l[j] (List.getElem_mem hlt)
                rw [hx] at k2 hx0 hx1
                have hx' := Lib.hid hx
                clear hx
                obtain ⟨hTx0, hTx1⟩ := mul_bd (a := T) (b := x) (A := 262144) (B := 16777216) hT0 hT1 (by omega) hx1
                have hq0 : 0 ≤ T * x / S := Int.ediv_nonneg hTx0 (by omega)
                have hq1 : T * x / S ≤ T * x := Int.ediv_le_self _ hTx0
                obtain ⟨q, hqe⟩ : ∃ q, T * x / S = q := ⟨_, rfl⟩
                rw [hqe] at hq0 hq1
                have hsn := Lib.hid (show Vb.caps T S ra ro fi (l.take (j + 1)) = acc ++ [max 8 (min q H')] by
                  rw [Vb.take_snoc l j hlt, Vb.caps_app, ← hac.out, ← hH.out, hx'.out]; simp only [Vb.caps, hqe])
                have haf := Lib.hid (show Vb.afterC T S ra ro fi (l.take (j + 1)) = min ro (H' - max 8 (min q H') + ra) by
                  rw [Vb.take_snoc l j hlt, Vb.afterC_snoc, ← hH.out, hx'.out, hqe])
                obtain ⟨y, hy⟩ : ∃ y, y = max 8 (min q H') := ⟨_, rfl⟩
                rw [← hy] at hsn haf
                have hTe := HTE.out
                have hMe := HME.out
                go_wp2_with fail
                go_quiet (fail)
                have hbelq : Below w.heap.size w (wr.drewN nq) := below_drewN hbel nq
                have hcfq := hcf.drewN nq
                have hccq := hcc.drewN nq
                have hownq : (wr.drewN nq).ownsRow (w.heap.size + 2) 3 1 (.slice A8 acc.length c8) acc.length (acc.map (Value.int .i64)) := hown
                have hwzq : w.heap.size + 2 ≤ (wr.drewN nq).heap.size := hwz
                generalize wr.drewN nq = wq at *
                clear hown hcf hcc hbel hc5 hc6 hc7 hTe hMe k2
                rcases (show (H' < q ∧ 8 < H' ∧ y = H') ∨ (H' < q ∧ H' ≤ 8 ∧ y = 8) ∨ (q ≤ H' ∧ 8 < q ∧ y = q) ∨ (q ≤ H' ∧ q ≤ 8 ∧ y = 8) by omega) with ⟨h1, h2, h3⟩ | ⟨h1, h2, h3⟩ | ⟨h1, h2, h3⟩ | ⟨h1, h2, h3⟩
                · rw [h3] at hsn haf
                  clear hy h3
                  go_wp2_with (at_builtin; refine wpList_append_lies _ rfl (.tmp 69) (.tmp 71) _ rfl (w.heap.size + 2) 3 i0 _ 1 8 Tryd.underlying24 hi hz0 hz1 hz2 rfl (by omega) (.slice A8 acc.length c8) acc.length _ rfl (hownq.alloc _) ⟨wq.heap.size, 0, none⟩ 1 1 [.int .i64 (H')] rfl rfl (World.news_of_block (cs := #[.int .i64 (H')]) (t := 3) (fr := (0, 0)) (heap_alloc_new wq _)) (by simp [Value.oneCell']) (by omega) (by unfold maxLen; omega) (by omega) (by simp; omega) _ rfl ?_; intro g cap w1 hown1 hgrow hat hlt1; have hcf1 := (hcfq.alloc (.cells #[.int .i64 (H')] 3)).grown hgrow (Ne.symm (own_notBlk hownq hcfq (by decide))); have hcc1 := (hccq.alloc (.cells #[.int .i64 (H')] 3)).grown hgrow (Ne.symm (own_notBlk hownq hccq (by decide))); have hc5' : w1.cell? ⟨w.heap.size, 5, none⟩ = some (.int .i64 ra) := (by rw [hcf1.cell]; rfl); have hc6' : w1.cell? ⟨w.heap.size, 6, none⟩ = some (.int .i64 ro) := (by rw [hcf1.cell]; rfl))
                  all_goals (
                    have HO := Lib.hid hown1
                    have HW := Lib.hid hgrow
                    clear hown1 hgrow hat
                    go_roundg (gk - 1)
                    case measure => omega
                    case rel =>
                      refine ⟨j + 1, min ro (H' - (H') + ra), acc ++ [H'], by omega, by go_num, by go_num, by omega, by omega, haf.out.symm, hsn.out.symm, ?_, hcf1, hcc1, ?_⟩
                      · simpa using HO.out
                      · exact (hbelq.alloc hbelq.size _).grown HW.out (by simp; omega) (fun k hk => by have := (hownq.lt k hk).1; omega))
                · rw [h3] at hsn haf
                  clear hy h3
                  go_wp2_with (at_builtin; refine wpList_append_lies _ rfl (.tmp 69) (.tmp 71) _ rfl (w.heap.size + 2) 3 i0 _ 1 8 Tryd.underlying24 hi hz0 hz1 hz2 rfl (by omega) (.slice A8 acc.length c8) acc.length _ rfl (hownq.alloc _) ⟨wq.heap.size, 0, none⟩ 1 1 [.int .i64 (8)] rfl rfl (World.news_of_block (cs := #[.int .i64 (8)]) (t := 3) (fr := (0, 0)) (heap_alloc_new wq _)) (by simp [Value.oneCell']) (by omega) (by unfold maxLen; omega) (by omega) (by simp; omega) _ rfl ?_; intro g cap w1 hown1 hgrow hat hlt1; have hcf1 := (hcfq.alloc (.cells #[.int .i64 (8)] 3)).grown hgrow (Ne.symm (own_notBlk hownq hcfq (by decide))); have hcc1 := (hccq.alloc (.cells #[.int .i64 (8)] 3)).grown hgrow (Ne.symm (own_notBlk hownq hccq (by decide))); have hc5' : w1.cell? ⟨w.heap.size, 5, none⟩ = some (.int .i64 ra) := (by rw [hcf1.cell]; rfl); have hc6' : w1.cell? ⟨w.heap.size, 6, none⟩ = some (.int .i64 ro) := (by rw [hcf1.cell]; rfl))
                  all_goals (
                    have HO := Lib.hid hown1
                    have HW := Lib.hid hgrow
                    clear hown1 hgrow hat
                    go_roundg (gk - 1)
                    case measure => omega
                    case rel =>
                      refine ⟨j + 1, min ro (H' - (8) + ra), acc ++ [8], by omega, by go_num, by go_num, by omega, by omega, haf.out.symm, hsn.out.symm, ?_, hcf1, hcc1, ?_⟩
                      · simpa using HO.out
                      · exact (hbelq.alloc hbelq.size _).grown HW.out (by simp; omega) (fun k hk => by have := (hownq.lt k hk).1; omega))
                · rw [h3] at hsn haf
                  clear hy h3
                  go_wp2_with (at_builtin; refine wpList_append_lies _ rfl (.tmp 69) (.tmp 71) _ rfl (w.heap.size + 2) 3 i0 _ 1 8 Tryd.underlying24 hi hz0 hz1 hz2 rfl (by omega) (.slice A8 acc.length c8) acc.length _ rfl (hownq.alloc _) ⟨wq.heap.size, 0, none⟩ 1 1 [.int .i64 (q)] rfl rfl (World.news_of_block (cs := #[.int .i64 (q)]) (t := 3) (fr := (0, 0)) (heap_alloc_new wq _)) (by simp [Value.oneCell']) (by omega) (by unfold maxLen; omega) (by omega) (by simp; omega) _ rfl ?_; intro g cap w1 hown1 hgrow hat hlt1; have hcf1 := (hcfq.alloc (.cells #[.int .i64 (q)] 3)).grown hgrow (Ne.symm (own_notBlk hownq hcfq (by decide))); have hcc1 := (hccq.alloc (.cells #[.int .i64 (q)] 3)).grown hgrow (Ne.symm (own_notBlk hownq hccq (by decide))); have hc5' : w1.cell? ⟨w.heap.size, 5, none⟩ = some (.int .i64 ra) := (by rw [hcf1.cell]; rfl); have hc6' : w1.cell? ⟨w.heap.size, 6, none⟩ = some (.int .i64 ro) := (by rw [hcf1.cell]; rfl))
                  all_goals (
                    have HO := Lib.hid hown1
                    have HW := Lib.hid hgrow
                    clear hown1 hgrow hat
                    go_roundg (gk - 1)
                    case measure => omega
                    case rel =>
                      refine ⟨j + 1, min ro (H' - (q) + ra), acc ++ [q], by omega, by go_num, by go_num, by omega, by omega, haf.out.symm, hsn.out.symm, ?_, hcf1, hcc1, ?_⟩
                      · simpa using HO.out
                      · exact (hbelq.alloc hbelq.size _).grown HW.out (by simp; omega) (fun k hk => by have := (hownq.lt k hk).1; omega))
                · rw [h3] at hsn haf
                  clear hy h3
                  go_wp2_with (at_builtin; refine wpList_append_lies _ rfl (.tmp 69) (.tmp 71) _ rfl (w.heap.size + 2) 3 i0 _ 1 8 Tryd.underlying24 hi hz0 hz1 hz2 rfl (by omega) (.slice A8 acc.length c8) acc.length _ rfl (hownq.alloc _) ⟨wq.heap.size, 0, none⟩ 1 1 [.int .i64 (8)] rfl rfl (World.news_of_block (cs := #[.int .i64 (8)]) (t := 3) (fr := (0, 0)) (heap_alloc_new wq _)) (by simp [Value.oneCell']) (by omega) (by unfold maxLen; omega) (by omega) (by simp; omega) _ rfl ?_; intro g cap w1 hown1 hgrow hat hlt1; have hcf1 := (hcfq.alloc (.cells #[.int .i64 (8)] 3)).grown hgrow (Ne.symm (own_notBlk hownq hcfq (by decide))); have hcc1 := (hccq.alloc (.cells #[.int .i64 (8)] 3)).grown hgrow (Ne.symm (own_notBlk hownq hccq (by decide))); have hc5' : w1.cell? ⟨w.heap.size, 5, none⟩ = some (.int .i64 ra) := (by rw [hcf1.cell]; rfl); have hc6' : w1.cell? ⟨w.heap.size, 6, none⟩ = some (.int .i64 ro) := (by rw [hcf1.cell]; rfl))
                  all_goals (
                    have HO := Lib.hid hown1
                    have HW := Lib.hid hgrow
                    clear hown1 hgrow hat
                    go_roundg (gk - 1)
                    case measure => omega
                    case rel =>
                      refine ⟨j + 1, min ro (H' - (8) + ra), acc ++ [8], by omega, by go_num, by go_num, by omega, by omega, haf.out.symm, hsn.out.symm, ?_, hcf1, hcc1, ?_⟩
                      · simpa using HO.out
                      · exact (hbelq.alloc hbelq.size _).grown HW.out (by simp; omega) (fun k hk => by have := (hownq.lt k hk).1; omega))
              · have hx0 : wr.cell? ⟨w.heap.size + 1, 0, none⟩ = some (.int .i64 0) := by rw [hcc.cell]; rfl
                have hx1 : wr.cell? ⟨w.heap.size + 1, 1, none⟩ = some (.slice none 0 0) := by rw [hcc.cell]; rfl
                have hf0 := hcc.frozen 0
                have hf1 := hcc.frozen 1
                go_wp2_with fail
                have ht : l.take j = l := List.take_of_length_le (by omega)
                have hw : weightsB l = true := weightsB_yes hl1 hl2 HI.out
                have hac' : capsOf ra ro fi l = acc := by rw [hac.out, ht, HTe.out, hSe.out]; rfl
                refine bodyPost_ret (v := .tuple #[.slice A8 acc.length c8, .agg #[.int .i64 0, .slice none 0 0]]) (by simp [results, Tryd.results10, go_sem, hx0, hx1]) rfl ?_
                have hnb := own_notBlk hown hcc (by decide)
                have ho2 := ownsRow_setCell_other (ownsRow_setCell_other hown (a := ⟨w.heap.size + 1, 0, none⟩) hnb (.int .i64 0)) (a := ⟨w.heap.size + 1, 1, none⟩) hnb (.slice none 0 0)
                refine refOut_ok (by rw [capsR_yes hw, hac']) rfl (RdI.of_own ho2).1 ?_
                exact (hbel.setCell (by simp) _).setCell (by simp) _
    · have hres := Lib.hid (weightsB_no_len hlen)
      by_cases h0 : l.length < 1
      · have hd : decide ((l.length : Int) < 1) = true := by simp; omega
        clear hlen
        go_enter Tryd.func10, Tryd.ntmps10
        go_wp2_with (first
          | (go_at_call 18; refine (RMay_any _).mono ?_; rintro e w1 ⟨rfl, hb1⟩; have hcc : Blk w1 (w.heap.size + 1) 34 #[.int .i64 0, .slice none 0 0] := (by have := (Blk.new (w.alloc (cfgC qn qx re cu go ra ro fi)) 34 #[.int .i64 0, .slice none 0 0]).keep hb1; simpa using this); have hbA : Below w.heap.size w w1 := ((((Below.refl _ _).alloc (Nat.le_refl _) _).alloc (by simp) _).trans (hb1.mono (by simp; omega))))
          | (go_at_call 16; refine (Fail_any _ _).mono ?_; rintro e w2 ⟨rfl, hb2⟩; have hx0 : w2.cell? ⟨w.heap.size + 1, 0, none⟩ = some (.int .i64 0) := (by rw [(hcc.keep hb2).cell]; rfl); have hx1 : w2.cell? ⟨w.heap.size + 1, 1, none⟩ = some (.slice none 0 0) := (by rw [(hcc.keep hb2).cell]; rfl); have hf0 := (hcc.keep hb2).frozen 0; have hf1 := (hcc.keep hb2).frozen 1))
        refine bodyPost_ret (v := .tuple #[.slice none 0 0, .agg #[.int .i64 3, .slice none 0 0]]) (by simp [results, Tryd.results10, go_sem, hx0, hx1]) rfl ?_
        refine refOut_err (p := []) (c := 3) (capsR_no hres.out) rfl Rd.nil ?_
        exact ((hbA.trans (hb2.mono hbA.size)).setCell (by simp) _).setCell (by simp) _
      · have h16 : 16 < l.length := by omega
        clear hlen
        go_enter Tryd.func10, Tryd.ntmps10
        go_wp2_with (first
          | (go_at_call 18; refine (RMay_any _).mono ?_; rintro e w1 ⟨rfl, hb1⟩; have hcc : Blk w1 (w.heap.size + 1) 34 #[.int .i64 0, .slice none 0 0] := (by have := (Blk.new (w.alloc (cfgC qn qx re cu go ra ro fi)) 34 #[.int .i64 0, .slice none 0 0]).keep hb1; simpa using this); have hbA : Below w.heap.size w w1 := ((((Below.refl _ _).alloc (Nat.le_refl _) _).alloc (by simp) _).trans (hb1.mono (by simp; omega))))
          | (go_at_call 16; refine (Fail_any _ _).mono ?_; rintro e w2 ⟨rfl, hb2⟩; have hx0 : w2.cell? ⟨w.heap.size + 1, 0, none⟩ = some (.int .i64 0) := (by rw [(hcc.keep hb2).cell]; rfl); have hx1 : w2.cell? ⟨w.heap.size + 1, 1, none⟩ = some (.slice none 0 0) := (by rw [(hcc.keep hb2).cell]; rfl); have hf0 := (hcc.keep hb2).frozen 0; have hf1 := (hcc.keep hb2).frozen 1))
        refine bodyPost_ret (v := .tuple #[.slice none 0 0, .agg #[.int .i64 3, .slice none 0 0]]) (by simp [results, Tryd.results10, go_sem, hx0, hx1]) rfl ?_
        refine refOut_err (p := []) (c := 3) (capsR_no hres.out) rfl Rd.nil ?_
        exact ((hbA.trans (hb2.mono hbA.size)).setCell (by simp) _).setCell (by simp) _

end Go.Proofs.YtiaplanhlkndiaaDoor
