/- The contract of kinref18.Fills: what the document's bucket is filled with. -/
import Derived.Test.YthjcidpfiddeeaaDoorRefVbv
namespace Go.Proofs.YthjcidpfiddeeaaDoor
open Go Go.RowKit Go.Extern.Stop Go.Stop Go.Extern

set_option maxRecDepth 100000 in
set_option maxHeartbeats 2000000 in
theorem RFills_any {qn qx re cu go ra ro fi : Int} {A : Option Addr} {l : List Int} {c : Nat} (hl : l.length ≤ 9223372036854775807) (w : World) (ha : RdI .i64 w A l) :
    Calls Tryd.prog 14 #[.agg #[.int .i64 qn, .int .i64 qx, .int .i64 re, .int .i64 cu, .int .i64 go, .int .i64 ra, .int .i64 ro, .int .i64 fi], .slice A l.length c] w
      (RefOut w (bucketR (Vb.mayB qn qx re cu go ra ro fi) (Vb.sizesB l) (Vb.fills ra ro 0 fi l))) := by
  obtain ⟨i0, hi, hz0, hz1, hz2⟩ := info_parts intInfo
  have HA := Lib.hid ha
  clear ha
  have hcf0 := (Blk.new w 23 #[.int .i64 qn, .int .i64 qx, .int .i64 re, .int .i64 cu, .int .i64 go, .int .i64 ra, .int .i64 ro, .int .i64 fi]).alloc (.cells #[.int .i64 0, .slice none 0 0] 35)
  have hcc0 := Blk.new1 w (cfgC qn qx re cu go ra ro fi) 35 #[.int .i64 0, .slice none 0 0]
  have hbA0 : Below w.heap.size w ((w.alloc (cfgC qn qx re cu go ra ro fi)).alloc (.cells #[.int .i64 0, .slice none 0 0] 35)) := (((Below.refl _ _).alloc (Nat.le_refl _) _).alloc (by simp) _)
  obtain ⟨k, hk⟩ : ∃ k, asksC (Vb.mayB qn qx re cu go ra ro fi) (Vb.sizesB l) = k := ⟨_, rfl⟩
  by_cases hk0 : k = 0
  · subst hk0
    have hmay : Vb.mayB qn qx re cu go ra ro fi = true := by
      unfold asksC at hk
      split at hk
      · assumption
      · omega
    have hsz : Vb.sizesB l = true := by
      unfold asksC at hk
      rw [if_pos hmay] at hk
      split at hk
      · assumption
      · omega
    rw [hmay, hsz]
    have hs := sizesB_of hsz
    have HS := Lib.hid hs.2
    have hl4 := hs.1
    have hm := mayB_of hmay
    clear hs
    obtain ⟨_, _, _, _, _, _, _, _, _, hm1, hm2, hm3, hm4, hm5⟩ := hm
    go_enter Tryd.func14, Tryd.ntmps14
    go_wp2_with fail
    refine (asks_any hl _ (HA.out.keep hbA0)).mono ?_
    rw [hk]
    rintro e w1 ⟨rfl, hb1⟩
    have hcc := hcc0.keep hb1
    have hbA := hbA0.trans (hb1.mono hbA0.size)
    have hwz : w.heap.size + 1 < w1.heap.size := hcc.lt
    have hcf := hcf0.keep hb1
    clear hb1 hcf0 hcc0 hbA0 hmay hsz
    have hcc2 := (hcc.alloc (.cells #[.int .i64 0, .slice none 0 0] 35)).alloc (.cells #[.int .i64 0, .slice none 0 0] 35)
    have hee2 := (Blk.new w1 35 #[.int .i64 0, .slice none 0 0]).alloc (.cells #[.int .i64 0, .slice none 0 0] 35)
    have hbB := (hbA.alloc hbA.size (.cells #[.int .i64 0, .slice none 0 0] 35)).alloc (by simp; omega) (.cells #[.int .i64 0, .slice none 0 0] 35)
    have hcf2 := (hcf.alloc (.cells #[.int .i64 0, .slice none 0 0] 35)).alloc (.cells #[.int .i64 0, .slice none 0 0] 35)
    go_wp2_with fail
    refine (OK_any _ _ _).mono ?_
    rintro e w2 ⟨rfl, rfl⟩
    generalize ((w1.alloc (.cells #[.int .i64 0, .slice none 0 0] 35)).alloc (.cells #[.int .i64 0, .slice none 0 0] 35)) = w2 at *
    have hx0 : w2.cell? ⟨w.heap.size + 1, 0, none⟩ = some (.int .i64 0) := by rw [hcc2.cell]; rfl
    have hx1 : w2.cell? ⟨w.heap.size + 1, 1, none⟩ = some (.slice none 0 0) := by rw [hcc2.cell]; rfl
    have hf0 := hcc2.frozen 0
    have hf1 := hcc2.frozen 1
    have he0 : w2.cell? ⟨w1.heap.size, 0, none⟩ = some (.int .i64 0) := by rw [hee2.cell]; rfl
    have he1 : w2.cell? ⟨w1.heap.size, 1, none⟩ = some (.slice none 0 0) := by rw [hee2.cell]; rfl
    have hc7 : w2.cell? ⟨w.heap.size, 7, none⟩ = some (.int .i64 fi) := by rw [hcf2.cell]; rfl
    go_wp2_with fail
    go_loopg [7, 8, 9] l.length (fun k lv vh vi wr => ∃ (j : Nat) (H : Int) (acc : List Int), j + k = l.length ∧ vi = .int .i64 j ∧ vh = .int .i64 H ∧ 0 ≤ H ∧ H ≤ ro ∧ Hid (H = Vb.afterF ra ro fi (l.take j) ∧ Vb.fills ra ro 0 fi (l.take j) = .ok acc) ∧
      wr.ownsRow w.heap.size 3 1 lv acc.length (acc.map (Value.int .i64)) ∧ Blk wr w.heap.size 23 #[.int .i64 qn, .int .i64 qx, .int .i64 re, .int .i64 cu, .int .i64 go, .int .i64 ra, .int .i64 ro, .int .i64 fi] ∧
      Blk wr (w.heap.size + 1) 35 #[.int .i64 0, .slice none 0 0] ∧ Blk wr w1.heap.size 35 #[.int .i64 0, .slice none 0 0] ∧ Below w.heap.size w wr)
    case atStart => exact ⟨0, fi, [], by omega, rfl, rfl, by omega, by omega, ⟨rfl, rfl⟩, World.ownsRow_nil _ _ _ _, hcf2, hcc2, hee2, hbB⟩
    case round =>
      clear hx0 hx1 hf0 hf1 he0 he1 hc7 hcf2 hcc2 hee2 hbB hcf hcc
      obtain ⟨j, H, acc, hj, rfl, rfl, hH0, hH1, hq, hown, hcf, hcc, hee, hbel⟩ := hrel
      have hc5 : wr.cell? ⟨w.heap.size, 5, none⟩ = some (.int .i64 ra) := by rw [hcf.cell]; rfl
      have hwy := hee.lt
      by_cases hlt : j < l.length
      · obtain ⟨b2, o2, rfl, k0⟩ := HA.out.at_ hlt
        have k2 := cell_keep k0 hbel
        have hlt' : (j : Int) < (l.length : Int) := by omega
        obtain ⟨hv1, hv2⟩ := HS.out l[j] (List.getElem_mem hlt)
        obtain ⟨x, hx⟩ : ∃ x, l[j] = x := ⟨_, rfl⟩
        rw [hx] at k0 k2 hv1 hv2
        have K2 := Lib.hid k0
        clear k0
        have hx' := Lib.hid hx
        clear hx
        by_cases hd : x ≤ H
        · have hacc : acc.length ≤ 4096 := by have := Vb.fills_length hq.2; rw [this, List.length_take]; omega
          have hstep := Lib.hid (Vb.fills_step (rate := ra) (room := ro) hlt hq.2 (by have := hq.1; have := hx'.out; omega))
          have hsn := Lib.hid (show Vb.afterF ra ro fi (l.take (j + 1)) = min (H + ra - x) ro by rw [Vb.take_snoc l j hlt, Vb.afterF_snoc, ← hq.1, hx'.out])
          rw [← hq.1, hx'.out] at hstep
          obtain ⟨A8, c8, rfl⟩ := own_slice hown
          have HQ := Lib.hid hq
          have hc6 : wr.cell? ⟨w.heap.size, 6, none⟩ = some (.int .i64 ro) := by rw [hcf.cell]; rfl
          clear hq
          by_cases hmx : H - x + ra - ro < 0
          · go_wp2_with fail
            go_quiet (fail)
            all_goals (
              have hbelq : Below w.heap.size w (wr.drewN nq) := below_drewN hbel nq
              have hcfq := hcf.drewN nq
              have hccq := hcc.drewN nq
              have heeq := hee.drewN nq
              have hownq : (wr.drewN nq).ownsRow w.heap.size 3 1 (.slice A8 acc.length c8) acc.length (acc.map (Value.int .i64)) := hown
              have hwyq : w1.heap.size < (wr.drewN nq).heap.size := hwy
              generalize wr.drewN nq = wq at *
              clear hown hcf hcc hee hbel hc5 hc6 k2 hwy)
            all_goals (
              go_wp2_with (at_builtin; refine wpList_append_lies _ rfl (.tmp 47) (.tmp 49) _ rfl w.heap.size 3 i0 _ 1 8 Tryd.underlying24 hi hz0 hz1 hz2 rfl (by omega) (.slice A8 acc.length c8) acc.length _ rfl (hownq.alloc _) ⟨wq.heap.size, 0, none⟩ 1 1 [.int .i64 (0)] rfl rfl (World.news_of_block (cs := #[.int .i64 (0)]) (t := 3) (fr := (0, 0)) (heap_alloc_new wq _)) (by simp [Value.oneCell']) (by omega) (by unfold maxLen; omega) (by omega) (by simp; omega) _ rfl ?_; intro g cap w1' hown1 hgrow hat hlt1)
              have hbl1 : Below w.heap.size w w1' := (hbelq.alloc hbelq.size _).grown hgrow (by simp; omega) (fun k hk => by have := (hownq.lt k hk).1; omega)
              have hcf1 := (hcfq.alloc (.cells #[.int .i64 (0)] 3)).grown hgrow (Ne.symm (own_notBlk hownq hcfq (by decide)))
              have hcc1 := (hccq.alloc (.cells #[.int .i64 (0)] 3)).grown hgrow (Ne.symm (own_notBlk hownq hccq (by decide)))
              have hee1 := (heeq.alloc (.cells #[.int .i64 (0)] 3)).grown hgrow (Ne.symm (own_notBlk hownq heeq (by decide)))
              have k3 := cell_keep (K2.out) hbl1
              have hc5' : w1'.cell? ⟨w.heap.size, 5, none⟩ = some (.int .i64 ra) := by rw [hcf1.cell]; rfl
              have HO := Lib.hid hown1
              clear hown1 hgrow hat
              go_quiet (fail)
              have hblq := below_drewN hbl1 nq
              have HOQ : Hid ((w1'.drewN nq).ownsRow w.heap.size 3 1 _ _ _) := Lib.hid (HO.out)
              have hcfr := hcf1.drewN nq
              have hccr := hcc1.drewN nq
              have heer := hee1.drewN nq
              generalize w1'.drewN nq = wz at *
              clear hcf1 hcc1 hee1 hc5' k3 HO hbl1
              go_wp2_with fail
              go_roundg (gk - 1)
              case measure => omega
              case rel =>
                refine ⟨j + 1, H - x - 0 + ra, acc ++ [0], by omega, by go_num, by go_num, by omega, by omega, ⟨?_, ?_⟩, ?_, hcfr, hccr, heer, hblq⟩
                · rw [hsn.out]; omega
                · rw [hstep.out]; simp; omega
                · simpa using HOQ.out)
          · have hmx' : 0 ≤ H - x + ra - ro := by omega
            clear hmx
            go_wp2_with fail
            go_quiet (fail)
            all_goals (
              have hbelq : Below w.heap.size w (wr.drewN nq) := below_drewN hbel nq
              have hcfq := hcf.drewN nq
              have hccq := hcc.drewN nq
              have heeq := hee.drewN nq
              have hownq : (wr.drewN nq).ownsRow w.heap.size 3 1 (.slice A8 acc.length c8) acc.length (acc.map (Value.int .i64)) := hown
              have hwyq : w1.heap.size < (wr.drewN nq).heap.size := hwy
              generalize wr.drewN nq = wq at *
              clear hown hcf hcc hee hbel hc5 hc6 k2 hwy)
            all_goals (
              go_wp2_with (at_builtin; refine wpList_append_lies _ rfl (.tmp 47) (.tmp 49) _ rfl w.heap.size 3 i0 _ 1 8 Tryd.underlying24 hi hz0 hz1 hz2 rfl (by omega) (.slice A8 acc.length c8) acc.length _ rfl (hownq.alloc _) ⟨wq.heap.size, 0, none⟩ 1 1 [.int .i64 (H - x + ra - ro)] rfl rfl (World.news_of_block (cs := #[.int .i64 (H - x + ra - ro)]) (t := 3) (fr := (0, 0)) (heap_alloc_new wq _)) (by simp [Value.oneCell']) (by omega) (by unfold maxLen; omega) (by omega) (by simp; omega) _ rfl ?_; intro g cap w1' hown1 hgrow hat hlt1)
              have hbl1 : Below w.heap.size w w1' := (hbelq.alloc hbelq.size _).grown hgrow (by simp; omega) (fun k hk => by have := (hownq.lt k hk).1; omega)
              have hcf1 := (hcfq.alloc (.cells #[.int .i64 (H - x + ra - ro)] 3)).grown hgrow (Ne.symm (own_notBlk hownq hcfq (by decide)))
              have hcc1 := (hccq.alloc (.cells #[.int .i64 (H - x + ra - ro)] 3)).grown hgrow (Ne.symm (own_notBlk hownq hccq (by decide)))
              have hee1 := (heeq.alloc (.cells #[.int .i64 (H - x + ra - ro)] 3)).grown hgrow (Ne.symm (own_notBlk hownq heeq (by decide)))
              have k3 := cell_keep (K2.out) hbl1
              have hc5' : w1'.cell? ⟨w.heap.size, 5, none⟩ = some (.int .i64 ra) := by rw [hcf1.cell]; rfl
              have HO := Lib.hid hown1
              clear hown1 hgrow hat
              go_quiet (fail)
              have hblq := below_drewN hbl1 nq
              have HOQ : Hid ((w1'.drewN nq).ownsRow w.heap.size 3 1 _ _ _) := Lib.hid (HO.out)
              have hcfr := hcf1.drewN nq
              have hccr := hcc1.drewN nq
              have heer := hee1.drewN nq
              generalize w1'.drewN nq = wz at *
              clear hcf1 hcc1 hee1 hc5' k3 HO hbl1
              go_wp2_with fail
              go_roundg (gk - 1)
              case measure => omega
              case rel =>
                refine ⟨j + 1, H - x - (H - x + ra - ro) + ra, acc ++ [H - x + ra - ro], by omega, by go_num, by go_num, by omega, by omega, ⟨?_, ?_⟩, ?_, hcfr, hccr, heer, hblq⟩
                · rw [hsn.out]; omega
                · rw [hstep.out]; simp; omega
                · simpa using HOQ.out)
        · have hd' : H < x := by omega
          have hres := Lib.hid (Vb.fills_dry (rate := ra) (room := ro) hlt hq.2 (by have := hq.1; have := hx'.out; omega))
          clear hd
          go_wp2_with fail
          refine (Wrap_any sVbv _ (c := 14) (by omega) _).mono ?_
          rintro e w3 ⟨A3, c3, rfl, hr3, hfar, hb3⟩
          have hcc3 := hcc.keep hb3
          have hx0 : w3.cell? ⟨w.heap.size + 1, 0, none⟩ = some (.int .i64 0) := by rw [hcc3.cell]; rfl
          have hx1 : w3.cell? ⟨w.heap.size + 1, 1, none⟩ = some (.slice none 0 0) := by rw [hcc3.cell]; rfl
          have hf0 := hcc3.frozen 0
          have hf1 := hcc3.frozen 1
          go_wp2_with fail
          refine bodyPost_ret (v := .tuple #[.slice none 0 0, .agg #[.int .i64 14, .slice A3 1 c3]]) (by simp [results, Tryd.results14, go_sem, hx0, hx1]) rfl ?_
          refine refOut_err (p := [(sVbv, (j : Int))]) (bucketR_err hres.out) rfl ?_ (((hbel.trans (hb3.mono hbel.size)).setCell (by simp) _).setCell (by simp) _)
          exact (hr3.far (fun a ha => by have := hfar a ha; simp; omega) _).far (fun a ha => by have := hfar a ha; simp; omega) _
      · have ht : l.take j = l := List.take_of_length_le (by omega)
        obtain ⟨A2, c2, rfl⟩ := own_slice hown
        have h2 := hq.2
        rw [ht] at h2
        have H2 := Lib.hid h2
        have hn2 := own_notBlk hown hcc (by decide)
        have hr2 := (RdI.of_own hown).1
        have hx0 : wr.cell? ⟨w.heap.size + 1, 0, none⟩ = some (.int .i64 0) := by rw [hcc.cell]; rfl
        have hx1 : wr.cell? ⟨w.heap.size + 1, 1, none⟩ = some (.slice none 0 0) := by rw [hcc.cell]; rfl
        have hf0 := hcc.frozen 0
        have hf1 := hcc.frozen 1
        have he0 : wr.cell? ⟨w1.heap.size, 0, none⟩ = some (.int .i64 0) := by rw [hee.cell]; rfl
        have he1 : wr.cell? ⟨w1.heap.size, 1, none⟩ = some (.slice none 0 0) := by rw [hee.cell]; rfl
        clear h2 hq ht
        go_wp2_with fail
        go_region
        all_goals (
          go_wp2_with fail
          refine bodyPost_ret (v := .tuple #[.slice A2 acc.length c2, .agg #[.int .i64 0, .slice none 0 0]]) (by simp [results, Tryd.results14, go_sem, hx0, hx1]) rfl ?_
          refine refOut_ok (bucketR_ok H2.out) rfl ?_ (below_drewN ((hbel.setCell (by simp) _).setCell (by simp) _) 1)
          have hne : ∀ a, A2 = some a → a.block ≠ w.heap.size + 1 := fun a ha h => hn2 (by subst ha; simp [Value.ownBlock, h])
          exact (Rd.far (Rd.far hr2 hne _) hne _).drewN 1)
  · have hk1 : (k == 0) = false := by simpa using hk0
    have HR := Lib.hid (show bucketR (Vb.mayB qn qx re cu go ra ro fi) (Vb.sizesB l) (Vb.fills ra ro 0 fi l) = .error ([], k) by
      subst hk
      unfold asksC at hk0 ⊢
      unfold bucketR
      split <;> (try split) <;> simp_all)
    go_enter Tryd.func14, Tryd.ntmps14
    go_wp2_with fail
    refine (asks_any hl _ (HA.out.keep hbA0)).mono ?_
    rw [hk]
    rintro e w1 ⟨rfl, hb1⟩
    have hcc := hcc0.keep hb1
    have hbA := hbA0.trans (hb1.mono hbA0.size)
    have hwz : w.heap.size + 1 < w1.heap.size := hcc.lt
    clear hb1 hcf0 hcc0 hbA0
    have hcc2 := (hcc.alloc (.cells #[.int .i64 k, .slice none 0 0] 35)).alloc (.cells #[.int .i64 k, .slice none 0 0] 35)
    have hee2 := (Blk.new w1 35 #[.int .i64 k, .slice none 0 0]).alloc (.cells #[.int .i64 k, .slice none 0 0] 35)
    have hbB := (hbA.alloc hbA.size (.cells #[.int .i64 k, .slice none 0 0] 35)).alloc (by simp; omega) (.cells #[.int .i64 k, .slice none 0 0] 35)
    go_wp2_with fail
    refine (OK_any _ _ _).mono ?_
    rintro e w2 ⟨rfl, rfl⟩
    generalize ((w1.alloc (.cells #[.int .i64 k, .slice none 0 0] 35)).alloc (.cells #[.int .i64 k, .slice none 0 0] 35)) = w2 at *
    have hx0 : w2.cell? ⟨w.heap.size + 1, 0, none⟩ = some (.int .i64 0) := by rw [hcc2.cell]; rfl
    have hx1 : w2.cell? ⟨w.heap.size + 1, 1, none⟩ = some (.slice none 0 0) := by rw [hcc2.cell]; rfl
    have hf0 := hcc2.frozen 0
    have hf1 := hcc2.frozen 1
    have he0 : w2.cell? ⟨w1.heap.size, 0, none⟩ = some (.int .i64 k) := by rw [hee2.cell]; rfl
    have he1 : w2.cell? ⟨w1.heap.size, 1, none⟩ = some (.slice none 0 0) := by rw [hee2.cell]; rfl
    go_wp2_with fail
    go_region
    all_goals (
      go_wp2_with fail
      refine bodyPost_ret (v := .tuple #[.slice none 0 0, .agg #[.int .i64 k, .slice none 0 0]]) (by simp [results, Tryd.results14, go_sem, hx0, hx1]) rfl ?_
      exact refOut_err (p := []) HR.out rfl Rd.nil (below_drewN ((hbB.setCell (by simp) _).setCell (by simp) _) 1))
end Go.Proofs.YthjcidpfiddeeaaDoor
