/- The walk of kinlaw19.AllocSums: it returns true, whatever the input. -/
import Derived.Test.YtiaplanhlkndiaaDoorAllocCaps
import Derived.Deep.RegionWith
import Derived.BigQuiet
import Derived.Test.YtiaplanhlkndiaaDoorQuiet
namespace Go.Proofs.YtiaplanhlkndiaaDoor
open Go Go.RowKit Go.Extern.Stop Go.Stop Go.Extern

theorem RdI.drew {k : IntKind} {w : World} {A : Option Addr} {l : List Int} (h : RdI k w A l) : RdI k w.drew A l := h

theorem capsR_of_ok {ra ro fi : Int} {l m : List Int} {may : Bool} (h : capsR may ra ro fi l = .ok m) : may = true ∧ weightsB l = true ∧ m = capsOf ra ro fi l := by
  unfold capsR at h
  split at h
  · next h1 =>
    split at h
    · next h2 => cases h; exact ⟨h1, h2, rfl⟩
    · cases h
  · cases h

theorem sumL_pos {l : List Int} (h0 : 1 ≤ l.length) (h : ∀ n ∈ l, 1 ≤ n ∧ n ≤ 16777216) : 1 ≤ Vb.sumL l := by
  have := Vb.sumL_bd l h
  omega

theorem capsOf_mem {ra ro fi : Int} {l : List Int} (hr : 8 ≤ ra) (hm : 8 ≤ ro) (h1 : 8 ≤ fi) (h2 : fi ≤ ro) (k : Nat) (hk : k < l.length) (hc : k < (capsOf ra ro fi l).length) : 8 ≤ (capsOf ra ro fi l)[k] ∧ (capsOf ra ro fi l)[k] ≤ ro := by
  have := Vb.caps_bd (T := fi + ((l.length : Int) - 1) * ra) (S := Vb.sumL l) hr hm h1 h2 k hk hc
  unfold capsOf at *
  omega

theorem weights_twice {l : List Int} (h : weightsB l = true) : weightsB (l.map fun n => 2 * n) = Vb.within 1 8388608 l := by
  obtain ⟨h1, h2, h3⟩ := weightsB_of h
  cases hw : Vb.within 1 8388608 l with
  | true =>
    have h4 := (Vb.within_iff _ _ _).1 hw
    refine weightsB_yes (by simpa using h1) (by simpa using h2) (fun n hn => ?_)
    obtain ⟨x, hx, rfl⟩ := List.mem_map.1 hn
    have := h4 x hx
    omega
  | false =>
    rw [Bool.eq_false_iff]
    intro h5
    have h6 := (weightsB_of h5).2.2
    have : Vb.within 1 8388608 l = true := (Vb.within_iff _ _ _).2 fun n hn => by
      have := h6 (2 * n) (List.mem_map.2 ⟨n, hn, rfl⟩)
      have := h3 n hn
      omega
    rw [hw] at this
    cases this

theorem capsOf_twice (ra ro fi : Int) (l : List Int) : capsOf ra ro fi (l.map fun n => 2 * n) = capsOf ra ro fi l := by
  unfold capsOf
  rw [List.length_map, Vb.sumL_twice, Vb.caps_twice]

set_option maxRecDepth 100000 in
set_option maxHeartbeats 1000000 in
theorem AllocSums_walk {qn qx re cu go ra ro fi : Int} {A : Option Addr} {l : List Int} {c : Nat} (hl : l.length ≤ 9223372036854775807) (w : World) (hg : Gl w) (ha : RdI .i64 w A l) :
    Calls Tryd.prog 4 #[.agg #[.int .i64 qn, .int .i64 qx, .int .i64 re, .int .i64 cu, .int .i64 go, .int .i64 ra, .int .i64 ro, .int .i64 fi], .slice A l.length c] w
      fun e w' => e = .returned (.bool true) ∧ Below w.heap.size w w' := by
  obtain ⟨i0, hi, hz0, hz1, hz2⟩ := info_parts intInfo
  have HG := Lib.hid hg
  have HA := Lib.hid ha
  clear hg ha
  have hb0 : Below w.heap.size w (w.alloc (cfgC qn qx re cu go ra ro fi)) := (Below.refl _ _).alloc (Nat.le_refl _) _
  by_cases h5 : l.length ≤ 5000
  · go_enter Tryd.func4, Tryd.ntmps4
    go_wp2_with fail
    refine (first_true _ (HG.out.keep hb0)).mono ?_
    rintro e w1 ⟨rfl, hb1⟩
    have hbA : Below w.heap.size w w1 := hb0.trans (hb1.mono hb0.size)
    have hcf := (Blk.new w 23 #[.int .i64 qn, .int .i64 qx, .int .i64 re, .int .i64 cu, .int .i64 go, .int .i64 ra, .int .i64 ro, .int .i64 fi]).keep hb1
    clear hb1 hb0
    obtain ⟨a0, a1, a2, a3, a4, a5, a6, a7⟩ := cfg_cells hcf
    go_wp2_with fail
    cases hr : capsR (Vb.mayB qn qx re cu go ra ro fi) ra ro fi l with
    | error x =>
      obtain ⟨p, k⟩ := x
      obtain ⟨rfl, hk⟩ := capsR_err hr
      have HR := Lib.hid hr
      clear hr
      refine (Caps_any hl _ (HA.out.keep hbA)).mono ?_
      rw [HR.out]
      rintro e w3 ⟨v3, rfl, he3, hb3⟩
      obtain rfl : v3 = _ := he3
      have hbC : Below w.heap.size w w3 := hbA.trans (hb3.mono hbA.size)
      clear a0 a1 a2 a3 a4 a5 a6 a7
      go_wp2_with fail
      refine (first_true _ (HG.out.keep hbC)).mono ?_
      rintro e w4 ⟨rfl, hb4⟩
      go_wp2_with fail
      go_ret
      exact ⟨rfl, hbC.trans (hb4.mono hbC.size)⟩
    | ok m =>
      have HR := Lib.hid hr
      have hml := capsR_len hr
      obtain ⟨hmay, hwt, hme⟩ := capsR_of_ok hr
      obtain ⟨_, _, _, _, _, _, _, _, _, hm1, hm2, hm3, hm4, hm5⟩ := mayB_of hmay
      obtain ⟨hl1, hl2, hin⟩ := weightsB_of hwt
      have HME := Lib.hid hme
      have HIN := Lib.hid hin
      have HWT := Lib.hid hwt
      have HML := Lib.hid hml
      have HMAY := Lib.hid hmay
      clear hr hmay hwt hme hin hml
      refine (Caps_any hl _ (HA.out.keep hbA)).mono ?_
      rw [HR.out]
      rintro e w3 ⟨A3, c3, rfl, hr3, hb3⟩
      have hbC : Below w.heap.size w w3 := hbA.trans (hb3.mono hbA.size)
      have hcf3 := hcf.keep hb3
      clear a0 a1 a2 a3 a4 a5 a6 a7 hbA hb3
      have hd1 : decide ((16 : Int) < (l.length : Int)) = false := by simp; omega
      have hd2 : ((m.length : Int) != (l.length : Int)) = false := by rw [HML.out]; simp
      go_wp2_with fail
      go_loopg [8, 9, 10] l.length (fun k vs lv vi wr => ∃ (j : Nat) (S : Int) (acc : List Int), j + k = l.length ∧ vi = .int .i64 j ∧ vs = .int .i64 S ∧ 0 ≤ S ∧ S ≤ j * 16384 ∧ Hid (S = Vb.sumL (m.take j)) ∧ Hid (acc.length = j) ∧ Hid (acc = (l.take j).map (fun n => 2 * n)) ∧
        wr.ownsRow w3.heap.size 3 1 lv acc.length (acc.map (Value.int .i64)) ∧ Below w3.heap.size w3 wr)
      case atStart => exact ⟨0, 0, [], by omega, rfl, rfl, by omega, by omega, rfl, rfl, rfl, World.ownsRow_nil _ _ _ _, Below.refl _ _⟩
      case round =>
        obtain ⟨j, S, acc, hj, rfl, rfl, hS0, hS1, hS, hac, hae, hown, hbel⟩ := hrel
        have hac16 : acc.length ≤ 16 := by have := hac.out; omega
        by_cases hlt : j < l.length
        · obtain ⟨b2, o2, rfl, k2⟩ := (HA.out.keep (hbC.trans (hbel.mono hbC.size))).at_ hlt
          obtain ⟨b3, o3, rfl, k3⟩ := (hr3.keep hbel).at_ (show j < m.length by have := HML.out; omega)
          have hlt' : (j : Int) < (l.length : Int) := by omega
          have hlt2 : (j : Int) < (m.length : Int) := by have := HML.out; omega
          obtain ⟨hx0, hx1⟩ := HIN.out l[j] (List.getElem_mem hlt)
          have hjm : j < m.length := by have := HML.out; omega
          obtain ⟨hy0, hy1⟩ : 8 ≤ m[j] ∧ m[j] ≤ ro := by
            have h := capsOf_mem (ra := ra) (ro := ro) (fi := fi) (l := l) (by omega) (by omega) (by omega) (by omega) j hlt (by rw [← HME.out]; have := HML.out; omega)
            simp only [← HME.out] at h
            exact h
          have hsum := Lib.hid (Vb.sumL_snoc m j (by have := HML.out; omega))
          have htw := Lib.hid (show (l.take (j + 1)).map (fun n => 2 * n) = acc ++ [2 * l[j]] by rw [Vb.take_snoc l j hlt, List.map_append, ← hae.out]; rfl)
          rw [← hS.out] at hsum
          obtain ⟨x, hx⟩ : ∃ x, l[j] = x := ⟨_, rfl⟩
          obtain ⟨y, hy⟩ : ∃ y, m[j] = y := ⟨_, rfl⟩
          rw [hx] at k2 hx0 hx1 htw
          rw [hy] at k3 hy0 hy1 hsum
          clear hx hy
          obtain ⟨A8, c8, rfl⟩ := own_slice hown
          have hwz := hown.lt
          have hsz := hbel.size
          have hb3z := hbC.size
          have hb16 : S + y ≤ ((j : Int) + 1) * 16384 := by omega
          go_wp2_with (at_builtin; refine wpList_append_lies _ rfl (.tmp 58) (.tmp 64) _ rfl w3.heap.size 3 i0 _ 1 8 Tryd.underlying24 hi hz0 hz1 hz2 rfl (by omega) (.slice A8 acc.length c8) acc.length _ rfl (hown.alloc _) ⟨wr.heap.size, 0, none⟩ 1 1 [.int .i64 (2 * x)] rfl rfl (World.news_of_block (cs := #[.int .i64 (2 * x)]) (t := 3) (fr := (0, 0)) (heap_alloc_new wr _)) (by simp [Value.oneCell']) (by omega) (by unfold maxLen; omega) (by omega) (by simp; omega) _ rfl ?_; intro g cap w1' hown1 hgrow hat hlt1)
          have HO := Lib.hid hown1
          have HW := Lib.hid hgrow
          clear hown1 hgrow hat
          go_roundg (gk - 1)
          case measure => omega
          case rel =>
            refine ⟨j + 1, S + y, acc ++ [2 * x], by omega, by go_num, rfl, by omega, by omega, hsum.out.symm, Lib.hid (show (acc ++ [2 * x]).length = j + 1 by have := hac.out; simpa using this), htw.out.symm, ?_, ?_⟩
            · simpa using HO.out
            · exact (hbel.alloc hbel.size _).grown HW.out (by simp; omega) (fun k hk => by have := (hown.lt k hk).1; omega)
        · have ht : l.take j = l := List.take_of_length_le (by omega)
          have hSe : Hid (S = Vb.sumL m) := by rw [List.take_of_length_le (by have := HML.out; omega)] at hS; exact hS
          have hae' : Hid (acc = l.map (fun n => 2 * n)) := by rw [ht] at hae; exact hae
          clear ht hS hae
          obtain ⟨A8, c8, rfl⟩ := own_slice hown
          have hM := mul_bd (a := (l.length : Int) - 1) (b := ra) (A := 15) (B := 16384) (by omega) (by omega) (by omega) (by omega)
          have hle := Lib.hid (show S ≤ fi + ((l.length : Int) - 1) * ra + 8 * (l.length : Int) by
            have h := Vb.caps_sum (T := fi + ((l.length : Int) - 1) * ra) (rate := ra) (room := ro) (has := fi) (l := l) (by omega) (fun n hn => by have := HIN.out n hn; omega) (by have := sumL_pos hl1 HIN.out; omega)
            rw [hSe.out, HME.out]
            exact h)
          obtain ⟨M, hMe⟩ : ∃ M, ((l.length : Int) - 1) * ra = M := ⟨_, rfl⟩
          obtain ⟨T, hTe⟩ : ∃ T, fi + M = T := ⟨_, rfl⟩
          rw [hMe] at hM hle
          rw [hTe] at hle
          obtain ⟨hM0, hM1⟩ := hM
          have hT0 : 0 ≤ T := by omega
          have hT1 : T ≤ 262144 := by omega
          have hcfr := hcf3.keep hbel
          obtain ⟨a0, a1, a2, a3, a4, a5, a6, a7⟩ := cfg_cells hcfr
          have hbR : Below w.heap.size w wr := hbC.trans (hbel.mono hbC.size)
          have hra := (RdI.of_own hown).1
          go_wp2_with fail
          have hw2 := weights_twice HWT.out
          rw [← hae'.out] at hw2
          cases hwi : Vb.within 1 8388608 l with
          | true =>
            have hR2 : capsR (Vb.mayB qn qx re cu go ra ro fi) ra ro fi acc = .ok m := by
              rw [HMAY.out, capsR_yes (hw2.trans hwi), hae'.out, capsOf_twice, HME.out]
            refine (Caps_any (by omega) _ hra).mono ?_
            rw [hR2]
            rintro e w5 ⟨A5, c5, rfl, hr5, hb5⟩
            have hbS : Below w.heap.size w w5 := hbR.trans (hb5.mono hbR.size)
            have hr35 := (hr3.keep hbel).keep hb5
            have hml9 : m.length ≤ 9223372036854775807 := by have := HML.out; omega
            have hle' := hle.out
            have hd3 : decide (S ≤ IntKind.i64.wrap (T + IntKind.i64.wrap (8 * (l.length : Int)))) = true := by rw [IntWalk.i64_in (8 * (l.length : Int)) (by omega), IntWalk.i64_in _ (by omega)]; exact decide_eq_true hle'
            have HWI := Lib.hid hwi
            have H2 := Lib.hid hw2
            clear a0 a1 a2 a3 a4 a5 a6 a7 hwi hw2 hR2 hra
            go_wp2_with fail
            go_region_held3 (fun W => True)
              (first | trivial | go_keep)
              (first
                | (go_at_call 7; refine (first_true _ (HG.out.keep hbS.drew)).mono ?_; rintro e w8 ⟨rfl, hb8⟩)
                | (go_at_call 11; refine (Ints_same hml9 _ (hr5.drew.keep hb8) (hr35.drew.keep hb8)).mono ?_; rintro e w9 ⟨rfl, hb9⟩)
                | (go_at_call 13; refine (Within_any hl _ (HA.out.keep ((hbS.drew.trans (hb8.mono hbS.drew.size)).trans (hb9.mono (hbS.drew.trans (hb8.mono hbS.drew.size)).size)))).mono ?_; rw [HWI.out]; rintro e w10 ⟨rfl, rfl⟩))
            go_wp2_with fail
            go_ret
            refine ⟨rfl, ?_⟩
            exact (hbS.drew.trans (hb8.mono hbS.drew.size)).trans (hb9.mono (hbS.drew.trans (hb8.mono hbS.drew.size)).size)
          | false =>
            have hR2 : capsR (Vb.mayB qn qx re cu go ra ro fi) ra ro fi acc = .error ([], 3) := by
              rw [HMAY.out, capsR_no (hw2.trans hwi)]
            refine (Caps_any (by omega) _ hra).mono ?_
            rw [hR2]
            rintro e w5 ⟨v5, rfl, he5, hb5⟩
            obtain rfl : v5 = _ := he5
            have hbS : Below w.heap.size w w5 := hbR.trans (hb5.mono hbR.size)
            have hle' := hle.out
            obtain ⟨E8, hE8⟩ : ∃ E8, IntKind.i64.wrap (T + IntKind.i64.wrap (8 * (l.length : Int))) = E8 := ⟨_, rfl⟩
            have hd3 : decide (S ≤ E8) = true := by rw [← hE8, IntWalk.i64_in (8 * (l.length : Int)) (by omega), IntWalk.i64_in _ (by omega)]; exact decide_eq_true hle'
            clear hle'
            have HWI := Lib.hid hwi
            have H2 := Lib.hid hw2
            clear a0 a1 a2 a3 a4 a5 a6 a7 hwi hw2 hR2 hra
            go_wp2_with fail
            have D1 : ∀ w', Below w5.heap.size w5 w' → Calls Tryd.prog 7 #[] w' fun e w'' => e = .returned (.bool true) ∧ Below w'.heap.size w' w'' := fun w' hb => first_true w' (HG.out.keep (hbS.trans (hb.mono hbS.size)))
            have D2 : ∀ w', Below w5.heap.size w5 w' → Calls Tryd.prog 13 #[.slice A l.length c, .int .i64 1, .int .i64 8388608] w' fun e w'' => e = .returned (.bool false) ∧ Below w'.heap.size w' w'' := fun w' hb =>
              (Within_any (a := 1) (b := 8388608) (c := c) hl w' (HA.out.keep (hbS.trans (hb.mono hbS.size)))).mono fun e w'' h => ⟨by rw [← HWI.out]; exact h.1, h.2 ▸ Below.refl _ _⟩
            have C1 := Lib.hid (Calls.grown D1)
            have C2 := Lib.hid (Calls.grown D2)
            clear D1 D2
            refine hq_start (by kernel_rfl) (by kernel_rfl) ?_
            repeat (
              refine hq_step (fun K hK => ?_)
              go_simp
              first
                | (refine hK _ ?_; clear hK K)
                | (apply Exists.intro
                   refine ⟨fun _ => ?_, hK _ ?_⟩
                   · first | exact C1.out _ | exact C2.out _
                   clear hK K))
            refine hq_nil ?_
            intro wq hwq
            have hbq := hwq.below
            go_wp2_with fail
            go_ret
            exact ⟨rfl, hbS.trans (hbq.mono hbS.size)⟩
  · go_enter Tryd.func4, Tryd.ntmps4
    go_wp2_with fail
    refine (first_true _ (HG.out.keep hb0)).mono ?_
    rintro e w1 ⟨rfl, hb1⟩
    have hbA : Below w.heap.size w w1 := hb0.trans (hb1.mono hb0.size)
    go_wp2_with fail
    refine (first_true _ (HG.out.keep hbA)).mono ?_
    rintro e w2 ⟨rfl, hb2⟩
    go_wp2_with fail
    go_ret
    exact ⟨rfl, hbA.trans (hb2.mono hbA.size)⟩

end Go.Proofs.YtiaplanhlkndiaaDoor
