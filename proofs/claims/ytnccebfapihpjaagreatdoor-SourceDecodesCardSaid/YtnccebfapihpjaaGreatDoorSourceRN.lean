/- Contract of kinref15.Encode: frames that may not be. -/
import Derived.Test.YtnccebfapihpjaaGreatDoorSourceRE
import Derived.Test.YtnccebfapihpjaaGreatDoorFrames
import Derived.Test.YtnccebfapihpjaaGreatDoorBitsRef3
namespace Go.Proofs.YtnccebfapihpjaaGreatDoor
open Go Go.RowKit Go.Extern.Stop Go.Stop Go.Extern

/-- A cell of two that holds an error of the document's, written. -/
theorem er_set {w : World} {z : Nat} {a b a' b' : Value} (h : Blk w z 34 #[a, b]) :
    Chg (fun i => i = z) w ((w.setCell ⟨z, 0, none⟩ a').setCell ⟨z, 1, none⟩ b') ∧ Blk ((w.setCell ⟨z, 0, none⟩ a').setCell ⟨z, 1, none⟩ b') z 34 #[a', b'] :=
  ⟨((Chg.refl (fun i => i = z) w).setCell (p := ⟨z, 0, none⟩) (fun _ => rfl) _).setCell (p := ⟨z, 1, none⟩) (fun _ => rfl) _,
    by have := (h.store 0 a').store 1 b'; simpa using this⟩
theorem er_cells {w : World} {z : Nat} {a b : Value} (h : Blk w z 34 #[a, b]) :
    (w.cell? ⟨z, 0, none⟩ = some a ∧ w.cell? ⟨z, 1, none⟩ = some b) ∧ w.frozen? ⟨z, 0, none⟩ = false ∧ w.frozen? ⟨z, 1, none⟩ = false :=
  ⟨⟨by rw [h.cell]; rfl, by rw [h.cell]; rfl⟩, h.frozen 0, h.frozen 1⟩

/-- What is behind the checks: the document's Encode goes on; what it says of frames that may not be. -/
def REncNo (W : World) (k : Int) (e : Ending) (w' : World) : Prop := e = .returned (.tuple #[.slice none 0 0, .agg #[.int .i64 k, .slice none 0 0]]) ∧ Below W.heap.size W w'

set_option maxRecDepth 100000 in
set_option maxHeartbeats 2000000 in
theorem REncode_no {l : List Frm} {A : Option Addr} {c : Nat} (hl : l.length ≤ 1000000) (W : World) (ha : RdF W A l) (hne : checkF l ≠ 0) :
    Calls Tryz.prog 9 #[.slice A l.length c] W (REncNo W (checkF l)) := by
  have HA := Lib.hid ha
  have hb0 : Below W.heap.size W (W.alloc (.cells #[.int .i64 0, .slice none 0 0] 34)) := (Below.refl _ _).alloc (Nat.le_refl _) _
  have hZ0 := Blk.new W 34 #[.int .i64 0, .slice none 0 0]
  have HB0 := Lib.hid hb0
  have HZ0 := Lib.hid hZ0
  clear ha hb0 hZ0
  rcases l with _ | ⟨f, r⟩
  · clear hne
    go_enter Tryz.func9, Tryz.ntmps9
    go_wp2_with fail
    refine (Fail_any 2 _).mono ?_
    rintro e w1 ⟨rfl, hb1⟩
    have hz1 := HZ0.out.keep hb1
    obtain ⟨⟨r0, r1⟩, f0, f1⟩ := er_cells hz1
    obtain ⟨hc3, hr3⟩ := er_set (a' := .int .i64 2) (b' := .slice none 0 0) hz1
    obtain ⟨⟨s0, s1⟩, _⟩ := er_cells hr3
    have HB1 := Lib.hid (HB0.out.trans (hb1.mono HB0.out.size))
    have HC3 := Lib.hid hc3
    clear hb1 hz1 hc3 hr3
    go_wp2_with fail
    refine bodyPost_ret (v := .tuple #[.slice none 0 0, .agg #[.int .i64 2, .slice none 0 0]]) (by simp [results, Tryz.results9, go_sem, s0, s1]) rfl ?_
    exact ⟨rfl, HB1.out.trans (HC3.out.below HB1.out.size (fun i e => by omega))⟩
  · obtain ⟨l, hle⟩ : ∃ l, f :: r = l := ⟨_, rfl⟩
    obtain ⟨n, hn⟩ : ∃ n, l.length = n := ⟨_, rfl⟩
    have hn0 : 0 < n := by rw [← hn, ← hle]; simp
    have hf0 : Hid (∀ h0 : 0 < l.length, l[0] = f) := Lib.hid (by subst hle; intro _; rfl)
    have HC : Hid (checkF l = if l.all Frm.may = false then 2 else if fits f.w f.h l = false then 14 else if 16 < l.length then 5 else 0) := Lib.hid (by subst hle; rfl)
    rw [hle] at HA hl hne ⊢
    have HNE := Lib.hid hne
    have HN := Lib.hid hn
    rw [hn] at hl ⊢
    clear hn hle hne
    have hn1 : (n : Int) ≠ 0 := by omega
    have hn2 : ((n : Int) == 0) = false := by simpa using hn1
    go_enter Tryz.func9, Tryz.ntmps9
    go_wp2_with fail
    go_loopg [4] n (fun k v4 wr => ∃ j : Nat, j + k = n ∧ v4 = .int .i64 j ∧ Hid ((l.take j).all Frm.may = true) ∧ Blk wr W.heap.size 34 #[.int .i64 0, .slice none 0 0] ∧ Below W.heap.size W wr)
    case atStart => exact ⟨0, by omega, rfl, Lib.hid (by simp), HZ0.out, HB0.out⟩
    case round =>
      obtain ⟨j, hj, rfl, hall, hzr, hbel⟩ := hrel
      by_cases hlt : j < n
      · have hltL : j < l.length := by have := HN.out; omega
        have hlt' : (j : Int) < (n : Int) := by omega
        obtain ⟨b2, o2, rfl, k0, k1, k2⟩ := (HA.out.keep hbel).at_ hltL
        obtain ⟨hp1, hp2⟩ := (HA.out.keep hbel).pix hltL
        have hm : Hid (l[j].may = mayF l[j].w l[j].h l[j].pix) := Lib.hid rfl
        obtain ⟨fj, hfj⟩ : ∃ fj, l[j] = fj := ⟨_, rfl⟩
        have HFJ := Lib.hid hfj
        rw [hfj] at k0 k1 k2 hp1 hp2 hm
        clear hfj
        obtain ⟨w1, h1, A1, p1, c1⟩ := fj
        simp only at k0 k1 k2 hp1 hp2 hm
        have HZR := Lib.hid hzr
        have HBEL := Lib.hid hbel
        clear hzr hbel
        go_wp2_with fail
        refine (RMay_any hp2 _ hp1).mono ?_
        rintro e w' ⟨rfl, rfl⟩
        have HB2 := Lib.hid (HBEL.out.alloc HBEL.out.size (.cells #[.int .i64 w1, .int .i64 h1, .slice A1 p1.length c1] 48))
        have HZ2 := Lib.hid (HZR.out.alloc (.cells #[.int .i64 w1, .int .i64 h1, .slice A1 p1.length c1] 48))
        cases hmv : mayF w1 h1 p1 with
        | true =>
          have hall' := Lib.hid (all_take hall.out hltL (by rw [HFJ.out, hm.out, hmv]))
          clear k0 k1 k2 hp1 hp2 hmv
          go_wp2_with fail
          go_roundg (gk - 1)
          case measure => omega
          case rel => exact ⟨j + 1, by omega, by go_num, hall', HZ2.out, HB2.out⟩
        | false =>
          have hc2 := Lib.hid (show checkF l = 2 by rw [HC.out, if_pos (all_not hltL (by rw [HFJ.out, hm.out, hmv]))])
          clear k0 k1 k2 hp1 hp2 hmv
          go_wp2_with fail
          refine (Fail_any 2 _).mono ?_
          rintro e w3 ⟨rfl, hb3⟩
          have hz3 := HZ2.out.keep hb3
          obtain ⟨⟨r0, r1⟩, f0, f1⟩ := er_cells hz3
          obtain ⟨hc3, hr3⟩ := er_set (a' := .int .i64 2) (b' := .slice none 0 0) hz3
          obtain ⟨⟨s0, s1⟩, _⟩ := er_cells hr3
          have HB3 := Lib.hid (HB2.out.trans (hb3.mono HB2.out.size))
          have HC3 := Lib.hid hc3
          clear hb3 hz3 hc3 hr3
          go_wp2_with fail
          refine bodyPost_ret (v := .tuple #[.slice none 0 0, .agg #[.int .i64 2, .slice none 0 0]]) (by simp [results, Tryz.results9, go_sem, s0, s1]) rfl ?_
          unfold REncNo
          rw [hc2.out]
          exact ⟨rfl, HB3.out.trans (HC3.out.below HB3.out.size (fun i e => by omega))⟩
      · obtain rfl : j = n := by omega
        have hall' := Lib.hid (all_end hall.out (Nat.le_of_eq HN.out))
        have HC2 := Lib.hid (HC.out.trans (if_neg (by rw [hall'.out]; simp)))
        clear hall HC
        have hl0 : 0 < l.length := by have := HN.out; omega
        obtain ⟨b2, o2, rfl, _⟩ := HA.out.at_ hl0
        obtain ⟨f, hfe⟩ : ∃ f', f' = f := ⟨_, rfl⟩
        have hfe := Lib.hid hfe
        have hf0' : Hid (l[0] = f) := Lib.hid ((hf0.out hl0).trans hfe.out.symm)
        have HC3 : Hid (checkF l = if fits f.w f.h l = false then 14 else if 16 < l.length then 5 else 0) := Lib.hid (by rw [hfe.out]; exact HC2.out)
        clear hf0 HC2 hfe
        obtain ⟨fw, fh, fA, fp, fc⟩ := f
        have HZR := Lib.hid hzr
        have HBEL := Lib.hid hbel
        clear hzr hbel
        go_wp2_with fail
        go_loopg [5] j (fun k v5 wr => ∃ i : Nat, i + k = j ∧ v5 = .int .i64 i ∧ Hid ((l.take i).all (fun g => decide (g.w = fw) && decide (g.h = fh)) = true) ∧ Blk wr W.heap.size 34 #[.int .i64 0, .slice none 0 0] ∧ Below W.heap.size W wr)
        case atStart => exact ⟨0, by omega, rfl, Lib.hid (by simp), HZR.out, HBEL.out⟩
        case round =>
          obtain ⟨i, hi, rfl, hall, hzr, hbel⟩ := hrel
          by_cases hlt : i < j
          · have hltL : i < l.length := by have := HN.out; omega
            have hlt' : (i : Int) < (j : Int) := by omega
            have hj0 : (0 : Int) < (j : Int) := by omega
            obtain ⟨b3, o3, hA3, k0, k1, k2⟩ := (HA.out.keep hbel).at_ hltL
            obtain ⟨rfl, rfl⟩ : b2 = b3 ∧ o2 = o3 := by injection hA3 with h; injection h with h1 h2; exact ⟨h1, h2⟩
            obtain ⟨b4, o4, hA4, q0, q1, q2⟩ := (HA.out.keep hbel).at_ hl0
            obtain ⟨rfl, rfl⟩ : b2 = b4 ∧ o2 = o4 := by injection hA4 with h; injection h with h1 h2; exact ⟨h1, h2⟩
            rw [hf0'.out] at q0 q1 q2
            simp only [Nat.zero_mul, Nat.add_zero] at q0 q1 q2
            obtain ⟨fj, hfj⟩ : ∃ fj, l[i] = fj := ⟨_, rfl⟩
            have HFJ := Lib.hid hfj
            rw [hfj] at k0 k1 k2
            clear hfj hA3 hA4
            obtain ⟨w1, h1, A1, p1, c1⟩ := fj
            simp only at k0 k1 k2
            have HZ1 := Lib.hid hzr
            have HB1 := Lib.hid hbel
            clear hzr hbel
            by_cases e1 : w1 = fw
            · by_cases e2 : h1 = fh
              · have hall' := Lib.hid (all_take hall.out hltL (by rw [HFJ.out]; simp [e1, e2]))
                subst e1 e2
                clear HFJ hall
                go_wp2_with fail
                go_quiet (fail)
                go_wp2_with fail
                go_roundg (j - i - 1)
                case measure => omega
                case rel => exact ⟨i + 1, by omega, by go_num, hall', HZ1.out.drewN _, below_drewN HB1.out _⟩
              · have hc2 := Lib.hid (show checkF l = 14 by rw [HC3.out, if_pos (show fits fw fh l = false from all_not hltL (by rw [HFJ.out]; simp [e2]))])
                subst e1
                clear HFJ hall
                go_wp2_with fail
                go_quiet (fail)
                go_wp2_with fail
                refine (Fail_any 14 _).mono ?_
                rintro e w3 ⟨rfl, hb3⟩
                have hz3 := (HZ1.out.drewN _).keep hb3
                obtain ⟨⟨r0, r1⟩, f0, f1⟩ := er_cells hz3
                obtain ⟨hc3, hr3⟩ := er_set (a' := .int .i64 14) (b' := .slice none 0 0) hz3
                obtain ⟨⟨s0, s1⟩, _⟩ := er_cells hr3
                have HB3 := Lib.hid ((below_drewN HB1.out _).trans (hb3.mono (below_drewN HB1.out _).size))
                have HC3' := Lib.hid hc3
                clear hb3 hz3 hc3 hr3
                go_wp2_with fail
                refine bodyPost_ret (v := .tuple #[.slice none 0 0, .agg #[.int .i64 14, .slice none 0 0]]) (by simp [results, Tryz.results9, go_sem, s0, s1]) rfl ?_
                unfold REncNo
                rw [hc2.out]
                exact ⟨rfl, HB3.out.trans (HC3'.out.below HB3.out.size (fun i e => by omega))⟩
            · have hc2 := Lib.hid (show checkF l = 14 by rw [HC3.out, if_pos (show fits fw fh l = false from all_not hltL (by rw [HFJ.out]; simp [e1]))])
              clear HFJ hall
              go_wp2_with fail
              go_quiet (fail)
              go_wp2_with fail
              refine (Fail_any 14 _).mono ?_
              rintro e w3 ⟨rfl, hb3⟩
              have hz3 := (HZ1.out.drewN _).keep hb3
              obtain ⟨⟨r0, r1⟩, f0, f1⟩ := er_cells hz3
              obtain ⟨hc3, hr3⟩ := er_set (a' := .int .i64 14) (b' := .slice none 0 0) hz3
              obtain ⟨⟨s0, s1⟩, _⟩ := er_cells hr3
              have HB3 := Lib.hid ((below_drewN HB1.out _).trans (hb3.mono (below_drewN HB1.out _).size))
              have HC3' := Lib.hid hc3
              clear hb3 hz3 hc3 hr3
              go_wp2_with fail
              refine bodyPost_ret (v := .tuple #[.slice none 0 0, .agg #[.int .i64 14, .slice none 0 0]]) (by simp [results, Tryz.results9, go_sem, s0, s1]) rfl ?_
              unfold REncNo
              rw [hc2.out]
              exact ⟨rfl, HB3.out.trans (HC3'.out.below HB3.out.size (fun i e => by omega))⟩
          · obtain rfl : i = j := by omega
            have hall' : Hid (fits fw fh l = true) := Lib.hid (all_end hall.out (Nat.le_of_eq HN.out))
            have HC4 : Hid (checkF l = if 16 < i then 5 else 0) := Lib.hid (by rw [HC3.out, if_neg (by rw [hall'.out]; simp), HN.out])
            have HZ1 := Lib.hid hzr
            have HB1 := Lib.hid hbel
            clear HC3 hall hzr hbel
            by_cases h16 : 16 < i
            · have hc2 := Lib.hid (HC4.out.trans (if_pos h16))
              go_wp2_with fail
              refine (Fail_any 5 _).mono ?_
              rintro e w3 ⟨rfl, hb3⟩
              have hz3 := HZ1.out.keep hb3
              obtain ⟨⟨r0, r1⟩, f0, f1⟩ := er_cells hz3
              obtain ⟨hc3, hr3⟩ := er_set (a' := .int .i64 5) (b' := .slice none 0 0) hz3
              obtain ⟨⟨s0, s1⟩, _⟩ := er_cells hr3
              have HB3 := Lib.hid (HB1.out.trans (hb3.mono HB1.out.size))
              have HC3' := Lib.hid hc3
              clear hb3 hz3 hc3 hr3
              go_wp2_with fail
              refine bodyPost_ret (v := .tuple #[.slice none 0 0, .agg #[.int .i64 5, .slice none 0 0]]) (by simp [results, Tryz.results9, go_sem, s0, s1]) rfl ?_
              unfold REncNo
              rw [hc2.out]
              exact ⟨rfl, HB3.out.trans (HC3'.out.below HB3.out.size (fun i e => by omega))⟩
            · exact absurd (HC4.out.trans (if_neg h16)) HNE.out

end Go.Proofs.YtnccebfapihpjaaGreatDoor
