/- Contract of source.check. -/
import Derived.Test.YtnccebfapihpjaaGreatDoorFrames
namespace Go.Proofs.YtnccebfapihpjaaGreatDoor
open Go Go.RowKit Go.Extern.Stop Go.Stop Go.Extern

set_option maxRecDepth 100000 in
set_option maxHeartbeats 1000000 in
theorem check_any {l : List Frm} {A : Option Addr} {c : Nat} (hl : l.length ≤ 1000000) (W : World) (ha : RdF W A l) :
    Calls Tryz.prog 18 #[.slice A l.length c] W fun e w' => e = .returned (codeV (checkF l)) ∧ Below W.heap.size W w' := by
  have HA := Lib.hid ha
  clear ha
  rcases l with _ | ⟨f, r⟩
  · go_enter Tryz.func18, Tryz.ntmps18
    go_wp2_with fail
    go_ret
    exact ⟨rfl, Below.refl _ _⟩
  · obtain ⟨l, hle⟩ : ∃ l, f :: r = l := ⟨_, rfl⟩
    obtain ⟨n, hn⟩ : ∃ n, l.length = n := ⟨_, rfl⟩
    have hn0 : 0 < n := by rw [← hn, ← hle]; simp
    have hf0 : Hid (∀ h0 : 0 < l.length, l[0] = f) := Lib.hid (by subst hle; intro _; rfl)
    have HC : Hid (checkF l = if l.all Frm.may = false then 2 else if fits f.w f.h l = false then 14 else if 16 < l.length then 5 else 0) := Lib.hid (by subst hle; rfl)
    rw [hle] at HA hl ⊢
    have HN := Lib.hid hn
    rw [hn] at hl ⊢
    clear hn hle
    have hn1 : (n : Int) ≠ 0 := by omega
    have hn2 : ((n : Int) == 0) = false := by simpa using hn1
    go_enter Tryz.func18, Tryz.ntmps18
    go_wp2_with fail
    go_loopg [13] n (fun k v13 wr => ∃ j : Nat, j + k = n ∧ v13 = .int .i64 j ∧ Hid ((l.take j).all Frm.may = true) ∧ Below W.heap.size W wr)
    case atStart => exact ⟨0, by omega, rfl, Lib.hid (by simp), Below.refl _ _⟩
    case round =>
      obtain ⟨j, hj, rfl, hall, hbel⟩ := hrel
      by_cases hlt : j < n
      · have hltL : j < l.length := by have := HN.out; omega
        have hlt' : (j : Int) < (n : Int) := by omega
        obtain ⟨b2, o2, rfl, k0, k1, k2⟩ := (HA.out.keep hbel).at_ hltL
        obtain ⟨hp1, hp2⟩ := (HA.out.keep hbel).pix hltL
        have hm : Hid (l[j].may = mayF l[j].w l[j].h l[j].pix) := Lib.hid rfl
        obtain ⟨fj, hfj⟩ : ∃ fj, l[j] = fj := ⟨_, rfl⟩
        have HFJ := Lib.hid hfj
        rw [hfj] at k0 k1 k2 hp1 hp2 hm
        clear hfj
        obtain ⟨w1, h1, A1, p1, c1⟩ := fj
        simp only at k0 k1 k2 hp1 hp2 hm
        go_wp2_with fail
        have hb1 := hbel.alloc hbel.size (.cells #[.int .i64 w1, .int .i64 h1, .slice A1 p1.length c1] 48)
        have HB2 := Lib.hid (hb1.alloc hb1.size (.cells #[.int .i64 w1, .int .i64 h1, .slice A1 p1.length c1] 48))
        refine (May_any hp2 _ (hp1.alloc _)).mono ?_
        rintro e w' ⟨rfl, rfl⟩
        cases hmv : mayF w1 h1 p1 with
        | true =>
          have hall' := Lib.hid (all_take hall.out hltL (by rw [HFJ.out, hm.out, hmv]))
          clear k0 k1 k2 hp1 hp2 hmv hb1
          go_wp2_with fail
          go_roundg (gk - 1)
          case measure => omega
          case rel => exact ⟨j + 1, by omega, by go_num, hall', HB2.out⟩
        | false =>
          have hc2 := Lib.hid (show checkF l = 2 by rw [HC.out, if_pos (all_not hltL (by rw [HFJ.out, hm.out, hmv]))])
          clear k0 k1 k2 hp1 hp2 hmv hb1
          go_wp2_with fail
          go_ret
          exact ⟨by rw [hc2.out]; rfl, HB2.out⟩
      · obtain rfl : j = n := by omega
        have hall' := Lib.hid (all_end hall.out (Nat.le_of_eq HN.out))
        have HC2 := Lib.hid (HC.out.trans (if_neg (by rw [hall'.out]; simp)))
        clear hall HC
        have hl0 : 0 < l.length := by have := HN.out; omega
        obtain ⟨b2, o2, rfl, _⟩ := HA.out.at_ hl0
        obtain ⟨f, hfe⟩ : ∃ f', f' = f := ⟨_, rfl⟩
        have hfe := Lib.hid hfe
        have hf0' : Hid (l[0] = f) := Lib.hid ((hf0.out hl0).trans hfe.out.symm)
        have HC3 : Hid (checkF l = if fits f.w f.h l = false then 14 else if 16 < l.length then 5 else 0) := Lib.hid (by rw [hfe.out]; exact HC2.out)
        clear hf0 HC2 hfe
        obtain ⟨fw, fh, fA, fp, fc⟩ := f
        go_wp2_with fail
        go_loopg [24] j (fun k v24 wr => ∃ i : Nat, i + k = j ∧ v24 = .int .i64 i ∧ Hid ((l.take i).all (fun g => decide (g.w = fw) && decide (g.h = fh)) = true) ∧ Below W.heap.size W wr)
        case atStart => exact ⟨0, by omega, rfl, Lib.hid (by simp), hbel⟩
        case round =>
          obtain ⟨i, hi, rfl, hall, hbel⟩ := hrel
          by_cases hlt : i < j
          · have hltL : i < l.length := by have := HN.out; omega
            have hlt' : (i : Int) < (j : Int) := by omega
            have hj0 : (0 : Int) < (j : Int) := by omega
            obtain ⟨b3, o3, hA3, k0, k1, k2⟩ := (HA.out.keep hbel).at_ hltL
            obtain ⟨rfl, rfl⟩ : b2 = b3 ∧ o2 = o3 := by injection hA3 with h; injection h with h1 h2; exact ⟨h1, h2⟩
            obtain ⟨b4, o4, hA4, q0, q1, q2⟩ := (HA.out.keep hbel).at_ hl0
            obtain ⟨rfl, rfl⟩ : b2 = b4 ∧ o2 = o4 := by injection hA4 with h; injection h with h1 h2; exact ⟨h1, h2⟩
            rw [hf0'.out] at q0 q1 q2
            simp only [Nat.zero_mul, Nat.add_zero] at q0 q1 q2
            obtain ⟨fj, hfj⟩ : ∃ fj, l[i] = fj := ⟨_, rfl⟩
            have HFJ := Lib.hid hfj
            rw [hfj] at k0 k1 k2
            clear hfj hA3 hA4
            obtain ⟨w1, h1, A1, p1, c1⟩ := fj
            simp only at k0 k1 k2
            have hb1 := hbel.alloc hbel.size (.cells #[.int .i64 w1, .int .i64 h1, .slice A1 p1.length c1] 48)
            have HB1 := Lib.hid hb1
            have Q0 := cell_keep q0 ((Below.refl wr.heap.size wr).alloc (Nat.le_refl _) (.cells #[.int .i64 w1, .int .i64 h1, .slice A1 p1.length c1] 48))
            have Q1 := cell_keep q1 ((Below.refl wr.heap.size wr).alloc (Nat.le_refl _) (.cells #[.int .i64 w1, .int .i64 h1, .slice A1 p1.length c1] 48))
            clear hb1
            by_cases e1 : w1 = fw
            · by_cases e2 : h1 = fh
              · have hall' := Lib.hid (all_take hall.out hltL (by rw [HFJ.out]; simp [e1, e2]))
                subst e1 e2
                clear HFJ hall
                go_wp2_with fail
                go_quiet (fail)
                go_wp2_with fail
                go_roundg (j - i - 1)
                case measure => omega
                case rel => exact ⟨i + 1, by omega, by go_num, hall', below_drewN HB1.out _⟩
              · have hc2 := Lib.hid (show checkF l = 14 by rw [HC3.out, if_pos (show fits fw fh l = false from all_not hltL (by rw [HFJ.out]; simp [e2]))])
                subst e1
                clear HFJ hall
                go_wp2_with fail
                go_quiet (fail)
                go_wp2_with fail
                go_ret
                exact ⟨by rw [hc2.out]; rfl, below_drewN HB1.out _⟩
            · have hc2 := Lib.hid (show checkF l = 14 by rw [HC3.out, if_pos (show fits fw fh l = false from all_not hltL (by rw [HFJ.out]; simp [e1]))])
              clear HFJ hall
              go_wp2_with fail
              go_quiet (fail)
              go_wp2_with fail
              go_ret
              exact ⟨by rw [hc2.out]; rfl, below_drewN HB1.out _⟩
          · obtain rfl : i = j := by omega
            have hall' : Hid (fits fw fh l = true) := Lib.hid (all_end hall.out (Nat.le_of_eq HN.out))
            have HC4 : Hid (checkF l = if 16 < i then 5 else 0) := Lib.hid (by rw [HC3.out, if_neg (by rw [hall'.out]; simp), HN.out])
            clear HC3 hall
            by_cases h16 : 16 < i
            · have hc2 := Lib.hid (HC4.out.trans (if_pos h16))
              go_wp2_with fail
              go_ret
              exact ⟨by rw [hc2.out]; rfl, hbel⟩
            · have hc2 := Lib.hid (HC4.out.trans (if_neg h16))
              go_wp2_with fail
              go_ret
              exact ⟨by rw [hc2.out]; rfl, hbel⟩

end Go.Proofs.YtnccebfapihpjaaGreatDoor
