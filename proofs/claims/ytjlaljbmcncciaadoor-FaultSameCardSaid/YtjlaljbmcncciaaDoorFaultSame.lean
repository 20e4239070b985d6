/- The walk of FaultSame: two errors held against one another. -/
import Derived.Test.YtjlaljbmcncciaaDoorFaultFirst
namespace Go.Proofs.YtjlaljbmcncciaaDoor
open Go Go.RowKit Go.Extern.Stop Go.Stop Go.Extern

theorem eqI (c d : Int) : (c == d) = decide (c = d) := by
  by_cases h : c = d <;> simp [h]

theorem same_end {D : Bool} {l m : Fa.Steps} {j : Nat} (hj : j ≤ l.length) (he : ¬ (j < l.length ∧ j < m.length)) :
    (D && decide (l.length = m.length) && decide (l.take j = m.take j)) = (D && decide (l = m)) := by
  by_cases hl : l.length = m.length
  · have h1 : j = l.length := by omega
    rw [h1, List.take_length, hl, List.take_length]; simp
  · have : ¬ l = m := fun h => hl (by rw [h])
    simp [hl, this]
theorem same_step {l m : Fa.Steps} {j : Nat} (h1 : j < l.length) (h2 : j < m.length) : decide (l.take (j + 1) = m.take (j + 1)) = (decide (l.take j = m.take j) && decide ((l[j].1, l[j].2) = (m[j].1, m[j].2))) := by
  rw [List.take_succ_eq_append_getElem h1, List.take_succ_eq_append_getElem h2]
  have : (l.take j ++ [l[j]] = m.take j ++ [m[j]]) ↔ (l.take j = m.take j ∧ (l[j].1, l[j].2) = (m[j].1, m[j].2)) := by
    constructor
    · intro h
      have hlen : (l.take j).length = (m.take j).length := by simp; omega
      have := List.append_inj h hlen
      have e : l[j] = m[j] := by simpa using this.2
      exact ⟨this.1, by rw [e]⟩
    · rintro ⟨ha, hb⟩
      have : l[j] = m[j] := hb
      rw [ha, this]
  rw [← Bool.decide_and]
  exact decide_eq_decide.2 this

set_option maxRecDepth 100000 in
set_option maxHeartbeats 2000000 in
theorem FaultSame_walk {l m : Fa.Steps} {c d : Int} {A B : Option Addr} {ca cb : Nat} (hn : l.length ≤ 9223372036854775807) (hm : m.length ≤ 9223372036854775807)
    (w : World) (hg : Gl w) (hT : Tb w) (hr : Rd w 2 A l.length (flatP l)) (hs : Rd w 2 B m.length (flatP m)) :
    Calls Tryd.prog 7 #[.slice A l.length ca, .slice B m.length cb, .int .i64 c, .int .i64 d] w fun e w' => e = .returned (.bool true) ∧ Below w.heap.size w w' := by
  have HG := Lib.hid hg
  have HT := Lib.hid hT
  have HR := Lib.hid hr
  have HS := Lib.hid hs
  have gd := stepGd
  have eq' := stepEql
  clear hg hT hr hs
  go_enter Tryd.func7, Tryd.ntmps7
  go_wp2_with fail
  refine (first_true _ HG.out HT.out).mono ?_
  rintro e w1 ⟨rfl, hb1⟩
  go_wp2_with fail
  refine (few_any hn _ (HR.out.keep hb1)).mono ?_
  rintro e w2 ⟨rfl, rfl⟩
  by_cases hf : Fa.few l = true ∧ Fa.few m = true
  · obtain ⟨hf1, hf2⟩ := hf
    rw [hf1]
    obtain ⟨D, hD⟩ : ∃ D, D = decide (c = d) := ⟨_, rfl⟩
    have HD := Lib.hid hD
    clear hD
    have hlen1 := Fa.few_len hf1
    have hlen2 := Fa.few_len hf2
    go_wp2_with fail
    refine (few_any hm _ (HS.out.keep hb1)).mono ?_
    rintro e w2 ⟨rfl, rfl⟩
    rw [hf2]
    clear hf1 hf2
    go_wp2_with fail
    all_goals
      try (have hcd : c = d := by assumption
           subst hcd)
      go_loopg [9, 10] l.length (fun k sv i wr => ∃ (j n : Nat) (b : Bool), j + k = l.length ∧ j ≤ m.length ∧ i = .int .i64 j ∧ sv = .bool b ∧ b = (D && decide (l.length = m.length) && decide (l.take j = m.take j)) ∧ wr = w1.drewN n)
      case atStart =>
        refine ⟨0, 0, _, by omega, by omega, rfl, rfl, ?_, rfl⟩
        rw [HD.out]
        first | (simp [*, eqI]; done) | (simp [*, eqI]; omega)
      case round =>
        obtain ⟨j, n, b, hj, hjm, rfl, rfl, hb, rfl⟩ := hrel
        have HBB := Lib.hid hb
        clear hb
        by_cases hlt : j < l.length ∧ j < m.length
        · obtain ⟨hl', hm'⟩ := hlt
          obtain ⟨b2, o2, rfl, h2⟩ := (HR.out.keep hb1).2 (by omega)
          obtain ⟨b3, o3, rfl, h3⟩ := (HS.out.keep hb1).2 (by omega)
          have hp2 := flatP_get l j hl'
          have hq2 := flatP_get m j hm'
          have k1 := h2 _ _ hp2.1
          have k2 := h2 _ _ hp2.2
          have k3 := h3 _ _ hq2.1
          have k4 := h3 _ _ hq2.2
          rw [← Nat.add_assoc] at k2 k4
          have i1 : (j : Int) < (l.length : Int) := by omega
          have i2 : (j : Int) < (m.length : Int) := by omega
          have HST := Lib.hid (same_step hl' hm')
          clear h2 h3 hp2 hq2
          cases b with
          | true =>
            go_wp2_with fail
            go_quiet (fail)
            go_wp2_with fail
            go_roundg (gk - 1)
            case measure => omega
            case rel =>
              refine ⟨j + 1, n + nq, _, by omega, by omega, by go_num, rfl, ?_, rfl⟩
              have h1 := HBB.out.symm
              rw [Bool.and_eq_true, Bool.and_eq_true] at h1
              rw [HST.out, h1.1.1, h1.1.2, h1.2]
              simp
          | false =>
            go_wp2_with fail
            go_quiet (fail)
            go_wp2_with fail
            go_roundg (gk - 1)
            case measure => omega
            case rel =>
              refine ⟨j + 1, n + nq, _, by omega, by omega, by go_num, rfl, ?_, rfl⟩
              rw [HST.out, ← Bool.and_assoc, ← HBB.out]
              rfl
        · have hend := HBB.out.trans (same_end (D := D) (l := l) (m := m) (j := j) (by omega) hlt)
          have HE := Lib.hid hend
          clear hend
          have hb1n : Below w.heap.size w (w1.drewN n) := below_drewN hb1 n
          rcases (show ((j : Int) < (l.length : Int) ∧ (m.length : Int) ≤ j) ∨ (l.length : Int) ≤ j by omega) with ⟨i1, i2⟩ | i1
          all_goals
            clear hlt hj hjm
            go_wp2_with fail
            refine (wrapped_any (l := l) (c := c) hn _ (HR.out.keep hb1n)).mono ?_
            rintro e w2 ⟨v, rfl, hE, hb2⟩
            have hb2' : Below w.heap.size w w2 := hb1n.trans (hb2.mono hb1n.size)
            obtain ⟨T, x, rfl⟩ := hE.iface
            have HE1 := Lib.hid hE
            clear hE
            go_wp2_with fail
            refine (wrapped_any (l := m) (c := _) hm _ (HS.out.keep hb2')).mono ?_
            rintro e w3 ⟨v, rfl, hE, hb3⟩
            have hb3' : Below w.heap.size w w3 := hb2'.trans (hb3.mono hb2'.size)
            obtain ⟨T2, x2, rfl⟩ := hE.iface
            have SA := Lib.hid (Seen.code (by omega) (HG.out.keep hb3') (HE1.out.below hb3))
            have SB := Lib.hid (Seen.code (by omega) (HG.out.keep hb3') hE)
            clear hE
            go_wp2_with fail
            refine (first_true _ (HG.out.keep hb3') (HT.out.keep hb3')).mono ?_
            rintro e w4 ⟨rfl, hb4⟩
            have hb4' : Below w.heap.size w w4 := hb3'.trans (hb4.mono hb3'.size)
            go_wp2_with fail
            refine (Same_any (by omega) (by omega) _ (SA.out.keep hb4) (SB.out.keep hb4)).mono ?_
            rintro e w5 ⟨rfl, hb5⟩
            first | rw [← HD.out, ← HE.out] | rw [show decide (c = c) = D by rw [HD.out]; simp, ← HE.out]
            have hb5' : Below w.heap.size w w5 := hb4'.trans (hb5.mono hb4'.size)
            have SA5 := Lib.hid ((SA.out.keep hb4).keep hb5)
            go_wp2_with fail
            refine (Same_any (by omega) (by omega) _ SA5.out SA5.out).mono ?_
            rintro e w6 ⟨rfl, hb6⟩
            rw [decide_eq_true (rfl : c = c), decide_eq_true (rfl : l = l)]
            have hb6' : Below w.heap.size w w6 := hb5'.trans (hb6.mono hb5'.size)
            have SA6 := Lib.hid (SA5.out.keep hb6)
            go_wp2_with fail
            refine (wrapped_any (l := l) (c := c) hn _ (HR.out.keep hb6')).mono ?_
            rintro e w7 ⟨v, rfl, hE, hb7⟩
            have hb7' : Below w.heap.size w w7 := hb6'.trans (hb7.mono hb6'.size)
            obtain ⟨T3, x3, rfl⟩ := hE.iface
            have SC := Lib.hid (Seen.code (by omega) (HG.out.keep hb7') hE)
            clear hE
            have SA7 := Lib.hid (SA6.out.keep hb7)
            go_wp2_with fail
            refine (Same_any (by omega) (by omega) _ SC.out SA7.out).mono ?_
            rintro e w8 ⟨rfl, hb8⟩
            rw [decide_eq_true (rfl : c = c), decide_eq_true (rfl : l = l)]
            have hb8' : Below w.heap.size w w8 := hb7'.trans (hb8.mono hb7'.size)
            have SA8 := Lib.hid (SA7.out.keep hb8)
            go_wp2_with fail
            refine (Same_any (q := []) (by omega) (by simp) _ SA8.out (Seen.nil _ (HG.out.keep hb8'))).mono ?_
            rintro e w9 ⟨rfl, hb9⟩
            have hb9' : Below w.heap.size w w9 := hb8'.trans (hb9.mono hb8'.size)
            have hv : ∃ q : Bool, (decide (c = 0) && decide (l = [])) = q ∧ ((c ≠ 0 ∧ q = false) ∨ (c = 0 ∧ (l.length : Int) = 0 ∧ q = true) ∨ (c = 0 ∧ (l.length : Int) ≠ 0 ∧ q = false)) := by
              refine ⟨_, rfl, ?_⟩
              by_cases h0 : c = 0
              · by_cases hl : l = []
                · exact .inr (.inl ⟨h0, by rw [hl]; rfl, by rw [h0, hl]; rfl⟩)
                · exact .inr (.inr ⟨h0, fun h => hl (List.eq_nil_of_length_eq_zero (by omega)), by simp [hl]⟩)
              · exact .inl ⟨h0, by simp [h0]⟩
            obtain ⟨q, hq, hcases⟩ := hv
            rw [hq]
            clear hq
            rcases hcases with ⟨h0, rfl⟩ | ⟨h0, hl0, rfl⟩ | ⟨h0, hl0, rfl⟩
            all_goals
              have hc0 : (c == 0) = decide (c = 0) := eqI c 0
              first | rw [decide_eq_true h0] at hc0 | rw [decide_eq_false h0] at hc0
              first | (have hl1 : ((l.length : Int) == 0) = true := by rw [hl0]; rfl) | (have hl1 : ((l.length : Int) == 0) = false := by rw [eqI]; exact decide_eq_false hl0) | skip
              clear h0
              go_wp2_with fail
              refine (Same_any (p := []) (q := []) (by simp) (by simp) _ (Seen.nil _ (HG.out.keep hb9')) (Seen.nil _ (HG.out.keep hb9'))).mono ?_
              rintro e w10 ⟨rfl, hb10⟩
              go_wp2_with fail
              go_ret
              exact ⟨rfl, hb9'.trans (hb10.mono hb9'.size)⟩
  · by_cases hf1 : Fa.few l = true
    · have hf2 : Fa.few m = false := by
        by_cases h : Fa.few m = true
        · exact absurd ⟨hf1, h⟩ hf
        · simpa using h
      rw [hf1]
      clear hf
      go_wp2_with fail
      refine (few_any hm _ (HS.out.keep hb1)).mono ?_
      rintro e w2 ⟨rfl, rfl⟩
      rw [hf2]
      clear hf1 hf2
      go_wp2_with fail
      refine (first_true _ (HG.out.keep hb1) (HT.out.keep hb1)).mono ?_
      rintro e w2 ⟨rfl, hb2⟩
      go_wp2_with fail
      go_ret
      exact ⟨rfl, hb1.trans (hb2.mono hb1.size)⟩
    · have hf' : Fa.few l = false := by simpa using hf1
      rw [hf']
      clear hf hf1 hf'
      go_wp2_with fail
      refine (first_true _ (HG.out.keep hb1) (HT.out.keep hb1)).mono ?_
      rintro e w2 ⟨rfl, hb2⟩
      go_wp2_with fail
      go_ret
      exact ⟨rfl, hb1.trans (hb2.mono hb1.size)⟩

end Go.Proofs.YtjlaljbmcncciaaDoor
