/- The walk of FaultJoins: paths one behind the other. -/
import Derived.Test.YtjlaljbmcncciaaDoorFaultFirst
import Derived.Test.YtjlaljbmcncciaaDoorQuiet
import Derived.Test.YtjlaljbmcncciaaDoorAppend
namespace Go.Proofs.YtjlaljbmcncciaaDoor
open Go Go.RowKit Go.Extern.Stop Go.Stop Go.Extern

theorem flatP_one (p : Fa.Steps) : ∀ u ∈ flatP p, u.oneCell' = true := by
  intro u hu
  unfold flatP at hu
  obtain ⟨x, _, hx⟩ := List.mem_flatMap.1 hu
  simp at hx
  rcases hx with rfl | rfl <;> rfl

set_option maxRecDepth 100000 in
set_option maxHeartbeats 2000000 in
theorem FaultJoins_walk {l m : Fa.Steps} {c : Int} {A B : Option Addr} {ca cb : Nat} (hn : l.length ≤ 9223372036854775807) (hm : m.length ≤ 9223372036854775807)
    (w : World) (hg : Gl w) (hT : Tb w) (hr : Rd w 2 A l.length (flatP l)) (hs : Rd w 2 B m.length (flatP m)) :
    Calls Tryd.prog 8 #[.slice A l.length ca, .slice B m.length cb, .int .i64 c] w fun e w' => e = .returned (.bool true) ∧ Below w.heap.size w w' := by
  have HG := Lib.hid hg
  have HT := Lib.hid hT
  have HR := Lib.hid hr
  have HS := Lib.hid hs
  obtain ⟨i0, hi0, hz0, hz1, hz2⟩ := info_parts stepInfo
  have gd := stepGd
  have nq' := stepNeq
  clear hg hT hr hs
  go_enter Tryd.func8, Tryd.ntmps8
  go_wp2_with fail
  refine (first_true _ HG.out HT.out).mono ?_
  rintro e w1 ⟨rfl, hb1⟩
  go_wp2_with fail
  refine (few_any hn _ (HR.out.keep hb1)).mono ?_
  rintro e w2 ⟨rfl, rfl⟩
  by_cases hf : Fa.few l = true ∧ Fa.few m = true
  · obtain ⟨hf1, hf2⟩ := hf
    rw [hf1]
    have hlen1 := Fa.few_len hf1
    have hlen2 := Fa.few_len hf2
    go_wp2_with fail
    refine (few_any hm _ (HS.out.keep hb1)).mono ?_
    rintro e w2 ⟨rfl, rfl⟩
    rw [hf2]
    clear hf1 hf2
    go_wp2_with fail
    refine (wrapped_any hm _ (HS.out.keep hb1)).mono ?_
    rintro e w2 ⟨v0, rfl, hE0, hb2⟩
    have hb2' : Below w.heap.size w w2 := hb1.trans (hb2.mono hb1.size)
    obtain ⟨T0, x0, rfl⟩ := hE0.iface
    have HE0 := Lib.hid hE0
    clear hE0 hb2
    go_wp2_with fail
    go_loopg [8, 9] l.length (fun k v i wr => ∃ j, j = k ∧ j ≤ l.length ∧ i = .int .i64 ((j : Int) - 1) ∧ ErrAt wr (l.drop j ++ m) (.iface 23 (.int .i64 c)) v ∧ Below w.heap.size w wr ∧ Below w2.heap.size w2 wr)
    case atStart => exact ⟨l.length, rfl, by omega, by go_num, by rw [List.drop_length]; exact HE0.out, hb2', Below.refl _ _⟩
    case round =>
      obtain ⟨j, rfl, hjl, rfl, hE, hb, hbr⟩ := hrel
      cases j with
      | zero =>
        rw [List.drop_zero] at hE
        obtain ⟨T, x, rfl⟩ := hE.iface
        have HE := Lib.hid hE
        have HB := Lib.hid hb
        have HBR := Lib.hid hbr
        clear hE hb hbr
        have hw2l := HB.out.size
        go_wp2_with (first
          | (at_builtin; refine wpList_append_rd _ rfl (.tmp 48) (.tmp 49) _ rfl wr.heap.size 34 i0 _ 2 24 Tryd.underlying22 hi0 hz0 hz1 hz2 rfl (by omega) (.slice (some ⟨wr.heap.size, 0, none⟩) 0 0) 0 [] rfl (own_empty wr _ _ _ (Nat.le_refl _)) A l.length ca _ rfl ((HR.out.keep HB.out).alloc _) (flatP_one l) (by unfold maxLen; omega) (by omega) (by simp) ?_; intro B1 cap1 w3 hown1 hg1 hat1; have hb3 : Below wr.heap.size wr w3 := ((Below.refl wr.heap.size wr).alloc (Nat.le_refl _) _).grown hg1 (by simp) (fun k hk => by simp [Value.ownBlock] at hk; omega); simp only [Nat.zero_add, List.nil_append] at hown1; have HO1 := Lib.hid hown1; clear hown1 hg1 hat1)
          | (at_builtin; refine wpList_append_rd _ rfl (.tmp 50) (.tmp 51) _ rfl wr.heap.size 34 i0 _ 2 24 Tryd.underlying22 hi0 hz0 hz1 hz2 rfl (by omega) _ l.length _ rfl HO1.out B m.length cb _ rfl ((HS.out.keep HB.out).keep hb3) (flatP_one m) (by unfold maxLen; omega) (by omega) hb3.size ?_; intro B2 cap2 w4 hown2 hg2 hat2; have hb4 : Below wr.heap.size wr w4 := hb3.grown hg2 hb3.size (fun k hk => (HO1.out.lt k hk).1); have HO2 := Lib.hid hown2; clear hown2 hg2 hat2))
        have hb4' : Below w.heap.size w w4 := HB.out.trans (hb4.mono hw2l)
        have HA : Hid (Rd w4 2 B2 (l ++ m).length (flatP (l ++ m))) := by
          have h := Rd.of_own HO2.out
          rw [← flatP_app, ← List.length_append] at h
          exact h
        have HEA := Lib.hid (HE.out.below hb4)
        have HEB := Lib.hid ((HE0.out.below HBR.out).below hb4)
        clear hb3
        refine (Path_any (path := l ++ m) (by simp; omega) (Tail.code c) _ (HG.out.keep hb4') HEA.out).mono ?_
        unfold PathOut
        rintro e w5 ⟨P1, cp1, rfl, hp1, hb5⟩
        rw [List.length_append] at hp1 ⊢
        have HP1 := Lib.hid hp1
        have hb5' := hb4'.trans (hb5.mono hb4'.size)
        clear hp1
        go_wp2_with fail
        refine (Path_any (path := m) (by omega) (Tail.code c) _ (HG.out.keep hb5') (HEB.out.below hb5)).mono ?_
        unfold PathOut
        rintro e w6 ⟨P2, cp2, rfl, hp2, hb6⟩
        have HP2 := Lib.hid hp2
        have hb6' := hb5'.trans (hb6.mono hb5'.size)
        have hr6 := hb5.trans (hb6.mono hb5.size)
        clear hp2
        go_wp2_with fail
        have hwr := wrapped_any (l := l ++ m) (c := c) (A := B2) (cap := cap2) (by simp; omega) w6 (HA.out.keep hr6)
        rw [List.length_append] at hwr
        refine hwr.mono ?_
        clear hwr
        rintro e w7 ⟨v7, rfl, hE7, hb7⟩
        have hb7' := hb6'.trans (hb7.mono hb6'.size)
        have hr7 := hr6.trans (hb7.mono hr6.size)
        obtain ⟨T7, x7, rfl⟩ := hE7.iface
        have S1 := Lib.hid (Seen.code (by simp; omega) (HG.out.keep hb7') (HEA.out.below hr7))
        have S2 := Lib.hid (Seen.code (by simp; omega) (HG.out.keep hb7') hE7)
        clear hE7
        go_wp2_with fail
        refine (Same_any (by simp; omega) (by simp; omega) _ S1.out S2.out).mono ?_
        rintro e w8 ⟨rfl, hb8⟩
        rw [decide_eq_true (rfl : c = c), decide_eq_true (rfl : l ++ m = l ++ m)]
        have hb8' := hb7'.trans (hb8.mono hb7'.size)
        have hr8 := hr7.trans (hb8.mono hr7.size)
        have HQ1 := Lib.hid (((HP1.out.keep hb6).keep hb7).keep hb8)
        have HQ2 := Lib.hid ((HP2.out.keep hb7).keep hb8)
        have HEA8 := Lib.hid (HEA.out.below hr8)
        have HEB8 := Lib.hid (HEB.out.below hr8)
        obtain ⟨Tb0, xb0, hEb⟩ : ∃ T x, Value.iface T0 x0 = .iface T x := ⟨_, _, rfl⟩
        clear hEb
        go_wp2_with fail
        go_loopg [13] m.length (fun k i wx => ∃ j n : Nat, j + k = m.length ∧ i = .int .i64 j ∧ wx = w8.drewN n)
        case atStart => exact ⟨0, 0, by omega, rfl, rfl⟩
        case round =>
          obtain ⟨j, n, hj, rfl, rfl⟩ := hrel
          by_cases hlt : j < m.length
          · obtain ⟨b2, o2, rfl, h2⟩ := HQ1.out.2 (by omega)
            obtain ⟨b3, o3, rfl, h3⟩ := HQ2.out.2 (by omega)
            have hp2 := flatP_get (l ++ m) (l.length + j) (by simp; omega)
            have hq2 := flatP_get m j hlt
            have hel : (l ++ m)[l.length + j]'(by simp; omega) = m[j] := by rw [List.getElem_append_right (by omega)]; simp
            rw [hel] at hp2
            have k1 := h2 _ _ hp2.1
            have k2 := h2 _ _ hp2.2
            have k3 := h3 _ _ hq2.1
            have k4 := h3 _ _ hq2.2
            rw [← Nat.add_assoc] at k2 k4
            have hlt' : (j : Int) < (m.length : Int) := by omega
            clear h2 h3 hp2 hq2 hel
            go_wp2_with fail
            have e1 : IntKind.i64.wrap ((l.length : Int) + (j : Int)) = (l.length : Int) + (j : Int) := IntWalk.i64_in _ (by omega)
            have e2 : (l.length : Int) + (j : Int) < (l.length : Int) + (m.length : Int) := by omega
            have e3 : 0 ≤ (l.length : Int) + (j : Int) := by omega
            have e4 : ((l.length : Int) + (j : Int)).toNat = l.length + j := by omega
            go_quiet (fail)
            go_wp2_with fail
            go_roundg (gk - 1)
            case measure => omega
            case rel => exact ⟨j + 1, n + nq, by omega, by go_num, rfl⟩
          · have hbn := below_drewN hb8' n
            go_wp2_with fail
            refine (first_true _ (HG.out.keep hbn) (HT.out.keep hbn)).mono ?_
            rintro e w9 ⟨rfl, hb9⟩
            have hb9' := hbn.trans (hb9.mono hbn.size)
            have hr9 := (below_drewN (Below.refl w8.heap.size w8) n).trans (hb9.mono (Nat.le_refl _))
            go_wp2_with fail
            refine (Of_code _ (HG.out.keep hb9') (HEA8.out.below hr9)).mono ?_
            rintro e w10 ⟨rfl, hb10⟩
            have hb10' := hb9'.trans (hb10.mono hb9'.size)
            have hr10 := hr9.trans (hb10.mono hr9.size)
            go_wp2_with fail
            refine (Of_code _ (HG.out.keep hb10') (HEB8.out.below hr10)).mono ?_
            rintro e w11 ⟨rfl, hb11⟩
            have hcc : (c == c) = true := by simp
            go_wp2_with fail
            go_ret
            exact ⟨rfl, hb10'.trans (hb11.mono hb10'.size)⟩
      | succ j =>
        obtain ⟨b2, o2, rfl, h2⟩ := HR.out.2 (by omega)
        have hlt : j < l.length := by omega
        have k1 := cell_keep (h2 _ _ (flatP_get l j hlt).1) hb
        have q1 := cell_keep (h2 _ _ (flatP_get l j hlt).2) hb
        rw [← Nat.add_assoc] at q1
        have hlt' : (j : Int) < (l.length : Int) := by omega
        rw [show ((j + 1 : Nat) : Int) - 1 = (j : Int) by omega]
        obtain ⟨T, x, rfl⟩ := hE.iface
        have HE := Lib.hid hE
        have HB := Lib.hid hb
        have HBR := Lib.hid hbr
        clear h2 hE hb hbr
        go_wp2_with fail
        go_region_held3 (fun W => W.cell? ⟨b2, o2 + j * 2, none⟩ = some (.string l[j].1) ∧ W.cell? ⟨b2, o2 + j * 2 + 1, none⟩ = some (.int .i64 l[j].2))
          (first | go_keep | (go_split_ands; refine ⟨cell_keep (by assumption) hb1', cell_keep (by assumption) hb1'⟩))
          ((go_at_call 18; refine (In_some _ _ _ _ _).mono ?_; rintro e w3 ⟨rfl, hB1, hb1'⟩))
        have hb3 : Below w.heap.size w w3 := HB.out.drew.trans (hb1'.mono HB.out.size)
        have hb3r : Below w2.heap.size w2 w3 := HBR.out.drew.trans (hb1'.mono HBR.out.size)
        have HE3 : Hid (ErrAt w3 (l.drop j ++ m) (.iface 23 (.int .i64 c)) (.iface 36 (.pointer (some ⟨wr.heap.size, 0, none⟩)))) := by
          rw [List.drop_eq_getElem_cons hlt]
          exact ⟨_, _, rfl, hB1, HE.out.below ((Below.refl wr.heap.size wr).drew.trans hb1')⟩
        go_wp2_with fail
        go_roundg j
        case measure => omega
        case rel => exact ⟨j, rfl, by omega, rfl, HE3.out, hb3, hb3r⟩
  · by_cases hf1 : Fa.few l = true
    · have hf2 : Fa.few m = false := by
        by_cases h : Fa.few m = true
        · exact absurd ⟨hf1, h⟩ hf
        · simpa using h
      rw [hf1]
      clear hf
      go_wp2_with fail
      refine (few_any hm _ (HS.out.keep hb1)).mono ?_
      rintro e w2 ⟨rfl, rfl⟩
      rw [hf2]
      clear hf1 hf2
      go_wp2_with fail
      refine (first_true _ (HG.out.keep hb1) (HT.out.keep hb1)).mono ?_
      rintro e w2 ⟨rfl, hb2⟩
      go_wp2_with fail
      go_ret
      exact ⟨rfl, hb1.trans (hb2.mono hb1.size)⟩
    · have hf' : Fa.few l = false := by simpa using hf1
      rw [hf']
      clear hf hf1 hf'
      go_wp2_with fail
      refine (first_true _ (HG.out.keep hb1) (HT.out.keep hb1)).mono ?_
      rintro e w2 ⟨rfl, hb2⟩
      go_wp2_with fail
      go_ret
      exact ⟨rfl, hb1.trans (hb2.mono hb1.size)⟩

end Go.Proofs.YtjlaljbmcncciaaDoor
