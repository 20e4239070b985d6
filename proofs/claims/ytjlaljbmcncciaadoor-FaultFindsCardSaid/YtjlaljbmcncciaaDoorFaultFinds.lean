/- The walk of FaultFinds: errors.Is, errors.As, errors.Unwrap through all wraps. -/
import Derived.Test.YtjlaljbmcncciaaDoorFaultFirst
import Derived.Test.YtjlaljbmcncciaaDoorQuiet
namespace Go.Proofs.YtjlaljbmcncciaaDoor
open Go Go.RowKit Go.Extern.Stop Go.Stop Go.Extern

set_option maxRecDepth 100000 in
set_option maxHeartbeats 2000000 in
theorem FaultFinds_walk {l : Fa.Steps} {c d : Int} {A : Option Addr} {cap : Nat} (hn : l.length ≤ 9223372036854775807)
    (w : World) (hg : Gl w) (hT : Tb w) (hr : Rd w 2 A l.length (flatP l)) :
    Calls Tryd.prog 6 #[.slice A l.length cap, .int .i64 c, .int .i64 d] w fun e w' => e = .returned (.bool true) ∧ Below w.heap.size w w' := by
  have HG := Lib.hid hg
  have HT := Lib.hid hT
  have HR := Lib.hid hr
  clear hg hT hr
  go_enter Tryd.func6, Tryd.ntmps6
  go_wp2_with fail
  refine (first_true _ HG.out HT.out).mono ?_
  rintro e w1 ⟨rfl, hb1⟩
  go_wp2_with fail
  refine (few_any hn _ (HR.out.keep hb1)).mono ?_
  rintro e w2 ⟨rfl, rfl⟩
  by_cases hf : Fa.few l = true
  · rw [hf]
    have hlen := Fa.few_len hf
    clear hf
    go_wp2_with fail
    refine (wrapped_any hn _ (HR.out.keep hb1)).mono ?_
    rintro e w2 ⟨v, rfl, hE, hb2⟩
    have hb2' : Below w.heap.size w w2 := hb1.trans (hb2.mono hb1.size)
    obtain ⟨T, x, rfl⟩ := hE.iface
    have HE := Lib.hid hE
    clear hE
    go_wp2_with fail
    refine (Is_code _ HE.out).mono ?_
    rintro e w3 ⟨rfl, rfl⟩
    rw [show (c == c) = true by simp]
    go_wp2_with fail
    refine (Is_code _ HE.out).mono ?_
    rintro e w3 ⟨rfl, rfl⟩
    obtain ⟨D, hD⟩ : ∃ D : Bool, (c == d) = D := ⟨_, rfl⟩
    rw [hD]
    go_wp2_with fail
    refine (FIs_code _ HE.out).mono ?_
    rintro e w3 ⟨rfl, rfl⟩
    rw [hD]
    have hblk : Blk (w2.alloc (.cells #[.pointer none] 36)) w2.heap.size 36 #[.pointer none] := Blk.new w2 _ _
    have HK := Lib.hid hblk
    have hbn : Below w.heap.size w (w2.alloc (.cells #[.pointer none] 36)) := hb2'.alloc hb2'.size _
    have HB := Lib.hid hbn
    clear hblk hbn
    cases l with
    | nil =>
      have hE := HE.out
      obtain ⟨rfl, rfl⟩ : 23 = T ∧ Value.int .i64 c = x := by unfold ErrAt at hE; injection hE with h1 h2; exact ⟨h1.symm, h2.symm⟩
      clear hE
      go_wp2_with fail
      have cA := fun p => Calls.grown (w := w2.alloc (.cells #[.pointer none] 36)) (fun w' hb => As_fault_code (c := c) w' (HG.out.keep (HB.out.trans (hb.mono HB.out.size))) (HK.out.keep hb)) p
      have CA := Lib.hid cA
      clear cA
      refine hq_start (by kernel_rfl) (by kernel_rfl) ?_
      repeat (
        refine hq_step (fun K hK => ?_)
        go_simp
        first
          | (refine hK _ ?_; clear hK K)
          | (apply Exists.intro
             refine ⟨fun _ => ?_, hK _ ?_⟩
             · exact CA.out _
             clear hK K))
      refine hq_nil ?_
      intro wq hwq
      have hbq := HB.out.trans ((Grown.below hwq).mono HB.out.size)
      clear hwq
      have HB2 := Lib.hid hbq
      clear hbq
      go_wp2_with fail
      refine wp_loop_rounds 1 ?_
      rw [rounds_succ]
      go_wp2_with fail
      refine (first_true _ (HG.out.keep HB2.out) (HT.out.keep HB2.out)).mono ?_
      rintro e w5 ⟨rfl, hb5⟩
      have hb5' := HB2.out.trans (hb5.mono HB2.out.size)
      go_wp2_with fail
      refine (Is_code (path := []) (c := c) _ rfl).mono ?_
      rintro e w6 ⟨rfl, rfl⟩
      rw [show (c == c) = true by simp]
      go_wp2_with fail
      refine (Unwrap_code c _).mono ?_
      rintro e w6 ⟨rfl, rfl⟩
      go_wp2_with fail
      go_ret
      exact ⟨rfl, hb5'⟩
    | cons a r =>
      obtain ⟨s, p⟩ := a
      have hE := HE.out
      obtain ⟨b, u, hv, hF, hE'⟩ := hE
      obtain ⟨rfl, rfl⟩ : 36 = T ∧ Value.pointer (some ⟨b, 0, none⟩) = x := by injection hv with h1 h2; exact ⟨h1.symm, h2.symm⟩
      obtain ⟨b3, o3, rfl, h3⟩ := HR.out.2 (by simp)
      have q0 := h3 0 (.string s) rfl
      have q1 := h3 1 (.int .i64 p) rfl
      rw [Nat.add_zero] at q0
      have hb3 : b3 < w.heap.size := lt_of_cell q0
      have hbw2 : b < w2.heap.size := hF.lt
      have hlen0 : (0 : Int) < ((r.length : Int) + 1) := by omega
      have Q0 := Lib.hid (cell_keep q0 HB.out)
      have Q1 := Lib.hid (cell_keep q1 HB.out)
      have HF := Lib.hid (hF.alloc (.cells #[.pointer none] 36))
      have hwl : w.heap.size ≤ w2.heap.size := hb2'.size
      have key : ∀ w4, SetTo (w2.alloc (.cells #[.pointer none] 36)).drew w2.heap.size 36 (.pointer (some ⟨b, 0, none⟩)) w4 →
          w4.cell? ⟨w2.heap.size, 0, none⟩ = some (.pointer (some ⟨b, 0, none⟩)) ∧ w4.cell? ⟨b, 0, none⟩ = some (.string s) ∧ w4.cell? ⟨b, 1, none⟩ = some (.int .i64 p) ∧ w4.cell? ⟨b3, o3, none⟩ = some (.string s) ∧ w4.cell? ⟨b3, o3 + 1, none⟩ = some (.int .i64 p) := by
        intro w4 hs4
        have hFF := HF.out.drew.grown hs4.1 (by simp; omega)
        refine ⟨by rw [hs4.2.cell]; rfl, by rw [hFF.cell]; rfl, by rw [hFF.cell]; rfl, ?_, ?_⟩
        · exact (hs4.1.cell_far ⟨b3, o3, none⟩ (by simp; omega) (by simp; omega)).trans Q0.out
        · exact (hs4.1.cell_far ⟨b3, o3 + 1, none⟩ (by simp; omega) (by simp; omega)).trans Q1.out
      have KEY := Lib.hid key
      clear hE' h3 q0 q1 hF hv key
      go_wp2_with fail
      refine wp_region_any (by kernel_rfl) ?_
      change wpAny _ _ _ _ _ _ _ (World.drew _)
      refine wpAny_take' 0 (some 43) (.iface 36 (.pointer (some ⟨b, 0, none⟩))) rfl rfl (by kernel_rfl) (by kernel_rfl) (by kernel_rfl) (fun _ _ _ h => h) (Or.inl ⟨by rfl, ?_⟩) ?_
      · intro w
        go_simp
      simp only [Act.put, List.setIfInBounds_toArray, List.set_cons_zero, List.set_cons_succ]
      refine wpAny_take' 1 (some 44) (.iface 47 (.pointer (some ⟨w2.heap.size, 0, none⟩))) rfl rfl (by kernel_rfl) (by kernel_rfl) (by kernel_rfl) (fun _ _ _ h => h) (Or.inl ⟨by rfl, ?_⟩) ?_
      · intro w
        go_simp
      simp only [Act.put, List.setIfInBounds_toArray, List.set_cons_zero, List.set_cons_succ]
      refine wpAny_take' 3 (some 46) (.slice (some ⟨b3, o3, none⟩) (r.length + 1) cap) rfl rfl (by kernel_rfl) (by kernel_rfl) (by kernel_rfl) (fun _ _ _ h => h) (Or.inl ⟨by rfl, ?_⟩) ?_
      · intro w
        go_simp
      simp only [Act.put, List.setIfInBounds_toArray, List.set_cons_zero, List.set_cons_succ]
      refine wpAny_take' 4 (some 47) (.int .i64 ((r.length : Int) + 1)) rfl rfl (by kernel_rfl) (by kernel_rfl) (by kernel_rfl) (fun _ _ _ h => h) (Or.inl ⟨by rfl, ?_⟩) ?_
      · intro w
        go_simp
      simp only [Act.put, List.setIfInBounds_toArray, List.set_cons_zero, List.set_cons_succ]
      refine wpAny_take' 5 (some 48) (.bool true) rfl rfl (by kernel_rfl) (by kernel_rfl) (by kernel_rfl) (fun _ _ _ h => h) (Or.inl ⟨by rfl, ?_⟩) ?_
      · intro w
        go_simp
      simp only [Act.put, List.setIfInBounds_toArray, List.set_cons_zero, List.set_cons_succ]
      refine wpAny_ready (rs := [2]) (by kernel_rfl) (by simp) ?_
      refine AllReady.cons rfl (fun K hK => ?_) AllReady.nil
      go_simp
      refine (As_fault _ (HG.out.keep HB.out.drew) HK.out.drew).mono ?_
      rintro e w4 ⟨rfl, hs4⟩
      obtain ⟨g0, g1, g2, g3, g4⟩ := KEY.out w4 hs4
      refine hK _ _ ?_
      clear hK K
      refine wpAny_lexQ 6 _ _ rfl rfl (by kernel_rfl) (by kernel_rfl) ?_
      repeat (
        refine hq_step (fun K hK => ?_)
        go_simp
        refine hK _ ?_
        clear hK K)
      refine hq_nil ?_
      rintro wq ⟨nq, rfl⟩
      have hb4 : Below w.heap.size w w4 := HB.out.drew.grown hs4.1 HB.out.size (fun k hk => by have := hwl; injection hk with hk; omega)
      have hb4n : Below w.heap.size w (w4.drewN nq) := below_drewN hb4 nq
      have HE4 : ErrAt (w4.drewN nq) ((s, p) :: r) (.iface 23 (.int .i64 c)) (.iface 36 (.pointer (some ⟨b, 0, none⟩))) :=
        HE.out.keep fun g cs hB => ((hB.alloc (.cells #[.pointer none] 36)).drew.grown hs4.1 (by have := hB.lt; simp; omega)).drewN nq
      have HEE := Lib.hid HE4
      have HB4 := Lib.hid hb4n
      obtain ⟨L, hL⟩ : ∃ L : Fa.Steps, (s, p) :: r = L := ⟨_, rfl⟩
      have hlen2 : r.length + 1 = L.length := by rw [← hL]; rfl
      have HLL := Lib.hid hlen2
      rw [hL] at HEE
      clear HE4 hb4 hb4n g0 g1 g2 g3 g4 hs4 Q0 Q1 HF KEY hlen0 hlen2
      obtain ⟨w9, hw9⟩ : ∃ w9, w9 = w4.drewN nq := ⟨_, rfl⟩
      rw [← hw9] at HEE HB4 ⊢
      clear hw9
      have hlenL : L.length ≤ 400 := by rw [← hL]; exact hlen
      clear hn hlen
      go_wp2_with fail
      go_loopg [7, 9] L.length (fun k v i wr => ∃ j, j + k = L.length ∧ i = .int .i64 j ∧ ErrAt wr (L.drop j) (.iface 23 (.int .i64 c)) v ∧ Below w.heap.size w wr)
      case atStart => exact ⟨0, by omega, rfl, HEE.out, HB4.out⟩
      case round =>
        obtain ⟨j, hj, rfl, hE, hb⟩ := hrel
        obtain ⟨T, x, rfl⟩ := hE.iface
        have HE := Lib.hid hE
        have HBR := Lib.hid hb
        clear hE hb
        by_cases hlt : j < L.length
        · have hlt' : (j : Int) < (r.length : Int) + 1 := by have := HLL.out; omega
          obtain ⟨m, hm⟩ : ∃ m, (L.drop j).length = m := ⟨_, rfl⟩
          have hm' : (m : Int) = (r.length : Int) + 1 - j := by rw [List.length_drop] at hm; have := HLL.out; omega
          have hm400 : m ≤ 400 := by have := HLL.out; omega
          have HM := Lib.hid hm
          have hm1 : ((r.length : Int) + 1 - j) = (m : Int) := hm'.symm
          clear hm hm'
          go_wp2_with fail
          refine (Of_code _ (HG.out.keep HBR.out) HE.out).mono ?_
          rintro e w10 ⟨rfl, hb10⟩
          have hb10' := HBR.out.trans (hb10.mono HBR.out.size)
          have hcc : (c != c) = false := by simp
          go_wp2_with fail
          refine (Path_any (path := L.drop j) (by rw [HM.out]; omega) (Tail.code c) _ (HG.out.keep hb10') (HE.out.below hb10)).mono ?_
          unfold PathOut
          rintro e w11 ⟨B, cb, rfl, _, hb11⟩
          rw [HM.out]
          have hb11' := hb10'.trans (hb11.mono hb10'.size)
          have hE11 := (HE.out.below hb10).below hb11
          rw [List.drop_eq_getElem_cons hlt] at hE11
          obtain ⟨g, u, hv, hF, hE'⟩ := hE11
          obtain ⟨rfl, rfl⟩ : 36 = T ∧ Value.pointer (some ⟨g, 0, none⟩) = x := by injection hv with h1 h2; exact ⟨h1.symm, h2.symm⟩
          clear hv
          have HF := Lib.hid hF
          have HE2 := Lib.hid hE'
          clear hF hE'
          go_wp2_with (go_at_call 22; refine (Unwrap_fault _ _ _ _ _ HF.out).mono ?_; rintro e w12 ⟨rfl, rfl⟩)
          go_roundg (gk - 1)
          case measure => omega
          case rel => exact ⟨j + 1, by omega, by go_num, HE2.out, hb11'⟩
        · obtain rfl : j = L.length := by omega
          have hE := HE.out
          rw [List.drop_length] at hE
          obtain ⟨rfl, rfl⟩ : 23 = T ∧ Value.int .i64 c = x := by unfold ErrAt at hE; injection hE with h1 h2; exact ⟨h1.symm, h2.symm⟩
          clear hE
          have hge : ¬ (L.length : Int) < (r.length : Int) + 1 := by have := HLL.out; omega
          go_wp2_with fail
          refine (first_true _ (HG.out.keep HBR.out) (HT.out.keep HBR.out)).mono ?_
          rintro e w5 ⟨rfl, hb5⟩
          have hb5' := HBR.out.trans (hb5.mono HBR.out.size)
          go_wp2_with fail
          refine (Is_code (path := []) (c := c) _ rfl).mono ?_
          rintro e w6 ⟨rfl, rfl⟩
          rw [show (c == c) = true by simp]
          go_wp2_with fail
          refine (Unwrap_code c _).mono ?_
          rintro e w6 ⟨rfl, rfl⟩
          go_wp2_with fail
          go_ret
          exact ⟨rfl, hb5'⟩
  · have hf' : Fa.few l = false := by simpa using hf
    rw [hf']
    clear hf hf'
    go_wp2_with fail
    refine (first_true _ (HG.out.keep hb1) (HT.out.keep hb1)).mono ?_
    rintro e w2 ⟨rfl, hb2⟩
    go_wp2_with fail
    go_ret
    exact ⟨rfl, hb1.trans (hb2.mono hb1.size)⟩

end Go.Proofs.YtjlaljbmcncciaaDoor
