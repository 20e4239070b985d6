/- Contracts: few; frames held against one another (kinref.Frame, kinref.Frames). -/
import Derived.Test.YtnccebfapihpjaaGreatDoorFrames
import Derived.Test.YtnccebfapihpjaaGreatDoorQuietTail
namespace Go.Proofs.YtnccebfapihpjaaGreatDoor
open Go Go.RowKit Go.Extern.Stop Go.Stop Go.Extern

/-- How many samples, each frame's cut off. -/
def cntF (l : List Frm) : Nat := (l.map fun f => min f.pix.length 20001).sum
def fewF (l : List Frm) : Bool := decide (l.length ≤ 40) && decide (cntF (l.take 40) ≤ 20000)
theorem cnt_snoc {l : List Frm} {j : Nat} (h : j < l.length) : cntF (l.take (j + 1)) = cntF (l.take j) + min l[j].pix.length 20001 := by
  rw [List.take_succ_eq_append_getElem h]
  unfold cntF
  rw [List.map_append, List.sum_append]
  simp only [List.map_cons, List.map_nil, List.sum_cons, List.sum_nil, Nat.add_zero]
theorem cnt_le (l : List Frm) : cntF l ≤ 20001 * l.length := by
  induction l with
  | nil => simp [cntF]
  | cons f r ih => simp only [cntF, List.map_cons, List.sum_cons, List.length_cons] at *; omega

set_option maxRecDepth 100000 in
set_option maxHeartbeats 1000000 in
theorem few_any {l : List Frm} {A : Option Addr} {c : Nat} (hl : l.length ≤ 9223372036854775807) (w : World) (ha : RdF w A l) :
    Calls Tryz.prog 6 #[.slice A l.length c] w fun e w' => e = .returned (.bool (fewF l)) ∧ w = w' := by
  have HA := Lib.hid ha
  clear ha
  go_enter Tryz.func6, Tryz.ntmps6
  go_wp2_with fail
  go_loopg [3, 4] (40 : Nat) (fun k n i wr => ∃ j, j + k = 40 ∧ j ≤ l.length ∧ i = .int .i64 j ∧ n = .int .i64 (cntF (l.take j)) ∧ wr = w)
  case atStart => exact ⟨0, by omega, by omega, rfl, rfl, rfl⟩
  case round =>
    obtain ⟨j, hj, hjl, rfl, rfl, rfl⟩ := hrel
    have hc1 : cntF (l.take j) ≤ 20001 * j := by
      have := cnt_le (l.take j)
      rw [List.length_take] at this
      have h2 : min j l.length = j := by omega
      rw [h2] at this
      exact this
    by_cases hlt : j < l.length
    · by_cases h40 : j < 40
      · obtain ⟨m, rfl⟩ : ∃ m, gk = m + 1 := ⟨gk - 1, by omega⟩
        have hlt' : (j : Int) < (l.length : Int) := by omega
        have h40' : (j : Int) < 40 := by omega
        obtain ⟨b3, o3, rfl, -, -, y2⟩ := HA.out.at_ hlt
        have hsn := Lib.hid (cnt_snoc hlt)
        obtain ⟨hp1, hp2⟩ := HA.out.pix hlt
        obtain ⟨q, hq⟩ : ∃ q, l[j].pix.length = q := ⟨_, rfl⟩
        rw [hq] at y2 hsn hp2
        clear hp1 hq
        rcases Nat.lt_or_ge q 20001 with h | h
        · have hmin : min (q : Int) 20001 = q := by omega
          have hmn : min q 20001 = q := by omega
          rw [hmn] at hsn
          have hc2 : cntF (l.take j) + q ≤ 900000 := by omega
          clear hmn
          go_wp2_with fail
          go_roundg m
          case measure => omega
          case rel => exact ⟨j + 1, by omega, by omega, by go_num, by rw [hsn.out]; go_num, rfl⟩
        · have hmin : min (q : Int) 20001 = 20001 := by omega
          have hmn : min q 20001 = 20001 := by omega
          rw [hmn] at hsn
          have hc2 : cntF (l.take j) + 20001 ≤ 900000 := by omega
          clear hmn
          go_wp2_with fail
          go_roundg m
          case measure => omega
          case rel => exact ⟨j + 1, by omega, by omega, by go_num, by rw [hsn.out]; go_num, rfl⟩
      · obtain rfl : j = 40 := by omega
        have hf : fewF l = false := by unfold fewF; rw [decide_eq_false (by omega : ¬ l.length ≤ 40), Bool.false_and]
        have HF := Lib.hid hf
        have h40' : 40 < (l.length : Int) := by omega
        clear hf
        go_wp2_with fail
        go_ret
        exact ⟨by rw [HF.out]; rfl, rfl⟩
    · obtain rfl : j = l.length := by omega
      have ht4 : l.take 40 = l := List.take_of_length_le (by omega)
      have htl : l.take l.length = l := List.take_length
      have hf : fewF l = decide (cntF l ≤ 20000) := by unfold fewF; rw [ht4, decide_eq_true (by omega : l.length ≤ 40), Bool.true_and]
      have HF := Lib.hid hf
      have h40' : (l.length : Int) ≤ 40 := by omega
      rw [htl] at hc1 ⊢
      clear hf ht4 htl
      by_cases hc : (cntF l : Int) ≤ 20000
      · have hd := Lib.hid (decide_eq_true (by omega : cntF l ≤ 20000))
        go_wp2_with fail
        go_ret
        exact ⟨by rw [HF.out, hd.out]; rfl, rfl⟩
      · have hd := Lib.hid (decide_eq_false (by omega : ¬ cntF l ≤ 20000))
        go_wp2_with fail
        go_ret
        exact ⟨by rw [HF.out, hd.out]; rfl, rfl⟩

set_option maxRecDepth 100000 in
set_option maxHeartbeats 1000000 in
theorem Frame_same {w h : Int} {pix : List Int} {A B : Option Addr} {c d : Nat} (hl : pix.length ≤ 9223372036854775807) (W : World) (ha : RdI .i64 W A pix) (hb : RdI .i64 W B pix) :
    Calls Tryz.prog 35 #[.agg #[.int .i64 w, .int .i64 h, .slice A pix.length c], .agg #[.int .i64 w, .int .i64 h, .slice B pix.length d]] W fun e w' => e = .returned (.bool true) ∧ Below W.heap.size W w' := by
  have hb1 : Below W.heap.size W (W.alloc (.cells #[.int .i64 w, .int .i64 h, .slice A pix.length c] 48)) := (Below.refl _ _).alloc (Nat.le_refl _) _
  have HB1 := Lib.hid (hb1.alloc hb1.size (.cells #[.int .i64 w, .int .i64 h, .slice B pix.length d] 48))
  have C := Lib.hid (fun W' (hW : Below W.heap.size W W') => Ints_same (c := c) (d := d) hl W' (ha.keep hW) (hb.keep hW))
  have e1 : (w == w) = true := by simp
  have e2 : (h == h) = true := by simp
  clear hb1 ha hb
  go_enter Tryz.func35, Tryz.ntmps35
  go_wp2_with fail
  refine (C.out _ HB1.out).mono ?_
  rintro e w1 ⟨rfl, hb1⟩
  have HB2 := Lib.hid (HB1.out.trans (hb1.mono HB1.out.size))
  clear hb1
  go_wp2_with fail
  go_ret
  exact ⟨rfl, HB2.out⟩

/-- Two frames that hold the same. -/
def sameF (f g : Frm) : Prop := f.w = g.w ∧ f.h = g.h ∧ f.pix = g.pix

set_option maxRecDepth 100000 in
set_option maxHeartbeats 1000000 in
theorem Frames_same {l m : List Frm} {A B : Option Addr} {c d : Nat} (hl : l.length ≤ 9223372036854775807) (hlen : l.length = m.length) (hs : ∀ i (h : i < l.length) (h' : i < m.length), sameF l[i] m[i]) (W : World) (ha : RdF W A l) (hb : RdF W B m) :
    Calls Tryz.prog 12 #[.slice A l.length c, .slice B m.length d] W fun e w' => e = .returned (.bool true) ∧ Below W.heap.size W w' := by
  have HA := Lib.hid ha
  have HB := Lib.hid hb
  have HS := Lib.hid hs
  have HM := Lib.hid hlen
  obtain ⟨n, hn⟩ : ∃ n, l.length = n := ⟨_, rfl⟩
  rw [← hlen, hn]
  rw [hn] at hl
  have HN := Lib.hid hn
  have hne : ((n : Int) != (n : Int)) = false := by simp
  clear ha hb hs hlen hn
  go_enter Tryz.func12, Tryz.ntmps12
  go_wp2_with fail
  clear hne
  go_loopg [5] n (fun k i wr => ∃ j : Nat, j + k = n ∧ i = .int .i64 j ∧ Below W.heap.size W wr)
  case atStart => exact ⟨0, by omega, rfl, Below.refl _ _⟩
  case round =>
    obtain ⟨j, hj, rfl, hbel⟩ := hrel
    have HBEL := Lib.hid hbel
    by_cases hlt : j < n
    · obtain ⟨q, rfl⟩ : ∃ q, gk = q + 1 := ⟨gk - 1, by omega⟩
      have h1 : j < l.length := by rw [HN.out]; exact hlt
      have h2 : j < m.length := by rw [← HM.out]; exact h1
      obtain ⟨b3, o3, rfl, y0, y1, y2⟩ := (HA.out.keep hbel).at_ h1
      obtain ⟨b4, o4, rfl, z0, z1, z2⟩ := (HB.out.keep hbel).at_ h2
      obtain ⟨hp1, hp2⟩ := (HA.out.keep hbel).pix h1
      obtain ⟨hr1, -⟩ := (HB.out.keep hbel).pix h2
      obtain ⟨s1, s2, s3⟩ := HS.out j h1 h2
      obtain ⟨f, hf⟩ : ∃ f, l[j] = f := ⟨_, rfl⟩
      obtain ⟨g, hg⟩ : ∃ g, m[j] = g := ⟨_, rfl⟩
      rw [hf] at y0 y1 y2 hp1 hp2 s1 s2 s3
      rw [hg] at z0 z1 z2 hr1 s1 s2 s3
      obtain ⟨w9, h9, A9, p9, c9⟩ := f
      obtain ⟨w8, h8, A8, p8, c8⟩ := g
      simp only at y0 y1 y2 hp1 hp2 s1 s2 s3 z0 z1 z2 hr1
      subst s1 s2 s3
      have D : ∀ w', Below wr.heap.size wr w' → Calls Tryz.prog 35 #[.agg #[.int .i64 w9, .int .i64 h9, .slice A9 p9.length c9], .agg #[.int .i64 w9, .int .i64 h9, .slice A8 p9.length c8]] w' fun e w'' => e = .returned (.bool true) ∧ Below w'.heap.size w' w'' :=
        fun w' hb' => Frame_same hp2 w' (hp1.keep hb') (hr1.keep hb')
      have C3 := Lib.hid (Calls.grown D)
      have G0 := fun p : Go.Regrown => Go.cell_regrown y0 p.d p.os
      have G1 := fun p : Go.Regrown => Go.cell_regrown y1 p.d p.os
      have G2 := fun p : Go.Regrown => Go.cell_regrown y2 p.d p.os
      have G3 := fun p : Go.Regrown => Go.cell_regrown z0 p.d p.os
      have G4 := fun p : Go.Regrown => Go.cell_regrown z1 p.d p.os
      have G5 := fun p : Go.Regrown => Go.cell_regrown z2 p.d p.os
      have hj0 : (0 : Int) ≤ (j : Int) := by omega
      have hj1 : (j : Int) < (n : Int) := by omega
      clear hp1 hp2 hr1 hf hg D hbel
      go_wp2_with fail
      (refine hq_start (by kernel_rfl) (by kernel_rfl) ?_; (repeat (refine hq_step (fun K hK => ?_); go_simp; first | (refine hK _ ?_; clear hK K) | (apply Exists.intro; refine ⟨fun _ => ?_, hK _ ?_⟩; (focus (with_reducible exact C3.out _)); clear hK K))); (refine hq_nil ?_))
      intro wq hwq
      have hbq := hwq.below
      have HBQ := Lib.hid (HBEL.out.trans (hbq.mono HBEL.out.size))
      clear hbq hwq G0 G1 G2 G3 G4 G5 C3 y0 y1 y2 z0 z1 z2
      go_wp2_with fail
      go_roundg q
      case measure => omega
      case rel => exact ⟨j + 1, by omega, by go_num, HBQ.out⟩
    · obtain rfl : j = n := by omega
      obtain rfl : gk = 0 := by omega
      clear hbel
      go_wp2_with fail
      go_ret
      exact ⟨rfl, HBEL.out⟩

end Go.Proofs.YtnccebfapihpjaaGreatDoor
