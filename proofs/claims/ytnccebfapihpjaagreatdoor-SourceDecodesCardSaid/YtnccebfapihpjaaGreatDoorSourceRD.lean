/- Contract of kinref15.Decode: heads that may not be. -/
import Derived.Test.YtnccebfapihpjaaGreatDoorSourceRF
import Derived.Test.YtnccebfapihpjaaGreatDoorSourceDf
namespace Go.Proofs.YtnccebfapihpjaaGreatDoor
open Go Go.RowKit Go.Extern.Stop Go.Stop Go.Extern

/-- What kinref15.Decode answers. -/
def RDecOut (w : World) (b : List Int) (e : Ending) (w' : World) : Prop :=
  (match decF b with
   | .ok fs => ∃ A c l A2 c2, e = .returned (.tuple #[.slice A l.length c, .agg #[.int .i64 0, .slice A2 0 c2]]) ∧ RdF w' A l ∧ l.map Frm.pix = fs ∧ ∀ f ∈ l, f.w = wOf b ∧ f.h = hOf b
   | .error pc => ∃ A cap, e = .returned (.tuple #[.slice none 0 0, .agg #[.int .i64 pc.2, .slice A pc.1.length cap]]) ∧ Rd w' 2 A pc.1.length (flatP pc.1)) ∧
  Below w.heap.size w w'

/-- An error, stored into the result's cell. -/
theorem RDecOut.err {w W w1 : World} {b : List Int} {path : List (ByteArray × Int)} {k : Int} {A : Option Addr} {cap : Nat} (hd : decF b = .error (path, k)) (hz : Blk w1 w.heap.size 34 #[.int .i64 0, .slice none 0 0])
    (hW : w.heap.size < W.heap.size) (hbW : Below w.heap.size w W) (hr : Rd w1 2 A path.length (flatP path)) (hf : ∀ a, A = some a → W.heap.size ≤ a.block) (hb : Below W.heap.size W w1) :
    RDecOut w b (.returned (.tuple #[.slice none 0 0, .agg #[.int .i64 k, .slice A path.length cap]])) ((w1.setCell ⟨w.heap.size, 0, none⟩ (.int .i64 k)).setCell ⟨w.heap.size, 1, none⟩ (.slice A path.length cap)) := by
  obtain ⟨hc, -⟩ := er_set (a' := .int .i64 k) (b' := .slice A path.length cap) hz
  have hb1 := hbW.trans (hb.mono hbW.size)
  unfold RDecOut
  rw [hd]
  exact ⟨⟨A, cap, rfl, hr.chg hc (fun a ha e => by have := hf a ha; omega)⟩, hb1.trans (hc.below hb1.size (fun i e => by omega))⟩

theorem RDecode_1 {b : List Int} {A : Option Addr} {c : Nat} (h5 : b.length < 5) (w : World) :
    Calls Tryz.prog 15 #[.slice A b.length c] w (RDecOut w b) := by
  have hd := Lib.hid (dec_headed (b := b) (c := 1) (by unfold headF; rw [if_pos h5]) (by decide))
  have hb0 : Below w.heap.size w (w.alloc (.cells #[.int .i64 0, .slice none 0 0] 34)) := (Below.refl _ _).alloc (Nat.le_refl _) _
  have HB0 := Lib.hid hb0
  have HZ0 := Lib.hid (Blk.new w 34 #[.int .i64 0, .slice none 0 0])
  clear hb0
  go_enter Tryz.func15, Tryz.ntmps15
  go_wp2_with fail
  refine (Wrap_any _ _ (by decide) _).mono ?_
  unfold EOut
  rintro e w1 ⟨A1, cap1, rfl, hr1, hf1, hb1⟩
  have hz1 := HZ0.out.keep hb1
  obtain ⟨⟨r0, r1⟩, f0, f1⟩ := er_cells hz1
  obtain ⟨-, hs⟩ := er_set (a' := .int .i64 1) (b' := .slice A1 1 cap1) hz1
  obtain ⟨⟨s0, s1⟩, -⟩ := er_cells hs
  have HE := Lib.hid (RDecOut.err (cap := cap1) hd.out hz1 (by simp) HB0.out hr1 hf1 hb1)
  clear hr1 hf1 hb1 hz1 hs
  go_wp2_with fail
  refine bodyPost_ret (v := .tuple #[.slice none 0 0, .agg #[.int .i64 1, .slice A1 1 cap1]]) (by simp [results, Tryz.results15, go_sem, s0, s1]) rfl ?_
  exact HE.out

set_option maxRecDepth 100000 in
set_option maxHeartbeats 1000000 in
theorem RDecode_2 {b : List Int} {A : Option Addr} {c : Nat} (h5 : 5 ≤ b.length) (hbd : ∀ x ∈ b, 0 ≤ x ∧ x ≤ 255) (h2 : ¬ (b.getD 0 0 = 75 ∧ b.getD 1 0 = 83)) (w : World) (ha : RdI .u8 w A b) :
    Calls Tryz.prog 15 #[.slice A b.length c] w (RDecOut w b) := by
  have hd := Lib.hid (dec_headed (b := b) (c := 2) (by unfold headF; rw [if_neg (by omega), if_pos h2]) (by decide))
  obtain ⟨q, o, n0, n1, n2, n3, n4, rfl, HN, ⟨hn0, hn1, -⟩, k0, k1, -⟩ := head_cells ha h5 hbd
  rw [HN.out.1, HN.out.2.1] at h2
  have hb0 : Below w.heap.size w (w.alloc (.cells #[.int .i64 0, .slice none 0 0] 34)) := (Below.refl _ _).alloc (Nat.le_refl _) _
  have HB0 := Lib.hid hb0
  have HZ0 := Lib.hid (Blk.new w 34 #[.int .i64 0, .slice none 0 0])
  have hq : (n0 = 75 ∧ ((n1 : Int) != 83) = true) ∨ ((n0 : Int) != 75) = true := by
    by_cases h75 : n0 = 75
    · refine .inl ⟨h75, ?_⟩
      rw [bne_iff_ne]
      intro e
      exact h2 ⟨by rw [h75]; rfl, e⟩
    · exact .inr (by rw [bne_iff_ne]; omega)
  have j0 := cell_keep k0 ((Below.refl w.heap.size w).alloc (Nat.le_refl _) (.cells #[.int .i64 0, .slice none 0 0] 34))
  have j1 := cell_keep k1 ((Below.refl w.heap.size w).alloc (Nat.le_refl _) (.cells #[.int .i64 0, .slice none 0 0] 34))
  clear h2 hbd ha hb0
  rcases hq with ⟨rfl, hne⟩ | hne
  all_goals
    go_enter Tryz.func15, Tryz.ntmps15
    go_wp2_with fail
    refine (Wrap_any _ _ (by decide) _).mono ?_
    unfold EOut
    rintro e w1 ⟨A1, cap1, rfl, hr1, hf1, hb1⟩
    have hz1 := HZ0.out.keep hb1
    obtain ⟨⟨r0, r1⟩, f0, f1⟩ := er_cells hz1
    obtain ⟨-, hs⟩ := er_set (a' := .int .i64 2) (b' := .slice A1 1 cap1) hz1
    obtain ⟨⟨s0, s1⟩, -⟩ := er_cells hs
    have HE := Lib.hid (RDecOut.err (cap := cap1) hd.out hz1 (by simp) HB0.out hr1 hf1 hb1)
    clear hr1 hf1 hb1 hz1 hs
    go_wp2_with fail
    refine bodyPost_ret (v := .tuple #[.slice none 0 0, .agg #[.int .i64 2, .slice A1 1 cap1]]) (by simp [results, Tryz.results15, go_sem, s0, s1]) rfl ?_
    exact HE.out

set_option maxRecDepth 100000 in
set_option maxHeartbeats 4000000 in
theorem RDecode_3 {b : List Int} {A : Option Addr} {c : Nat} (h5 : 5 ≤ b.length) (hbd : ∀ x ∈ b, 0 ≤ x ∧ x ≤ 255) (h2 : b.getD 0 0 = 75 ∧ b.getD 1 0 = 83)
    (h3 : ¬ ((1 ≤ b.getD 2 0 ∧ b.getD 2 0 ≤ 4) ∧ (1 ≤ b.getD 3 0 ∧ b.getD 3 0 ≤ 4) ∧ 1 ≤ b.getD 4 0 ∧ b.getD 4 0 ≤ 16)) (w : World) (ha : RdI .u8 w A b) :
    Calls Tryz.prog 15 #[.slice A b.length c] w (RDecOut w b) := by
  have hd := Lib.hid (dec_headed (b := b) (c := 3) (by unfold headF; rw [if_neg (by omega), if_neg (by simp only [h2, and_self, not_true_eq_false, not_false_eq_true]), if_pos h3]) (by decide))
  obtain ⟨q, o, n0, n1, n2, n3, n4, rfl, HN, ⟨hn0, hn1, hn2, hn3, hn4⟩, k0, k1, k2, k3, k4⟩ := head_cells ha h5 hbd
  obtain ⟨e0, e1, e2, e3, e4⟩ := HN.out
  rw [e0, e1] at h2
  rw [e2, e3, e4] at h3
  obtain rfl : n0 = 75 := by omega
  obtain rfl : n1 = 83 := by omega
  have hb0 : Below w.heap.size w (w.alloc (.cells #[.int .i64 0, .slice none 0 0] 34)) := (Below.refl _ _).alloc (Nat.le_refl _) _
  have HB0 := Lib.hid hb0
  have HZ0 := Lib.hid (Blk.new w 34 #[.int .i64 0, .slice none 0 0])
  have al : Below w.heap.size w (w.alloc (.cells #[.int .i64 0, .slice none 0 0] 34)) := hb0
  have j0 := cell_keep k0 al
  have j1 := cell_keep k1 al
  have j2 := cell_keep k2 al
  have j3 := cell_keep k3 al
  have j4 := cell_keep k4 al
  clear h2 hbd ha e0 e1 e2 e3 e4 hb0 al
  have hc : ((n2 : Int) < 1) ∨ (¬ (n2 : Int) < 1 ∧ 4 < (n2 : Int)) ∨ (¬ (n2 : Int) < 1 ∧ ¬ 4 < (n2 : Int) ∧ (n3 : Int) < 1) ∨ (¬ (n2 : Int) < 1 ∧ ¬ 4 < (n2 : Int) ∧ ¬ (n3 : Int) < 1 ∧ 4 < (n3 : Int)) ∨
      (¬ (n2 : Int) < 1 ∧ ¬ 4 < (n2 : Int) ∧ ¬ (n3 : Int) < 1 ∧ ¬ 4 < (n3 : Int) ∧ (n4 : Int) < 1) ∨ (¬ (n2 : Int) < 1 ∧ ¬ 4 < (n2 : Int) ∧ ¬ (n3 : Int) < 1 ∧ ¬ 4 < (n3 : Int) ∧ ¬ (n4 : Int) < 1 ∧ 16 < (n4 : Int)) := by omega
  clear h3
  rcases hc with h | ⟨h, h'⟩ | ⟨h, h', h''⟩ | ⟨h, h', h'', h'''⟩ | ⟨h, h', h'', h''', h4⟩ | ⟨h, h', h'', h''', h4, h4'⟩
  all_goals
    go_enter Tryz.func15, Tryz.ntmps15
    go_wp2_with fail
    refine (Wrap_any _ _ (by decide) _).mono ?_
    unfold EOut
    rintro e w1 ⟨A1, cap1, rfl, hr1, hf1, hb1⟩
    have hz1 := HZ0.out.keep hb1
    obtain ⟨⟨r0, r1⟩, f0, f1⟩ := er_cells hz1
    obtain ⟨-, hs⟩ := er_set (a' := .int .i64 3) (b' := .slice A1 1 cap1) hz1
    obtain ⟨⟨s0, s1⟩, -⟩ := er_cells hs
    have HE := Lib.hid (RDecOut.err (cap := cap1) hd.out hz1 (by simp) HB0.out hr1 hf1 hb1)
    clear hr1 hf1 hb1 hz1 hs
    go_wp2_with fail
    refine bodyPost_ret (v := .tuple #[.slice none 0 0, .agg #[.int .i64 3, .slice A1 1 cap1]]) (by simp [results, Tryz.results15, go_sem, s0, s1]) rfl ?_
    exact HE.out

end Go.Proofs.YtnccebfapihpjaaGreatDoor
