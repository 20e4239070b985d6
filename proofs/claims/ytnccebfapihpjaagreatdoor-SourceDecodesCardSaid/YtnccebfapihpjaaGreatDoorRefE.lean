/- Contracts of kinref's wraps: Fail, In, Wrap. -/
import Derived.Test.YtnccebfapihpjaaGreatDoorSameE
import Derived.OneCell
namespace Go.Proofs.YtnccebfapihpjaaGreatDoor
open Go Go.RowKit Go.Extern.Stop Go.Stop Go.Extern

theorem Fail_any (c : Int) (w : World) : Calls Tryz.prog 25 #[.int .i64 c] w fun e w' => e = .returned (.agg #[.int .i64 c, .slice none 0 0]) ∧ Below w.heap.size w w' := by
  go_enter Tryz.func25, Tryz.ntmps25
  go_wp2
  refine bodyPost_ret (v := .agg #[.int .i64 c, .slice none 0 0]) (by simp [results, Tryz.results25, go_sem]) rfl ⟨rfl, ?_⟩
  exact (Below.refl _ _).alloc (Nat.le_refl _) _

theorem stepInfo2 : (Tryz.prog.info? 72).map (fun i => (i.zero, i.size, i.bytes)) = some (some (.agg #[.string ⟨#[]⟩, .int .i64 0]), 2, 24) := by kernel_rfl

/-- A reference's error: its code, its path. -/
def EOut (w : World) (path : List (ByteArray × Int)) (c : Int) (e : Ending) (w' : World) : Prop :=
  ∃ A cap, e = .returned (.agg #[.int .i64 c, .slice A path.length cap]) ∧ Rd w' 2 A path.length (flatP path) ∧ (∀ a, A = some a → w.heap.size ≤ a.block) ∧ Below w.heap.size w w'

theorem Rd.far {w : World} {size n : Nat} {A : Option Addr} {xs : List Value} (h : Rd w size A n xs) {p : Addr} (hp : ∀ a, A = some a → a.block ≠ p.block) (u : Value) : Rd (w.setCell p u) size A n xs :=
  ⟨h.1, fun hn => by
    obtain ⟨b, off, e, hc⟩ := h.2 hn
    refine ⟨b, off, e, fun j v hv => ?_⟩
    have hne : b ≠ p.block := hp _ e
    have h2 := hc j v hv
    have h3 := Below.heap_setCell w p u b hne
    unfold World.cell? at h2 ⊢
    simp only [h3] at *
    exact h2⟩

theorem flatP_one (path : List (ByteArray × Int)) : ∀ u ∈ flatP path, u.oneCell' = true := by
  induction path with
  | nil => intro u hu; simp [flatP] at hu
  | cons x r ih =>
    intro u hu
    obtain ⟨s, p⟩ := x
    have h : flatP ((s, p) :: r) = [.string s, .int .i64 p] ++ flatP r := by simp [flatP]
    rw [h] at hu
    rcases List.mem_append.1 hu with h1 | h1
    · simp at h1
      rcases h1 with rfl | rfl <;> rfl
    · exact ih u h1

set_option maxRecDepth 100000 in
set_option maxHeartbeats 1000000 in
theorem RIn_some (s : ByteArray) (p : Int) {path : List (ByteArray × Int)} {c : Int} {A : Option Addr} {cap : Nat} (hp : path.length ≤ 1000000000000) (hc : c ≠ 0) (w : World) (hr : Rd w 2 A path.length (flatP path)) :
    Calls Tryz.prog 44 #[.string s, .int .i64 p, .agg #[.int .i64 c, .slice A path.length cap]] w (EOut w ((s, p) :: path) c) := by
  obtain ⟨i0, hi, hz0, hz1, hz2⟩ := info_parts stepInfo2
  have hc0 : (c == 0) = false := by simpa using hc
  obtain ⟨W3, hW3⟩ : ∃ W, W = ((w.alloc (.cells #[.int .i64 c, .slice A path.length cap] 34)).alloc (.cells #[.int .i64 0, .slice none 0 0] 34)).alloc (.cells #[.int .i64 c, .slice A path.length cap] 34) := ⟨_, rfl⟩
  have hs3 : W3.heap.size = w.heap.size + 1 + 1 + 1 := by rw [hW3]; simp
  have hb3 : Below w.heap.size w W3 := by rw [hW3]; exact (((Below.refl _ _).alloc (Nat.le_refl _) _).alloc (by simp) _).alloc (by simp; omega) _
  have hZ3 : Blk W3 (w.heap.size + 1) 34 #[.int .i64 0, .slice none 0 0] := by rw [hW3]; exact (Blk.new1 w _ _ _).alloc _
  have hown3 := (World.ownsRow_lit (base := w.heap.size) (e := 72) (size := 2) W3 #[.string s, .int .i64 p] 1 (by omega) (by unfold maxLen; omega) rfl).alloc (.cells #[.int .i64 c, .slice (some ⟨w.heap.size + 1 + 1 + 1, 0, none⟩) 1 1] 34)
  rw [hs3] at hown3
  have hO3 := Blk.new1 W3 (.cells #[.string s, .int .i64 p] 72) 34 #[.int .i64 c, .slice (some ⟨w.heap.size + 1 + 1 + 1, 0, none⟩) 1 1]
  rw [hs3] at hO3
  have hb5 := (hb3.alloc hb3.size (.cells #[.string s, .int .i64 p] 72)).alloc (by simp; omega) (.cells #[.int .i64 c, .slice (some ⟨w.heap.size + 1 + 1 + 1, 0, none⟩) 1 1] 34)
  have hR5 := hr.keep hb5
  have hZ5 := (hZ3.alloc (.cells #[.string s, .int .i64 p] 72)).alloc (.cells #[.int .i64 c, .slice (some ⟨w.heap.size + 1 + 1 + 1, 0, none⟩) 1 1] 34)
  have H5 := Lib.hid (And.intro hown3 (And.intro hO3 (And.intro hb5 (And.intro hR5 hZ5))))
  clear hown3 hO3 hb5 hR5 hZ5 hZ3 hb3 hs3 hr
  subst hW3
  go_enter Tryz.func44, Tryz.ntmps44
  go_wp2_with (first
    | (go_at_call 32; refine (OK_any c _ _).mono ?_; rintro e w' ⟨rfl, rfl⟩)
    | (at_builtin
       refine wpList_append_rd _ rfl (.tmp 19) (.tmp 21) _ rfl w.heap.size 72 i0 _ 2 24 Tryz.underlying32 hi hz0 hz1 hz2 rfl (by omega) (.slice (some ⟨w.heap.size + 1 + 1 + 1, 0, none⟩) 1 1) 1 [.string s, .int .i64 p] rfl H5.out.1 A path.length cap (flatP path) rfl H5.out.2.2.2.1 (flatP_one path) (by unfold maxLen; omega) (by omega) (by simp; omega) ?_
       intro B cap1 w1 hown1 hg1 hat1
       have hO1 := H5.out.2.1.grown hg1 (by simp [Value.ownBlock])
       have hZ1 := H5.out.2.2.2.2.grown hg1 (by simp [Value.ownBlock])
       have ho0 : w1.cell? ⟨w.heap.size + 1 + 1 + 1 + 1, 0, none⟩ = some (.int .i64 c) := (by rw [hO1.cell]; rfl)
       have ho1 : w1.cell? ⟨w.heap.size + 1 + 1 + 1 + 1, 1, none⟩ = some (.slice (some ⟨w.heap.size + 1 + 1 + 1, 0, none⟩) 1 1) := (by rw [hO1.cell]; rfl)
       have hf0 := hO1.frozen 0
       have hf1 := hO1.frozen 1
       have hz0' : w1.cell? ⟨w.heap.size + 1, 0, none⟩ = some (.int .i64 0) := (by rw [hZ1.cell]; rfl)
       have hz1' : w1.cell? ⟨w.heap.size + 1, 1, none⟩ = some (.slice none 0 0) := (by rw [hZ1.cell]; rfl)
       have hzf0 := hZ1.frozen 0
       have hzf1 := hZ1.frozen 1))
  have hne : ∀ k, (Value.slice B (1 + path.length) cap1).ownBlock = some k → k ≠ w.heap.size + 1 + 1 + 1 + 1 ∧ k ≠ w.heap.size + 1 := by
    intro k hk
    rcases hat1 with h | h <;> rw [hk] at h <;> simp [Value.ownBlock] at h <;> omega
  have hown2 := ownsRow_setCell_other (ownsRow_setCell_other (ownsRow_setCell_other hown1 (a := ⟨w.heap.size + 1 + 1 + 1 + 1, 1, none⟩) (fun h => (hne _ h).1 rfl) (.slice B (1 + path.length) cap1)) (a := ⟨w.heap.size + 1, 0, none⟩) (fun h => (hne _ h).2 rfl) (.int .i64 c)) (a := ⟨w.heap.size + 1, 1, none⟩) (fun h => (hne _ h).2 rfl) (.slice B (1 + path.length) cap1)
  have hbl : Below w.heap.size w w1 := H5.out.2.2.1.grown hg1 (by simp; omega) (fun k hk => by simp [Value.ownBlock] at hk; omega)
  refine bodyPost_ret (v := .agg #[.int .i64 c, .slice B (1 + path.length) cap1]) (by simp [results, Tryz.results44, go_sem, hz0', hz1']) rfl ?_
  refine ⟨B, cap1, ?_, ?_, ?_, ((hbl.setCell (by simp; omega) _).setCell (by simp) _).setCell (by simp) _⟩
  · simp [Nat.add_comm]
  · have h := Rd.of_own hown2
    have e1 : ((s, p) :: path).length = 1 + path.length := by simp [Nat.add_comm]
    have e2 : flatP ((s, p) :: path) = [.string s, .int .i64 p] ++ flatP path := by simp [flatP]
    rw [e1, e2]
    exact h
  · rintro a rfl
    exact (hown1.lt a.block (by simp [Value.ownBlock])).1

set_option maxHeartbeats 1000000 in
theorem Wrap_any (s : ByteArray) (p : Int) {c : Int} (hc : c ≠ 0) (w : World) :
    Calls Tryz.prog 42 #[.string s, .int .i64 p, .int .i64 c] w (EOut w [(s, p)] c) := by
  go_enter Tryz.func42, Tryz.ntmps42
  go_wp2_with fail
  refine (Fail_any _ _).mono ?_
  rintro e w1 ⟨rfl, hb1⟩
  have hZ := (Blk.new w 34 #[.int .i64 0, .slice none 0 0]).keep hb1
  have hbA : Below w.heap.size w w1 := ((Below.refl _ _).alloc (Nat.le_refl _) _).trans (hb1.mono (by simp))
  go_wp2_with fail
  refine (RIn_some s p (path := []) (A := none) (cap := 0) (by simp) hc _ Rd.nil).mono ?_
  rintro e w2 ⟨A, cap, rfl, hr, hfar, hb2⟩
  have hZ2 := hZ.keep hb2
  have hz0 : w2.cell? ⟨w.heap.size, 0, none⟩ = some (.int .i64 0) := by rw [hZ2.cell]; rfl
  have hz1 : w2.cell? ⟨w.heap.size, 1, none⟩ = some (.slice none 0 0) := by rw [hZ2.cell]; rfl
  have hf0 := hZ2.frozen 0
  have hf1 := hZ2.frozen 1
  go_wp2_with fail
  refine bodyPost_ret (v := .agg #[.int .i64 c, .slice A 1 cap]) (by simp [results, Tryz.results42, go_sem, hz0, hz1]) rfl ?_
  refine ⟨A, cap, rfl, ?_, ?_, ((hbA.trans (hb2.mono hbA.size)).setCell (by simp) _).setCell (by simp) _⟩
  · exact (hr.far (fun a ha => by have := hfar a ha; have := hb1.size; simp at *; omega) _).far (fun a ha => by have := hfar a ha; have := hb1.size; simp at *; omega) _
  · intro a ha
    have := hfar a ha
    have := hb1.size
    simp at *
    omega
end Go.Proofs.YtnccebfapihpjaaGreatDoor
