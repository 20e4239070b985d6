/- What every statement of this seat wants of its row: an argument of each type opened: bytes, a frame, frames. -/
import Derived.Test.YtnccebfapihpjaaGreatDoorRowF
import Derived.Test.YtnccebfapihpjaaGreatDoorFrames
namespace Go.Proofs.YtnccebfapihpjaaGreatDoor
open Go Go.ChangeShapes Go.WideShapes Go.RowKit Go.Joins Go.Deep

section
variable {H : Type} {enc : TypeId × Value → H} {W : World} {base b0 : Nat} {spare : Nat → Bool} {held : Bool}
set_option maxRecDepth 100000 in
theorem open_u8 {v : Value} {d : DataW H} {p : List MemPlace} (hv : Value.okWide Tryz.prog W .any b0 5 v) (h : DataW.Trod enc Tryz.prog W base spare held 5 v d p) :
    ∃ n : Int, v = .int .u8 n ∧ 0 ≤ n ∧ n ≤ 255 := by
  obtain ⟨n, rfl, _, _, hw⟩ := open_int Tryz.underlying5 hv h
  exact ⟨n, rfl, bounds_u8 hw⟩
set_option maxRecDepth 100000 in
/-- A slice of bytes, opened. -/
theorem open_bytes' {v : Value} {d : DataW H} {p : List MemPlace} (hv : Value.okWide Tryz.prog W .any b0 26 v) (h : DataW.Trod enc Tryz.prog W base spare held 26 v d p) :
    ∃ (A : Option Addr) (l : List Int) (c : Nat), v = .slice A l.length c ∧ RdI .u8 W A l ∧ l.length ≤ 9223372036854775807 ∧ l.length ≤ c ∧ c ≤ 9223372036854775807 ∧ ∀ n ∈ l, 0 ≤ n ∧ n ≤ 255 := by
  obtain ⟨a0, len0, cap0, rfl⟩ := okWide_slice Tryz.underlying26 hv
  obtain ⟨fuel, hf⟩ := h
  rcases open_ints Tryz.underlying26 Tryz.underlying5 (by kernel_rfl) hf with ⟨hcs, _⟩ | ⟨x, n, c, zs, hcs, _, hl, hm, hz, _, hcell, hwz⟩
  · simp [Value.cells] at hcs
    obtain ⟨rfl, rfl, rfl⟩ := hcs
    exact ⟨none, [], 0, rfl, RdI.nil, by simp, by simp, by simp, by simp⟩
  · simp [Value.cells] at hcs
    obtain ⟨rfl, rfl, rfl⟩ := hcs
    unfold maxLen at hm
    have hzl : len0 ≤ zs.length := by rw [hz]; split <;> omega
    have hln : (zs.take len0).length = len0 := by rw [List.length_take]; omega
    refine ⟨some x, zs.take len0, cap0, by rw [hln], RdI.of_arg (fun i hi => ?_), by omega, by omega, by omega, fun n hn => ?_⟩
    · rw [hln] at hi
      have := hcell i (by omega)
      rw [List.getD_eq_getElem?_getD, List.getElem?_eq_getElem (by omega)] at this
      rw [this, List.getElem_take]; rfl
    · exact bounds_u8 (hwz n (List.mem_of_mem_take hn))
set_option maxRecDepth 100000 in
/-- A cell that holds a slice of integers, opened. -/
theorem open_samples {fuel : Nat} {u : Value} {y : DataW H × List MemPlace} (h : DataW.trod enc Tryz.prog W base spare held fuel 46 [u] = some y) :
    ∃ (A : Option Addr) (l : List Int) (c : Nat), u = .slice A l.length c ∧ RdI .i64 W A l ∧ l.length ≤ 9223372036854775807 ∧ l.length ≤ c := by
  rcases open_ints Tryz.underlying46 Tryz.underlying3 (by kernel_rfl) h with ⟨hcs, _⟩ | ⟨x, n, c, zs, hcs, _, hl, hm, hz, _, hcell, hwz⟩
  · simp only [List.cons.injEq, and_true] at hcs
    exact ⟨none, [], 0, hcs, RdI.nil, by simp, by simp⟩
  · simp only [List.cons.injEq, and_true] at hcs
    unfold maxLen at hm
    have hzl : n ≤ zs.length := by rw [hz]; split <;> omega
    have hln : (zs.take n).length = n := by rw [List.length_take]; omega
    refine ⟨some x, zs.take n, c, by rw [hln]; exact hcs, RdI.of_arg (fun i hi => ?_), by omega, by omega⟩
    rw [hln] at hi
    have := hcell i (by omega)
    rw [List.getD_eq_getElem?_getD, List.getElem?_eq_getElem (by omega)] at this
    rw [this, List.getElem_take]; rfl

/-- What every frame that comes in meets. -/
def FrmIn (W : World) (f : Frm) : Prop := RdI .i64 W f.A f.pix ∧ f.pix.length ≤ 9223372036854775807 ∧ f.pix.length ≤ f.c ∧ Fa.InI f.w ∧ Fa.InI f.h

set_option maxRecDepth 100000 in
theorem frame_cells {fuel : Nat} {cs : List Value} {y : DataW H × List MemPlace} (hl : cs.length = 3) (h : DataW.trod enc Tryz.prog W base spare held fuel 48 cs = some y) : ∃ f : Frm, cs = f.cells ∧ FrmIn W f := by
  have hc1 : Tryz.prog.cellsOf 3 = 1 := by kernel_rfl
  have hc9 : Tryz.prog.cellsOf 46 = 1 := by kernel_rfl
  obtain ⟨xs, n', _, hx, _, hlen, hg⟩ := DataW.trod_struct Tryz.underlying48 h
  match cs, hl with
  | [c0, c1, c2], _ =>
    match xs, hlen with
    | [y0, y1, y2], _ =>
      obtain ⟨k0, e0, _, w0⟩ := DataW.trod_int Tryz.underlying3 (show DataW.trod enc Tryz.prog W base spare held n' 3 [c0] = some y0 by simpa [hc1] using hg 0 _ rfl)
      obtain ⟨k1, e1, _, w1⟩ := DataW.trod_int Tryz.underlying3 (show DataW.trod enc Tryz.prog W base spare held n' 3 [c1] = some y1 by simpa [hc1] using hg 1 _ rfl)
      obtain ⟨A, l, c, e2, hr, hl1, hl2⟩ := open_samples (show DataW.trod enc Tryz.prog W base spare held n' 46 [c2] = some y2 by simpa [hc1, hc9] using hg 2 _ rfl)
      simp only [List.cons.injEq, and_true] at e0 e1
      subst e0 e1 e2
      exact ⟨⟨k0, k1, A, l, c⟩, rfl, hr, hl1, hl2, bounds_i64 w0, bounds_i64 w1⟩

set_option maxRecDepth 100000 in
/-- A frame, opened. -/
theorem open_frame {v : Value} {d : DataW H} {p : List MemPlace} (hv : Value.okWide Tryz.prog W .any b0 48 v) (h : DataW.Trod enc Tryz.prog W base spare held 48 v d p) :
    ∃ f : Frm, v = .agg #[.int .i64 f.w, .int .i64 f.h, .slice f.A f.pix.length f.c] ∧ FrmIn W f := by
  obtain ⟨cs, rfl, hsz⟩ := okWide_struct Tryz.underlying48 hv
  obtain ⟨fuel, hf⟩ := h
  have h3 : cs.size = 3 := hsz.trans (show Tryz.prog.cellsOf 48 = 3 by kernel_rfl)
  obtain ⟨f, hc, hi⟩ := frame_cells (cs := cs.toList) (by simpa using h3) (by simpa [Value.cells] using hf)
  refine ⟨f, ?_, hi⟩
  congr 1
  apply Array.toList_inj.1
  rw [hc]
  rfl

set_option maxRecDepth 100000 in
/-- A slice of frames, opened. -/
theorem open_frames {v : Value} {d : DataW H} {p : List MemPlace} (hv : Value.okWide Tryz.prog W .any b0 22 v) (h : DataW.Trod enc Tryz.prog W base spare held 22 v d p) :
    ∃ (A : Option Addr) (l : List Frm) (c : Nat), v = .slice A l.length c ∧ Rd W 3 A l.length (flatF l) ∧ l.length ≤ 9223372036854775807 ∧ l.length ≤ c ∧ ∀ f ∈ l, FrmIn W f := by
  obtain ⟨a0, len0, cap0, rfl⟩ := okWide_slice Tryz.underlying22 hv
  obtain ⟨fuel, hf⟩ := h
  rcases open_slice Tryz.underlying22 hf with ⟨hcs, _⟩ | ⟨a, len, cap, m, n, D, Pl, hcs, _, hl, hm, hmm, _, hi⟩
  · simp [Value.cells] at hcs
    obtain ⟨rfl, rfl, rfl⟩ := hcs
    exact ⟨none, [], 0, rfl, Rd.nil, by simp, by simp, by simp⟩
  · simp [Value.cells] at hcs
    obtain ⟨rfl, rfl, rfl⟩ := hcs
    unfold maxLen at hm
    have hml : len0 ≤ m := by rw [hmm]; split <;> omega
    have hC : Tryz.prog.cellsOf 48 = 3 := by kernel_rfl
    have key : ∀ i, i < len0 → ∃ f : Frm, (W.cell? (a.add (i * 3)) = some (.int .i64 f.w) ∧ W.cell? (a.add (i * 3 + 1)) = some (.int .i64 f.h) ∧ W.cell? (a.add (i * 3 + 2)) = some (.slice f.A f.pix.length f.c)) ∧ FrmIn W f := by
      intro i hlt
      obtain ⟨cs', hc, ht⟩ := hi i (by omega)
      rw [hC] at hc
      obtain ⟨_, hcl, hat⟩ := World.cells?_some hc
      obtain ⟨f, rfl, hfi⟩ := frame_cells hcl ht
      have a0 := hat 0 (by omega)
      have a1 := hat 1 (by omega)
      have a2 := hat 2 (by omega)
      rw [Go.Proofs.YtnccebfapihpjaaGreatDoor.add_add] at a0 a1 a2
      exact ⟨f, ⟨a0, a1, a2⟩, hfi⟩
    obtain ⟨l, hll, hq⟩ := list_of len0 key
    refine ⟨some a, l, cap0, by rw [hll], Rd.of_arg (flatF_length l) (fun j u hu => ?_) (by omega), by omega, by omega, fun o ho => ?_⟩
    · have hj : j < (flatF l).length := (List.getElem?_eq_some_iff.1 hu).1
      rw [flatF_length] at hj
      have hil : j / 3 < l.length := by omega
      obtain ⟨⟨q0, q1, q2⟩, _⟩ := hq _ hil
      obtain ⟨f0, f1, f2⟩ := flatF_get l _ hil
      rcases (show j = j / 3 * 3 ∨ j = j / 3 * 3 + 1 ∨ j = j / 3 * 3 + 2 by omega) with e | e | e
      · rw [← e] at f0 q0; rw [f0] at hu; rw [q0]; exact hu
      · rw [← e] at f1 q1; rw [f1] at hu; rw [q1]; exact hu
      · rw [← e] at f2 q2; rw [f2] at hu; rw [q2]; exact hu
    · obtain ⟨i, hil, rfl⟩ := List.getElem_of_mem ho
      exact (hq i hil).2
end

end Go.Proofs.YtnccebfapihpjaaGreatDoor
