/- Contracts of the document's package kinref3: the codes read. -/
import Derived.Test.YtnccebfapihpjaaGreatDoorCodesR2
namespace Go.Proofs.YtnccebfapihpjaaGreatDoor
open Go Go.RowKit Go.Extern.Stop Go.Stop Go.Extern

/-- What the document's reading answers. -/
def RGOut (lo hi : Nat) (w : World) (g : Nat) (b : List Int) (r : Co.Got × Nat) (e : Ending) (w' : World) : Prop :=
  ∃ A cap, e = .returned (.tuple #[.int .i64 (gotV r.1), .agg #[.int .i64 (gotC r.1), .slice A (gotP r.1).length cap]]) ∧ Rd w' 2 A (gotP r.1).length (flatP (gotP r.1)) ∧ (∀ a, A = some a → w.heap.size ≤ a.block) ∧ ROut 85 lo hi w g b r.2 w'

theorem ROut.errset {t : TypeId} {lo hi g : Nat} {w W : World} {b : List Int} {q : Nat} (h : ROut t lo hi w g b q W) (hhi : hi ≤ w.heap.size) (hg : g < w.heap.size) (x y : Value) : ROut t lo hi w g b q ((W.setCell ⟨w.heap.size, 0, none⟩ x).setCell ⟨w.heap.size, 1, none⟩ y) := by
  have hc2 : Chg (fun i => i = w.heap.size) W ((W.setCell ⟨w.heap.size, 0, none⟩ x).setCell ⟨w.heap.size, 1, none⟩ y) :=
    ((Chg.refl (fun i => i = w.heap.size) W).setCell (p := ⟨w.heap.size, 0, none⟩) (fun _ => rfl) _).setCell (p := ⟨w.heap.size, 1, none⟩) (fun _ => rfl) _
  obtain ⟨⟨r1, r2, A, c, r3, r4, r5⟩, r6⟩ := h
  exact ⟨⟨r1, r2, A, c, r3.chg hc2 (by omega), r4.chg0 hc2 (fun a ha h0 e => by have := (r5 a ha h0).2.1; omega), r5⟩, r6.step hc2 (fun i hi e => by omega)⟩
theorem ROut.below {t : TypeId} {lo hi g : Nat} {w W W' : World} {b : List Int} {q : Nat} (h : ROut t lo hi w g b q W) (hb : Below W.heap.size W W') : ROut t lo hi w g b q W' := ⟨h.1.keep hb, h.2.trans (Chg.of_below hb)⟩
theorem ROut.then_ {t : TypeId} {lo hi g : Nat} {w W W' : World} {b : List Int} {q q' : Nat} (h : ROut t lo hi w g b q W) (h2 : ROut t lo hi W g b q' W') : ROut t lo hi w g b q' W' := ⟨h2.1, h.2.trans h2.2⟩

theorem ROut.drew {t : TypeId} {lo hi g : Nat} {w W : World} {b : List Int} {q : Nat} (h : ROut t lo hi w g b q W) : ROut t lo hi w g b q W.drew := ⟨h.1, h.2.drew⟩
theorem ROut.place {t : TypeId} {lo hi g : Nat} {w W : World} {b : List Int} {q : Nat} (h : ROut t lo hi w g b q W) : W.cell? ⟨g, 1, none⟩ = some (.int .i64 q) := by
  obtain ⟨⟨_, _, A, c, hblk, _, _⟩, _⟩ := h
  rw [hblk.cell]; rfl
theorem ue_err {b : List Int} {T p : Nat} {e : Co.Got} (h : Co.zeros b T p 31 0 = .error e) : Co.ue b T p = (e, Co.zerosEnd b T p 31 0) := by
  unfold Co.ue; rw [h]
theorem ue_ok' {b : List Int} {T p n : Nat} (h : Co.zeros b T p 31 0 = .ok n) : Co.ue b T p = if T < p + n + 1 + n then (.short (p + n + 1), p + n + 1) else (.num (2 ^ n + Bi.num b (p + n + 1) n - 1), p + n + 1 + n) := by
  unfold Co.ue; rw [h]

end Go.Proofs.YtnccebfapihpjaaGreatDoor
