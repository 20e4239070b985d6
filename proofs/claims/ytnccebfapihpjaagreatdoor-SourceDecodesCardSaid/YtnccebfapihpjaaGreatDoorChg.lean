/- A frame that names just which old blocks may have turned; what stays readable under it; a store into a row of one's own. No program in sight. -/
import Derived.Test.YtnccebfapihpjaaGreatDoorMem
namespace Go.Proofs.YtnccebfapihpjaaGreatDoor
open Go Go.RowKit

/-- Only blocks of S, and what is new, have turned. -/
structure Chg (S : Nat → Prop) (w w' : World) : Prop where
  os : w'.os = w.os
  tape : w'.tape = w.tape
  output : w'.output = w.output
  size : w.heap.size ≤ w'.heap.size
  block : ∀ k, k < w.heap.size → ¬ S k → w'.heap[k]? = w.heap[k]?

section
variable {S T : Nat → Prop} {a w w' : World}
theorem Chg.refl (S : Nat → Prop) (w : World) : Chg S w w := ⟨rfl, rfl, rfl, Nat.le_refl _, fun _ _ _ => rfl⟩
theorem Chg.trans {b : World} (h : Chg S a b) (k : Chg S b w) : Chg S a w :=
  ⟨k.os.trans h.os, k.tape.trans h.tape, k.output.trans h.output, Nat.le_trans h.size k.size, fun i hi hn => (k.block i (Nat.lt_of_lt_of_le hi h.size) hn).trans (h.block i hi hn)⟩
/-- What a later step may turn counts only where it was there before. -/
theorem Chg.step {b : World} (h : Chg S a b) (k : Chg T b w) (hT : ∀ i, i < a.heap.size → T i → S i) : Chg S a w :=
  ⟨k.os.trans h.os, k.tape.trans h.tape, k.output.trans h.output, Nat.le_trans h.size k.size,
    fun i hi hn => (k.block i (Nat.lt_of_lt_of_le hi h.size) (fun ht => hn (hT i hi ht))).trans (h.block i hi hn)⟩
theorem Chg.mono (h : Chg S a w) (hT : ∀ i, i < a.heap.size → S i → T i) : Chg T a w := ⟨h.os, h.tape, h.output, h.size, fun i hi hn => h.block i hi fun hs => hn (hT i hi hs)⟩
theorem Chg.of_below (h : Below w.heap.size w w') : Chg S w w' := ⟨h.os, h.tape, h.output, h.size, fun i hi _ => h.block i hi⟩
theorem Chg.of_grown {row : Option Nat} (h : w.grownBy w' row) (hS : ∀ i, i < w.heap.size → some i = row → S i) : Chg S w w' :=
  ⟨h.os, h.tape, h.output, h.size, fun i hi hn => h.block i hi (fun e => hn (hS i hi e))⟩
theorem Chg.below {B : Nat} (h : Chg S a w) (hB : B ≤ a.heap.size) (hS : ∀ i, S i → B ≤ i) : Below B a w :=
  ⟨h.os, h.tape, h.output, h.size, fun i hi => h.block i (Nat.lt_of_lt_of_le hi hB) (fun hs => by have := hS i hs; omega)⟩
theorem Chg.alloc (h : Chg S a w) (o : Obj) : Chg S a (w.alloc o) := h.step (Chg.of_below (S := fun _ => False) ((Below.refl _ _).alloc (Nat.le_refl _) _)) (fun _ _ h => h.elim)
theorem Chg.drew (h : Chg S a w) : Chg S a w.drew := ⟨h.os, h.tape, h.output, h.size, h.block⟩
theorem Chg.drewN (h : Chg S a w) (n : Nat) : Chg S a (w.drewN n) := ⟨h.os, h.tape, h.output, h.size, h.block⟩
theorem Chg.setCell (h : Chg S a w) {p : Addr} (hp : p.block < a.heap.size → S p.block) (u : Value) : Chg S a (w.setCell p u) :=
  ⟨h.os, h.tape, h.output, by simpa [World.setCell] using h.size, fun i hi hn => (Below.heap_setCell w p u i (by rintro rfl; exact hn (hp hi))).trans (h.block i hi hn)⟩
theorem below_chg {B : Nat} (h : Below B a w) (hk : Chg S w w') (hB : B ≤ w.heap.size) (hS : ∀ i, S i → B ≤ i) : Below B a w' := h.trans (hk.below hB hS)

theorem Blk.chg {g : Nat} {t : TypeId} {cs : Array Value} (h : Blk w g t cs) (hb : Chg S w w') (hg : ¬ S g) : Blk w' g t cs := (hb.block g h.lt hg).trans h
theorem cell_chg {p : Addr} {v : Value} (h : w.cell? p = some v) (hb : Chg S w w') (hp : ¬ S p.block) : w'.cell? p = some v :=
  (World.cell?_of_block (hb.block p.block (lt_of_cell h) hp)).trans h
theorem Rd.chg {size n : Nat} {A : Option Addr} {xs : List Value} (h : Rd w size A n xs) (hb : Chg S w w') (hA : ∀ p, A = some p → ¬ S p.block) : Rd w' size A n xs :=
  ⟨h.1, fun hn => by
    obtain ⟨b, off, e, hc⟩ := h.2 hn
    exact ⟨b, off, e, fun j u hu => cell_chg (hc j u hu) hb (by have := hA _ e; exact this)⟩⟩
theorem RdI.chg {k : IntKind} {A : Option Addr} {l : List Int} (h : RdI k w A l) (hb : Chg S w w') (hA : ∀ p, A = some p → ¬ S p.block) : RdI k w' A l := Rd.chg h hb hA
theorem own_chg {base size n : Nat} {e : TypeId} {v : Value} {xs : List Value} (h : w.ownsRow base e size v n xs) (hb : Chg S w w') (hv : ∀ i, v.ownBlock = some i → ¬ S i) : w'.ownsRow base e size v n xs := by
  refine ⟨h.1, ?_⟩
  rcases h.2 with hn | ⟨g, cap, cur, rfl, hg, hgg, rest⟩
  · exact .inl hn
  · exact .inr ⟨g, cap, cur, rfl, hg, (hb.block g (Array.getElem?_eq_some_iff.1 hgg).1 (hv g rfl)).trans hgg, rest⟩
theorem own_keep {base size n : Nat} {e : TypeId} {v : Value} {xs : List Value} (h : w.ownsRow base e size v n xs) (hb : Below w.heap.size w w') : w'.ownsRow base e size v n xs :=
  own_chg h (Chg.of_below (S := fun _ => False) hb) (fun _ _ h => h)
/-- Rows of unlike element types are apart. -/
theorem own_own {base size n base' size' n' : Nat} {e e' : TypeId} {v v' : Value} {xs xs' : List Value} (h : w.ownsRow base e size v n xs) (h' : w.ownsRow base' e' size' v' n' xs') (hne : e ≠ e') : ∀ i, v.ownBlock = some i → v'.ownBlock ≠ some i := by
  intro i hi hi'
  rcases h.2 with ⟨rfl, _⟩ | ⟨g, cap, cur, rfl, _, hh, _⟩
  · simp [Value.ownBlock] at hi
  · rcases h'.2 with ⟨rfl, _⟩ | ⟨g', cap', cur', rfl, _, hh', _⟩
    · simp [Value.ownBlock] at hi'
    · simp [Value.ownBlock] at hi hi'
      subst hi
      subst hi'
      rw [hh] at hh'
      injection hh' with hh'
      injection hh' with _ ht
      exact hne ht
theorem own_base {base base' size n : Nat} {e : TypeId} {v : Value} {xs : List Value} (h : w.ownsRow base e size v n xs) (hb : base' ≤ base) : w.ownsRow base' e size v n xs := by
  refine ⟨h.1, ?_⟩
  rcases h.2 with hn | ⟨g, cap, cur, hv, hg, rest⟩
  · exact .inl hn
  · exact .inr ⟨g, cap, cur, hv, Nat.le_trans hb hg, rest⟩

/-- A store into a row of one's own. -/
theorem own_store {base n : Nat} {e : TypeId} {g cap : Nat} {xs : List Value} (h : w.ownsRow base e 1 (.slice (some ⟨g, 0, none⟩) n cap) n xs) (i : Nat) (u : Value) :
    (w.setCell ⟨g, i, none⟩ u).ownsRow base e 1 (.slice (some ⟨g, 0, none⟩) n cap) n (xs.set i u) := by
  refine ⟨by rw [List.length_set]; exact h.1, ?_⟩
  rcases h.2 with ⟨hv, _⟩ | ⟨g', cap', cur, hv, hg, hgg, h1, h2, h3, h4⟩
  · cases hv
  · obtain ⟨rfl, rfl⟩ : g = g' ∧ cap = cap' := by injection hv with h5 h6 h7; injection h5 with h5; injection h5 with h5; exact ⟨h5, h7⟩
    refine .inr ⟨g, cap, cur.setIfInBounds i u, rfl, hg, ?_, h1, h2, by simpa using h3, ?_⟩
    · exact Blk.store (t := e) (cs := cur) hgg i u
    · rw [← h4, Array.toList_setIfInBounds, List.take_set]
end

/-- A slice of bytes in a row of one's own reads as integers. -/
theorem own_form {w : World} {base n : Nat} {e : TypeId} {v : Value} {xs : List Value} (h : w.ownsRow base e 1 v n xs) (hn : 0 < n) : ∃ g cap, v = .slice (some ⟨g, 0, none⟩) n cap ∧ base ≤ g ∧ g < w.heap.size ∧ n ≤ cap ∧ (∀ j u, xs[j]? = some u → w.cell? ⟨g, j, none⟩ = some u) ∧ ∀ j, w.frozen? ⟨g, j, none⟩ = false := by
  rcases h.2 with ⟨_, h0⟩ | ⟨g, cap, cur, rfl, hg, hgg, h1, h2, h3, h4⟩
  · omega
  · refine ⟨g, cap, rfl, hg, (Array.getElem?_eq_some_iff.1 hgg).1, h1, fun j u hu => ?_, fun j => Blk.frozen (t := e) (cs := cur) hgg j⟩
    have := h.cells (g := g) rfl j u hu
    rwa [add_lit, Nat.zero_add] at this

end Go.Proofs.YtnccebfapihpjaaGreatDoor
