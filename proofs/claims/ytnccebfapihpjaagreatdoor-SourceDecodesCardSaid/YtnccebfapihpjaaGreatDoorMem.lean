/- Words for memory: a block that is known whole, a slice that reads as a list, what a call leaves of old memory. No program in sight. -/
import Derived.WalkKit
import Derived.Below
import Derived.Laws.OwnMore
import Derived.Laws.Rows
import Derived.Deep.Draws
import Derived.Deep.AppendLies
import Derived.Lib.Hide
namespace Go.Proofs.YtnccebfapihpjaaGreatDoor
open Go Go.RowKit

/-- Block g is just these cells, none of them frozen. -/
def Blk (w : World) (g : Nat) (t : TypeId) (cs : Array Value) : Prop := w.heap[g]? = some (.cells cs t (0, 0))

section
variable {w w' : World} {g : Nat} {t : TypeId} {cs : Array Value}
theorem Blk.lt (h : Blk w g t cs) : g < w.heap.size := by
  rcases Nat.lt_or_ge g w.heap.size with hlt | hge
  · exact hlt
  · unfold Blk at h; rw [Array.getElem?_eq_none hge] at h; cases h
theorem Blk.cell (h : Blk w g t cs) (i : Nat) : w.cell? ⟨g, i, none⟩ = cs[i]? := cell_of_row w g i cs t (0, 0) h
theorem Blk.frozen (h : Blk w g t cs) (i : Nat) : w.frozen? ⟨g, i, none⟩ = false := by unfold Blk at h; simp [World.frozen?, h]
theorem Blk.new (w : World) (t : TypeId) (cs : Array Value) : Blk (w.alloc (.cells cs t)) w.heap.size t cs := heap_alloc_new w _
theorem Blk.new1 (w : World) (o : Obj) (t : TypeId) (cs : Array Value) : Blk ((w.alloc o).alloc (.cells cs t)) (w.heap.size + 1) t cs := by
  have := Blk.new (w.alloc o) t cs
  simpa using this
theorem Blk.alloc (h : Blk w g t cs) (o : Obj) : Blk (w.alloc o) g t cs := (Below.heap_alloc w o g h.lt).trans h
theorem Blk.drew (h : Blk w g t cs) : Blk w.drew g t cs := h
theorem Blk.drewN (h : Blk w g t cs) (n : Nat) : Blk (w.drewN n) g t cs := h
theorem Blk.store (h : Blk w g t cs) (i : Nat) (u : Value) : Blk (w.setCell ⟨g, i, none⟩ u) g t (cs.setIfInBounds i u) := by
  unfold Blk at h ⊢
  simp [World.setCell, Array.getElem?_modify, h]
theorem Blk.far (h : Blk w g t cs) {p : Addr} (hp : g ≠ p.block) (u : Value) : Blk (w.setCell p u) g t cs := (Below.heap_setCell w p u g hp).trans h
theorem Blk.below {B : Nat} (h : Blk w g t cs) (hb : Below B w w') (hg : g < B) : Blk w' g t cs := (hb.block g hg).trans h
theorem Blk.keep (h : Blk w g t cs) (hb : Below w.heap.size w w') : Blk w' g t cs := h.below hb h.lt
theorem Blk.grown {row : Option Nat} (h : Blk w g t cs) (hb : w.grownBy w' row) (hg : some g ≠ row) : Blk w' g t cs := (hb.block g h.lt hg).trans h
theorem Blk.apart {g' : Nat} {t' : TypeId} {cs' : Array Value} (h : Blk w g t cs) (h' : Blk w g' t' cs') (hne : t ≠ t') : g ≠ g' := by
  rintro rfl
  unfold Blk at h h'
  rw [h] at h'
  injection h' with h'
  injection h' with _ ht
  exact hne ht
end

/-- A slice's row and a block of another element type are two. -/
theorem own_notBlk {w : World} {base size n : Nat} {e t : TypeId} {v : Value} {xs : List Value} {g : Nat} {cs : Array Value} (h : w.ownsRow base e size v n xs) (hg : Blk w g t cs) (hne : e ≠ t) : v.ownBlock ≠ some g := by
  rcases h.2 with ⟨rfl, _⟩ | ⟨g', cap, cur, rfl, _, hh, _⟩
  · simp [Value.ownBlock]
  · intro he
    have : g' = g := by simpa [Value.ownBlock] using he
    subst this
    exact Blk.apart (t := e) hh hg hne rfl
/-- What is owned is a slice of its length. -/
theorem own_slice {w : World} {base size n : Nat} {e : TypeId} {v : Value} {xs : List Value} (h : w.ownsRow base e size v n xs) : ∃ A cap, v = .slice A n cap := by
  rcases h.2 with ⟨rfl, rfl⟩ | ⟨g', cap, cur, rfl, _⟩ <;> exact ⟨_, _, rfl⟩

theorem lt_of_cell {w : World} {a : Addr} {v : Value} (h : w.cell? a = some v) : a.block < w.heap.size := World.block_lt_of_cell? w a h

/-- A cell that was there holds what it held. -/
theorem cell_keep {w w' : World} {a : Addr} {v : Value} (h : w.cell? a = some v) (hb : Below w.heap.size w w') : w'.cell? a = some v :=
  (hb.cell (p := a) (lt_of_cell h)).trans h

theorem add_block (a : Addr) (n : Nat) : (a.add n).block = a.block := by unfold Addr.add; split <;> rfl
theorem add_add (a : Addr) (i j : Nat) : (a.add i).add j = a.add (i + j) := by
  unfold Addr.add
  by_cases hi : i = 0 <;> by_cases hj : j = 0 <;> simp [hi, hj, Nat.add_assoc]
theorem add_zero' (a : Addr) : a.add 0 = a := by simp [Addr.add]

/-- Only block g, and what is new, has turned: behind a draw, a new block, a store into g. -/
theorem only_drew {a w : World} {row : Option Nat} (h : a.grownBy w row) : a.grownBy w.drew row := ⟨h.os, h.tape, h.output, h.size, h.block⟩
theorem only_drewN {a w : World} {row : Option Nat} (h : a.grownBy w row) (n : Nat) : a.grownBy (w.drewN n) row := ⟨h.os, h.tape, h.output, h.size, h.block⟩
theorem only_alloc {a w : World} {row : Option Nat} (h : a.grownBy w row) (o : Obj) : a.grownBy (w.alloc o) row :=
  ⟨h.os, h.tape, h.output, Nat.le_trans h.size (by simp), fun i hi hne => (Below.heap_alloc w o i (Nat.lt_of_lt_of_le hi h.size)).trans (h.block i hi hne)⟩
theorem only_setCell {a w : World} {g : Nat} (h : a.grownBy w (some g)) {p : Addr} (hp : p.block = g ∨ a.heap.size ≤ p.block) (u : Value) : a.grownBy (w.setCell p u) (some g) :=
  ⟨h.os, h.tape, h.output, by simpa [World.setCell] using h.size, fun i hi hne => (Below.heap_setCell w p u i (by
    rintro rfl
    rcases hp with hp | hp
    · exact hne (by rw [hp])
    · omega)).trans (h.block i hi hne)⟩
theorem only_below {a w w' : World} {row : Option Nat} (h : a.grownBy w row) (hb : Below w.heap.size w w') : a.grownBy w' row :=
  ⟨hb.os.trans h.os, hb.tape.trans h.tape, hb.output.trans h.output, Nat.le_trans h.size hb.size, fun i hi hne => (hb.block i (Nat.lt_of_lt_of_le hi h.size)).trans (h.block i hi hne)⟩
theorem below_only {B : Nat} {a w w' : World} {g : Nat} (h : Below B a w) (hb : w.grownBy w' (some g)) (hB : B ≤ w.heap.size) (hg : B ≤ g) : Below B a w' :=
  h.grown hb hB (fun k hk => by injection hk with hk; omega)
theorem below_drewN {B : Nat} {a w : World} (h : Below B a w) (n : Nat) : Below B a (w.drewN n) := ⟨h.os, h.tape, h.output, h.size, h.block⟩

theorem add_lit (b o n : Nat) : (⟨b, o, none⟩ : Addr).add n = ⟨b, o + n, none⟩ := by unfold Addr.add; split <;> simp_all

/-- The slice value '.slice A n _', of elements of 'size' cells, holds the cells xs. -/
def Rd (w : World) (size : Nat) (A : Option Addr) (n : Nat) (xs : List Value) : Prop :=
  xs.length = n * size ∧ (0 < n → ∃ b off, A = some ⟨b, off, none⟩ ∧ ∀ j u, xs[j]? = some u → w.cell? ⟨b, off + j, none⟩ = some u)

section
variable {w w' : World} {size n : Nat} {A : Option Addr} {xs : List Value}
theorem Rd.nil : Rd w size A 0 [] := ⟨by simp, fun h => absurd h (by omega)⟩
theorem Rd.keep (h : Rd w size A n xs) (hb : Below w.heap.size w w') : Rd w' size A n xs :=
  ⟨h.1, fun hn => by
    obtain ⟨b, off, e, hc⟩ := h.2 hn
    exact ⟨b, off, e, fun j u hu => cell_keep (hc j u hu) hb⟩⟩
theorem Rd.alloc (h : Rd w size A n xs) (o : Obj) : Rd (w.alloc o) size A n xs := h.keep ((Below.refl _ _).alloc (Nat.le_refl _) _)
theorem Rd.drew (h : Rd w size A n xs) : Rd w.drew size A n xs := h
theorem Rd.drewN (h : Rd w size A n xs) (k : Nat) : Rd (w.drewN k) size A n xs := h
theorem Rd.of_own {base : Nat} {e : TypeId} {c : Nat} (h : w.ownsRow base e size (.slice A n c) n xs) : Rd w size A n xs := by
  refine ⟨h.1, fun hn => ?_⟩
  obtain ⟨g, cap, hv, _, hlt⟩ := h.form hn
  have hA : A = some ⟨g, 0, none⟩ := by injection hv
  subst hA
  exact ⟨g, 0, rfl, fun j u hu => by have := h.cells (g := g) rfl j u hu; rwa [add_lit] at this⟩
/-- Out of what a reading of an argument gives. -/
theorem Rd.of_arg {ad : Addr} (hl : xs.length = n * size) (h : ∀ j u, xs[j]? = some u → w.cell? (ad.add j) = some u) (hs : 0 < size) : Rd w size (some ad) n xs := by
  refine ⟨hl, fun hn => ?_⟩
  have h0 : 0 < xs.length := by rw [hl]; exact Nat.mul_pos hn hs
  have hc := h 0 _ (List.getElem?_eq_getElem h0)
  rw [add_zero'] at hc
  obtain ⟨b, off, spot⟩ := ad
  have hspot : spot = none := by simpa using World.cell?_spot hc
  subst hspot
  exact ⟨b, off, rfl, fun j u hu => by have := h j u hu; rwa [add_lit] at this⟩
/-- The cell at place k of elements of one cell. -/
theorem Rd.at_ {k : Nat} (h : Rd w 1 A n xs) (hk : k < n) : ∃ b off u, A = some ⟨b, off, none⟩ ∧ xs[k]? = some u ∧ w.cell? ⟨b, off + k, none⟩ = some u := by
  obtain ⟨b, off, e, hc⟩ := h.2 (by omega)
  have hl : k < xs.length := by have := h.1; omega
  exact ⟨b, off, xs[k], e, List.getElem?_eq_getElem hl, hc k _ (List.getElem?_eq_getElem hl)⟩
/-- A piece from k on; where nothing is left of the capacity the model keeps the old address. -/
theorem Rd.cut (h : Rd w size A n xs) {k cap : Nat} (hc : n ≤ cap) : Rd w size (if cap = k then A else A.map (·.add (k * size))) (n - k) (xs.drop (k * size)) := by
  refine ⟨by rw [List.length_drop, h.1, Nat.sub_mul], fun hn => ?_⟩
  obtain ⟨b, off, rfl, hcell⟩ := h.2 (by omega)
  rw [if_neg (by omega)]
  refine ⟨b, off + k * size, by simp [add_lit], fun j u hu => ?_⟩
  rw [Nat.add_assoc]
  exact hcell _ u (by rw [← hu, List.getElem?_drop])
/-- A beginning. -/
theorem Rd.take (h : Rd w size A n xs) {k : Nat} (hk : k ≤ n) : Rd w size A k (xs.take (k * size)) := by
  have hl : k * size ≤ n * size := Nat.mul_le_mul_right _ hk
  refine ⟨by rw [List.length_take, h.1]; omega, fun hn => ?_⟩
  obtain ⟨b, off, rfl, hcell⟩ := h.2 (by omega)
  refine ⟨b, off, rfl, fun j u hu => hcell j u ?_⟩
  rw [List.getElem?_take] at hu
  split at hu
  · exact hu
  · cases hu
end

/-- A slice of integers of a kind. -/
def RdI (k : IntKind) (w : World) (A : Option Addr) (l : List Int) : Prop := Rd w 1 A l.length (l.map (Value.int k))

section
variable {k : IntKind} {w w' : World} {A : Option Addr} {l : List Int}
theorem RdI.nil : RdI k w A [] := Rd.nil
theorem RdI.keep (h : RdI k w A l) (hb : Below w.heap.size w w') : RdI k w' A l := Rd.keep h hb
theorem RdI.alloc (h : RdI k w A l) (o : Obj) : RdI k (w.alloc o) A l := Rd.alloc h o
theorem RdI.at_ {i : Nat} (h : RdI k w A l) (hi : i < l.length) : ∃ b off, A = some ⟨b, off, none⟩ ∧ w.cell? ⟨b, off + i, none⟩ = some (.int k l[i]) := by
  obtain ⟨b, off, u, hA, hu, hc⟩ := Rd.at_ h hi
  rw [List.getElem?_map, List.getElem?_eq_getElem hi] at hu
  simp only [Option.map_some, Option.some.injEq] at hu
  exact ⟨b, off, hA, by rw [hc, hu]⟩
theorem RdI.take (h : RdI k w A l) {i : Nat} (hi : i ≤ l.length) : RdI k w A (l.take i) := by
  have := Rd.take (k := i) h hi
  unfold RdI
  rw [List.length_take, Nat.min_eq_left hi, List.map_take]
  simpa using this
theorem RdI.of_own {base : Nat} {e : TypeId} {c n : Nat} (h : w.ownsRow base e 1 (.slice A n c) n (l.map (Value.int k))) : RdI k w A l ∧ n = l.length := by
  have hn : n = l.length := by have := h.1; simpa using this.symm
  subst hn
  exact ⟨Rd.of_own h, rfl⟩
theorem RdI.of_blk {g : Nat} {t : TypeId} {cs : Array Value} (h : Blk w g t cs) (hc : cs = (l.map (Value.int k)).toArray) : RdI k w (some ⟨g, 0, none⟩) l := by
  subst hc
  refine ⟨by simp, fun _ => ⟨g, 0, rfl, fun j u hu => ?_⟩⟩
  rw [h.cell]
  simpa using hu
theorem RdI.of_arg {ad : Addr} (h : ∀ i (hi : i < l.length), w.cell? (ad.add i) = some (.int k l[i])) : RdI k w (some ad) l := by
  refine Rd.of_arg (by simp) (fun j u hu => ?_) (by omega)
  rw [List.getElem?_map] at hu
  by_cases hj : j < l.length
  · rw [List.getElem?_eq_getElem hj] at hu
    simp only [Option.map_some, Option.some.injEq] at hu
    rw [← hu]; exact h j hj
  · rw [List.getElem?_eq_none (by omega)] at hu; cases hu
end

end Go.Proofs.YtnccebfapihpjaaGreatDoor
