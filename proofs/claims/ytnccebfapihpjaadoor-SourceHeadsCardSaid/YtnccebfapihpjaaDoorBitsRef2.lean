/- Contracts of package kinref2: the document's writer's bytes, the document's reader. -/
import Derived.Test.YtnccebfapihpjaaDoorBitsRef
import Derived.OwnWalk
namespace Go.Proofs.YtnccebfapihpjaaDoor
open Go Go.RowKit Go.Extern.Stop Go.Stop Go.Extern

/-- N bytes of bits. -/
def packN (N : Nat) (l : List Bool) : List Int := (List.range N).map fun j => Bi.numB l (8 * j) 8
theorem packN_length (N : Nat) (l : List Bool) : (packN N l).length = N := by simp [packN]
theorem packN_get (N : Nat) (l : List Bool) (j : Nat) (h : j < (packN N l).length) : (packN N l)[j] = Bi.numB l (8 * j) 8 := by simp [packN]
theorem packN_nil (N : Nat) : packN N [] = List.replicate N 0 := by
  have h : ∀ j, Bi.numB [] (8 * j) 8 = 0 := fun j => by
    have : Bi.numB [] (8 * j) 8 = Bi.numB [] 0 8 := Bi.numB_congr fun t _ => by rw [Bi.bv_out [] _ (by simp), Bi.bv_out [] _ (by simp)]
    rw [this]; rfl
  apply List.ext_getElem
  · simp [packN]
  · intro j h1 h2; rw [packN_get, h]; simp
theorem packN_all (l : List Bool) : packN ((l.length + 7) / 8) l = Bi.pack l := rfl
theorem packN_false (N : Nat) (m : List Bool) : packN N (m ++ [false]) = packN N m := by
  unfold packN
  apply List.map_congr_left
  intro j _
  exact Bi.numB_congr fun t _ => Bi.bv_pad m 1 _
theorem lastB_num (m : List Bool) : lastB m = Bi.numB m (8 * (m.length / 8)) 8 := by
  unfold lastB
  rw [Bi.grown_getD, if_pos (by omega)]
theorem packN_true (N : Nat) (m : List Bool) : packN N (m ++ [true]) = (packN N m).set (m.length / 8) (lastB m + 2 ^ (7 - m.length % 8)) := by
  apply List.ext_getElem
  · rw [List.length_set, packN_length, packN_length]
  · intro j h1 h2
    rw [packN_get, List.getElem_set]
    split
    · next e =>
      subst e
      rw [lastB_num]
      exact (Bi.numB_snoc m _ rfl).1
    · next e =>
      rw [packN_get]
      refine Bi.numB_congr fun t ht => ?_
      by_cases h3 : 8 * j + t < m.length
      · exact Bi.bv_app_left _ _ _ h3
      · rw [Bi.bv_out m _ (by omega), Bi.bv_out _ _ (by simp; omega)]
theorem packN_last (N : Nat) (m : List Bool) (h : m.length / 8 < N) : (packN N m)[m.length / 8]? = some (lastB m) := by
  rw [List.getElem?_eq_getElem (by rw [packN_length]; exact h), packN_get, lastB_num]
theorem takeB_snoc (l : List Bool) (k : Nat) (h : k < l.length) : l.take (k + 1) = l.take k ++ [l[k]] := List.take_succ_eq_append_getElem h

/-! ### The document's reader -/
/-- What the document's calls with an error answer. -/
def RErr (w : World) (z : Value) (path : List (ByteArray × Int)) (c : Int) (e : Ending) (w' : World) : Prop :=
  ∃ A cap, e = .returned (.tuple #[z, .agg #[.int .i64 c, .slice A path.length cap]]) ∧ Rd w' 2 A path.length (flatP path) ∧ (∀ a, A = some a → w.heap.size ≤ a.block) ∧ Below w.heap.size w w'

theorem get_val2 {x : Int} {k : Nat} (hx0 : 0 ≤ x) (hx1 : x ≤ 255) : wrap64 (bits .and .u8 (x / 2 ^ k) 1) = x / 2 ^ k % 2 := by
  have hd0 : 0 ≤ x / 2 ^ k := Int.ediv_nonneg hx0 (Int.le_of_lt (Int.pow_pos (by omega)))
  have hd1 : x / 2 ^ k ≤ x := Int.ediv_le_self _ hx0
  obtain ⟨y, hy⟩ := Int.eq_ofNat_of_zero_le hd0
  rw [hy] at hd1 ⊢
  rw [and_one8 y (by omega)]
  unfold wrap64; omega

theorem get_val3 {N x : Int} {k : Nat} (h0 : 0 ≤ N) (h1 : N ≤ 2147483648) (hx0 : 0 ≤ x) (hx1 : x ≤ 255) : wrap64 (2 * N + wrap64 (bits .and .u8 (x / 2 ^ k) 1)) = 2 * N + x / 2 ^ k % 2 := by
  rw [get_val2 hx0 hx1]
  unfold wrap64; omega

end Go.Proofs.YtnccebfapihpjaaDoor
