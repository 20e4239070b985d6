/- Frames as lists of samples, their encoding as bits, and what a reader makes of bytes: there and back, cut off, with one byte more. No program in sight. -/
import Derived.Test.YtnccebfapihpjaaGreatDoorCodesLaw
namespace Go.Proofs.YtnccebfapihpjaaGreatDoor
namespace So
open Bi Co

def clip (v : Int) : Int := min (max v 0) 255
theorem clip_bd (v : Int) : 0 ≤ clip v ∧ clip v ≤ 255 := by unfold clip; omega
theorem clip_id {v : Int} : v = clip v ↔ 0 ≤ v ∧ v ≤ 255 := by unfold clip; omega

/-- A sample foretold from those ahead: at place i of rows of w. -/
def guess (pix : List Int) (w i : Nat) : Int :=
  if i = 0 then 128
  else if i < w then pix.getD (i - 1) 0
  else if i % w = 0 then pix.getD (i - w) 0
  else clip (pix.getD (i - 1) 0 + pix.getD (i - w) 0 - pix.getD (i - w - 1) 0)

theorem guess_congr {p q : List Int} {w i : Nat} (hw : 1 ≤ w) (h : ∀ j, j < i → p.getD j 0 = q.getD j 0) : guess p w i = guess q w i := by
  unfold guess
  split
  · rfl
  · split
    · exact h _ (by omega)
    · split
      · exact h _ (by omega)
      · rw [h (i - 1) (by omega), h (i - w) (by omega), h (i - w - 1) (by omega)]

theorem getD_bd {p : List Int} (h : ∀ v ∈ p, 0 ≤ v ∧ v ≤ 255) (j : Nat) : 0 ≤ p.getD j 0 ∧ p.getD j 0 ≤ 255 := by
  rw [List.getD_eq_getElem?_getD]
  by_cases hj : j < p.length
  · rw [List.getElem?_eq_getElem hj]; exact h _ (List.getElem_mem hj)
  · rw [List.getElem?_eq_none (by omega)]; simp

theorem guess_bd {p : List Int} (h : ∀ v ∈ p, 0 ≤ v ∧ v ≤ 255) (w i : Nat) : 0 ≤ guess p w i ∧ guess p w i ≤ 255 := by
  unfold guess
  split
  · omega
  · split
    · exact getD_bd h _
    · split
      · exact getD_bd h _
      · exact clip_bd _

/-- What is coded of a sample. -/
def foldAt (pix : List Int) (w i : Nat) : Int := fold (pix.getD i 0 - guess pix w i)
def folds (pix : List Int) (w : Nat) : List Int := (List.range pix.length).map (foldAt pix w)

theorem foldAt_bd {p : List Int} (h : ∀ v ∈ p, 0 ≤ v ∧ v ≤ 255) (w i : Nat) : 0 ≤ foldAt p w i ∧ foldAt p w i ≤ 510 := by
  have h1 := getD_bd h i
  have h2 := guess_bd h w i
  unfold foldAt
  refine ⟨fold_nonneg _, ?_⟩
  by_cases hv : 0 < p.getD i 0 - guess p w i
  · rw [fold_pos (by omega) hv]; omega
  · rw [fold_neg (by omega) (by omega)]; omega

theorem unfold_foldAt {p : List Int} (h : ∀ v ∈ p, 0 ≤ v ∧ v ≤ 255) (w i : Nat) : guess p w i + unfold' (foldAt p w i) = p.getD i 0 := by
  have h1 := getD_bd h i
  have h2 := guess_bd h w i
  unfold foldAt
  rw [unfold_fold (by omega) (by omega)]
  omega

/-! ### With which k -/
/-- How many bits numbers take. -/
def cost (k : Int) : List Int → Int
  | [] => 0
  | v :: r => sizeRice v k + cost k r
theorem cost_app (k : Int) (l m : List Int) : cost k (l ++ m) = cost k l + cost k m := by
  induction l with
  | nil => simp [cost]
  | cons a r ih => simp [cost, ih]; omega
theorem cost_bd (k : Int) (l : List Int) : 0 ≤ cost k l ∧ cost k l ≤ 55 * l.length := by
  induction l with
  | nil => simp [cost]
  | cons a r ih =>
    have := sizeRice_bd a k
    simp only [cost, List.length_cons]
    omega

/-- The first k below n with which they take the fewest, and how many (0, -1: none yet). -/
def best (l : List Int) : Nat → Int × Int
  | 0 => (0, -1)
  | n + 1 => let b := best l n; if b.2 < 0 ∨ cost n l < b.2 then ((n : Int), cost n l) else b

theorem best_bd (l : List Int) : ∀ n, 0 ≤ (best l n).1 ∧ (n = 0 ∨ (best l n).1 < n) := by
  intro n
  induction n with
  | zero => simp [best]
  | succ n ih =>
    simp only [best]
    split
    · simp; omega
    · refine ⟨ih.1, Or.inr ?_⟩
      rcases ih.2 with h | h
      · subst h; simp [best] at *
      · omega

def bestK (l : List Int) : Int := (best l 8).1
theorem bestK_bd (l : List Int) : 0 ≤ bestK l ∧ bestK l ≤ 7 := by
  have := best_bd l 8
  unfold bestK
  omega

/-! ### A frame's bits -/
def manyBits (k : Nat) : List Int → List Bool
  | [] => []
  | v :: r => riceBits v k ++ manyBits k r
theorem manyBits_app (k : Nat) (l m : List Int) : manyBits k (l ++ m) = manyBits k l ++ manyBits k m := by
  induction l with
  | nil => rfl
  | cons a r ih => simp [manyBits, ih]

def frameBits (pix : List Int) (w : Nat) : List Bool :=
  let l := folds pix w
  bitsOf (bestK l) 3 ++ manyBits (bestK l).toNat l

/-! ### Reading -/
/-- How a reading of frames ends: samples; an error of the bits; a sample out of its bounds. -/
inductive Fr where
  | ok (pix : List Int)
  | bits (e : Got)
  | sample

/-- n samples more, behind those that stand. -/
def samples (b : List Int) (T k w : Nat) : Nat → List Int → Nat → Fr × Nat
  | 0, pix, p => (.ok pix, p)
  | n + 1, pix, p =>
    match getRice b T p k 510 with
    | (.num u, q) =>
      let v := guess pix w pix.length + unfold' u
      if 0 ≤ v ∧ v ≤ 255 then samples b T k w n (pix ++ [v]) q else (.sample, q)
    | (e, q) => (.bits e, q)

def frame (b : List Int) (T w n : Nat) (p : Nat) : Fr × Nat :=
  if T < p + 3 then (.bits (.short p), p) else samples b T (num b p 3).toNat w n [] (p + 3)

/-- n frames more, behind the i that stand: the frames; or the frame's number and what was wrong. -/
def frames (b : List Int) (T w s : Nat) : Nat → List (List Int) → Nat → Except (Nat × Fr) (List (List Int)) × Nat
  | 0, fs, p => (.ok fs, p)
  | n + 1, fs, p =>
    match frame b T w s p with
    | (.ok pix, q) => frames b T w s n (fs ++ [pix]) q
    | (e, q) => (.error (fs.length, e), q)

/-- The bits up to a whole byte: the place of the first that is not nought. -/
def pad (b : List Int) (p : Nat) : Nat → Option Nat
  | 0 => none
  | n + 1 => if bit b p = 1 then some p else pad b (p + 1) n

/-! ### There and back -/
theorem samples_back {b : List Int} {T k w : Nat} {pix : List Int} (hw : 1 ≤ w) (hp : ∀ v ∈ pix, 0 ≤ v ∧ v ≤ 255) : ∀ (n j p : Nat), j + n = pix.length →
    p + (manyBits k ((folds pix w).drop j)).length ≤ T → At b p (manyBits k ((folds pix w).drop j)) →
    samples b T k w n (pix.take j) p = (.ok pix, p + (manyBits k ((folds pix w).drop j)).length) := by
  intro n
  induction n with
  | zero =>
    intro j p hj hT _
    have h1 : (folds pix w).drop j = [] := List.drop_eq_nil_of_le (by simp [folds]; omega)
    rw [h1]
    simp only [samples, manyBits, List.length_nil, Nat.add_zero]
    rw [List.take_of_length_le (by omega)]
  | succ n ih =>
    intro j p hj hT hA
    have hlen : j < (folds pix w).length := by simp [folds]; omega
    have hd : (folds pix w).drop j = foldAt pix w j :: (folds pix w).drop (j + 1) := by
      rw [List.drop_eq_getElem_cons hlen]; simp [folds]
    rw [hd] at hT hA ⊢
    simp only [manyBits, List.length_append] at hT hA ⊢
    rw [at_app] at hA
    have hb := foldAt_bd hp w j
    have hr := rice_back (b := b) (T := T) (p := p) (k := k) (most := 510) hb.1 (by omega) hb.2 (by omega) hA.1
    have hl : (pix.take j).length = j := by simp; omega
    have hg : guess (pix.take j) w j = guess pix w j := guess_congr hw fun i hi => by
      rw [List.getD_eq_getElem?_getD, List.getD_eq_getElem?_getD, List.getElem?_take, if_pos hi]
    have hv := unfold_foldAt hp w j
    have hvb := getD_bd hp j
    have ht : pix.take j ++ [pix.getD j 0] = pix.take (j + 1) := by
      rw [List.take_succ_eq_append_getElem (by omega), List.getD_eq_getElem?_getD, List.getElem?_eq_getElem (by omega)]; rfl
    have := ih (j + 1) (p + (riceBits (foldAt pix w j) k).length) (by omega) (by omega) hA.2
    simp only [samples, hr, hl, hg, hv]
    rw [if_pos hvb, ht, this, Nat.add_assoc]

theorem frame_back {b : List Int} {T w p : Nat} {pix : List Int} (hw : 1 ≤ w) (hp : ∀ v ∈ pix, 0 ≤ v ∧ v ≤ 255) (hT : p + (frameBits pix w).length ≤ T) (hA : At b p (frameBits pix w)) :
    frame b T w pix.length p = (.ok pix, p + (frameBits pix w).length) := by
  have hk := bestK_bd (folds pix w)
  unfold frameBits at hT hA ⊢
  simp only [List.length_append, bitsOf_length] at hT hA ⊢
  rw [at_app, bitsOf_length] at hA
  have hn := num_at b p hA.1
  rw [Int.emod_eq_of_lt hk.1 (by simp only [Int.reducePow]; omega)] at hn
  unfold frame
  rw [if_neg (by omega), hn]
  have := samples_back (b := b) (T := T) (k := (bestK (folds pix w)).toNat) hw hp pix.length 0 (p + 3) (by omega) (by simpa using (by omega : _ ≤ T)) (by simpa using hA.2)
  simp only [List.take_zero, List.drop_zero] at this
  rw [this, Nat.add_assoc]

def allBits (w : Nat) : List (List Int) → List Bool
  | [] => []
  | f :: r => frameBits f w ++ allBits w r
theorem allBits_app (w : Nat) (l m : List (List Int)) : allBits w (l ++ m) = allBits w l ++ allBits w m := by
  induction l with
  | nil => rfl
  | cons a r ih => simp [allBits, ih]

theorem frames_back {b : List Int} {T w s : Nat} (hw : 1 ≤ w) : ∀ (fs gs : List (List Int)) (p : Nat), (∀ f ∈ fs, f.length = s ∧ ∀ v ∈ f, 0 ≤ v ∧ v ≤ 255) →
    p + (allBits w fs).length ≤ T → At b p (allBits w fs) → frames b T w s fs.length gs p = (.ok (gs ++ fs), p + (allBits w fs).length) := by
  intro fs
  induction fs with
  | nil => intro gs p _ _ _; simp [frames, allBits]
  | cons f r ih =>
    intro gs p hf hT hA
    simp only [allBits, List.length_append] at hT hA ⊢
    rw [at_app] at hA
    obtain ⟨h1, h2⟩ := hf f (by simp)
    have h3 := frame_back (T := T) hw h2 (by omega) hA.1
    rw [h1] at h3
    have := ih (gs ++ [f]) (p + (frameBits f w).length) (fun g hg => hf g (by simp [hg])) (by omega) hA.2
    simp only [List.length_cons, frames, h3]
    rw [this]
    simp [Nat.add_assoc]

/-! ### What was read from a beginning is read from all -/
theorem getRice_more {b b' : List Int} {T T' p k q : Nat} {v most : Int} (hT : T ≤ T') (hb : ∀ i, i < T → bit b' i = bit b i) (h : getRice b T p k most = (.num v, q)) : getRice b' T' p k most = (.num v, q) := by
  obtain ⟨h0, h1, h2, h3, h4, h5⟩ := rice_ok h
  rw [h3]
  exact rice_back h0 h1 h2 (by omega) fun t ht => by rw [hb _ (by omega)]; exact h5 t ht

theorem num_more {b b' : List Int} {T p n : Nat} (hb : ∀ i, i < T → bit b' i = bit b i) (h : p + n ≤ T) : num b' p n = num b p n := by
  induction n with
  | zero => rfl
  | succ n ih => simp only [num]; rw [ih (by omega), hb _ (by omega)]

theorem samples_more {b b' : List Int} {T T' k w : Nat} (hT : T ≤ T') (hb : ∀ i, i < T → bit b' i = bit b i) : ∀ (n : Nat) (pix : List Int) (p q : Nat) (r : List Int), p ≤ T → samples b T k w n pix p = (.ok r, q) → samples b' T' k w n pix p = (.ok r, q) ∧ q ≤ T ∧ r.length = pix.length + n ∧ ((∀ v ∈ pix, 0 ≤ v ∧ v ≤ 255) → ∀ v ∈ r, 0 ≤ v ∧ v ≤ 255) := by
  intro n
  induction n with
  | zero =>
    intro pix p q r hp h
    simp only [samples, Prod.mk.injEq, Fr.ok.injEq] at h ⊢
    obtain ⟨rfl, rfl⟩ := h
    exact ⟨⟨rfl, rfl⟩, hp, by omega, fun h => h⟩
  | succ n ih =>
    intro pix p q r hp h
    simp only [samples] at h
    split at h
    · next u q' hg =>
      split at h
      · next hv =>
        obtain ⟨h1, h2, h3, h4⟩ := ih _ _ _ _ (rice_ok hg).2.2.2.2.1 h
        refine ⟨?_, h2, by simp at h3; omega, fun h5 => h4 (fun v hv' => ?_)⟩
        · simp only [samples, getRice_more hT hb hg]
          rw [if_pos hv, h1]
        · rcases List.mem_append.1 hv' with h6 | h6
          · exact h5 v h6
          · simp at h6; subst h6; exact hv
      · cases h
    · cases h

theorem frame_more {b b' : List Int} {T T' w n p q : Nat} {r : List Int} (hT : T ≤ T') (hb : ∀ i, i < T → bit b' i = bit b i) (h : frame b T w n p = (.ok r, q)) : frame b' T' w n p = (.ok r, q) ∧ q ≤ T ∧ r.length = n ∧ ∀ v ∈ r, 0 ≤ v ∧ v ≤ 255 := by
  unfold frame at h ⊢
  split at h
  · cases h
  · next h3 =>
    rw [if_neg (by omega), num_more hb (by omega)]
    obtain ⟨h1, h2, h4, h5⟩ := samples_more hT hb _ _ _ _ _ (by omega) h
    exact ⟨h1, h2, by simpa using h4, h5 (by simp)⟩

theorem frames_more {b b' : List Int} {T T' w s : Nat} (hT : T ≤ T') (hb : ∀ i, i < T → bit b' i = bit b i) : ∀ (n : Nat) (fs : List (List Int)) (p q : Nat) (r : List (List Int)), p ≤ T → frames b T w s n fs p = (.ok r, q) →
    frames b' T' w s n fs p = (.ok r, q) ∧ q ≤ T ∧ r.length = fs.length + n ∧ ((∀ f ∈ fs, f.length = s ∧ ∀ v ∈ f, 0 ≤ v ∧ v ≤ 255) → ∀ f ∈ r, f.length = s ∧ ∀ v ∈ f, 0 ≤ v ∧ v ≤ 255) := by
  intro n
  induction n with
  | zero =>
    intro fs p q r hp h
    simp only [frames, Prod.mk.injEq, Except.ok.injEq] at h ⊢
    obtain ⟨rfl, rfl⟩ := h
    exact ⟨⟨rfl, rfl⟩, hp, by omega, fun h => h⟩
  | succ n ih =>
    intro fs p q r hp h
    simp only [frames] at h
    split at h
    · next pix q' hg =>
      obtain ⟨h1, h2, h3, h4⟩ := frame_more hT hb hg
      obtain ⟨k1, k2, k3, k4⟩ := ih _ _ _ _ h2 h
      refine ⟨?_, k2, by simp at k3; omega, fun h5 => k4 (fun f hf => ?_)⟩
      · simp only [frames, h1]; exact k1
      · rcases List.mem_append.1 hf with h6 | h6
        · exact h5 f h6
        · simp at h6; subst h6; exact ⟨h3, h4⟩
    · cases h

end So
end Go.Proofs.YtnccebfapihpjaaGreatDoor
