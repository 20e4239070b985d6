/- Bits and bytes as lists of integers: what a reader of bits reads, what a writer of bits has written, and that the one is the other's way back. No program in sight. -/
namespace Go.Proofs.YtnccebfapihpjaaGreatDoor
namespace Bi

/-- The bit at a place of bytes, the most significant one of a byte first. -/
def bit (b : List Int) (i : Nat) : Int := b.getD (i / 8) 0 / 2 ^ (7 - i % 8) % 2

theorem bit_bd (b : List Int) (i : Nat) : 0 ≤ bit b i ∧ bit b i ≤ 1 := by unfold bit; omega

/-- The number that n bits from p on are. -/
def num (b : List Int) (p : Nat) : Nat → Int
  | 0 => 0
  | n + 1 => 2 * num b p n + bit b (p + n)

theorem num_bd (b : List Int) (p : Nat) : ∀ n, 0 ≤ num b p n ∧ num b p n < 2 ^ n := by
  intro n
  induction n with
  | zero => simp [num]
  | succ n ih =>
    have := bit_bd b (p + n)
    have e : (2 : Int) ^ (n + 1) = 2 * 2 ^ n := by rw [Int.pow_succ]; omega
    simp only [num, e]
    omega

theorem num_add (b : List Int) (p n : Nat) : ∀ m, num b p (n + m) = num b p n * 2 ^ m + num b (p + n) m := by
  intro m
  induction m with
  | zero => simp [num]
  | succ m ih =>
    have e : (2 : Int) ^ (m + 1) = 2 * 2 ^ m := by rw [Int.pow_succ]; omega
    rw [← Nat.add_assoc]
    simp only [num, ih, e, Nat.add_assoc]
    rw [show num b p n * (2 * 2 ^ m) = 2 * (num b p n * 2 ^ m) from by rw [Int.mul_left_comm]]
    omega

/-- A bool as a number. -/
def bv (l : List Bool) (i : Nat) : Int := if l.getD i false then 1 else 0
theorem bv_bd (l : List Bool) (i : Nat) : 0 ≤ bv l i ∧ bv l i ≤ 1 := by unfold bv; split <;> omega

/-- The number that n bools from p on are. -/
def numB (l : List Bool) (p : Nat) : Nat → Int
  | 0 => 0
  | n + 1 => 2 * numB l p n + bv l (p + n)

theorem numB_bd (l : List Bool) (p : Nat) : ∀ n, 0 ≤ numB l p n ∧ numB l p n < 2 ^ n := by
  intro n
  induction n with
  | zero => simp [numB]
  | succ n ih =>
    have := bv_bd l (p + n)
    have e : (2 : Int) ^ (n + 1) = 2 * 2 ^ n := by rw [Int.pow_succ]; omega
    simp only [numB, e]
    omega

theorem numB_congr {l m : List Bool} {p q : Nat} : ∀ {n}, (∀ t, t < n → bv l (p + t) = bv m (q + t)) → numB l p n = numB m q n := by
  intro n
  induction n with
  | zero => intro _; rfl
  | succ n ih => intro h; simp only [numB]; rw [ih (fun t ht => h t (by omega)), h n (by omega)]

theorem num_congr {b : List Int} {m : List Bool} {p q : Nat} : ∀ {n}, (∀ t, t < n → bit b (p + t) = bv m (q + t)) → num b p n = numB m q n := by
  intro n
  induction n with
  | zero => intro _; rfl
  | succ n ih => intro h; simp only [numB, num]; rw [ih (fun t ht => h t (by omega)), h n (by omega)]

/-- The bytes that bits are, the last one filled with noughts. -/
def pack (l : List Bool) : List Int := (List.range ((l.length + 7) / 8)).map fun j => numB l (8 * j) 8

theorem pack_length (l : List Bool) : (pack l).length = (l.length + 7) / 8 := by simp [pack]

theorem pack_get (l : List Bool) (j : Nat) (h : j < (l.length + 7) / 8) : (pack l)[j]'(by rw [pack_length]; exact h) = numB l (8 * j) 8 := by simp [pack]

theorem pack_getD (l : List Bool) (j : Nat) (h : j < (l.length + 7) / 8) : (pack l).getD j 0 = numB l (8 * j) 8 := by
  rw [List.getD_eq_getElem?_getD, List.getElem?_eq_getElem (by rw [pack_length]; exact h), pack_get l j h]; rfl

theorem pack_bd (l : List Bool) : ∀ n ∈ pack l, 0 ≤ n ∧ n ≤ 255 := by
  intro n hn
  simp only [pack, List.mem_map] at hn
  obtain ⟨j, _, rfl⟩ := hn
  have := numB_bd l (8 * j) 8
  omega

theorem numB_bit (l : List Bool) (p t : Nat) (ht : t < 8) : numB l p 8 / 2 ^ (7 - t) % 2 = bv l (p + t) := by
  have h0 := bv_bd l (p + 0)
  have h1 := bv_bd l (p + 1)
  have h2 := bv_bd l (p + 2)
  have h3 := bv_bd l (p + 3)
  have h4 := bv_bd l (p + 4)
  have h5 := bv_bd l (p + 5)
  have h6 := bv_bd l (p + 6)
  have h7 := bv_bd l (p + 7)
  simp only [numB]
  have : t = 0 ∨ t = 1 ∨ t = 2 ∨ t = 3 ∨ t = 4 ∨ t = 5 ∨ t = 6 ∨ t = 7 := by omega
  rcases this with rfl | rfl | rfl | rfl | rfl | rfl | rfl | rfl <;> simp only [Nat.reduceSub, Int.reducePow] <;> omega

/-- There and back: a bit of what was packed. -/
theorem bit_pack (l : List Bool) (i : Nat) (h : i < 8 * ((l.length + 7) / 8)) : bit (pack l) i = bv l i := by
  unfold bit
  rw [pack_getD l (i / 8) (by omega), numB_bit l (8 * (i / 8)) (i % 8) (by omega)]
  congr 1
  omega

theorem num_pack (l : List Bool) (p n : Nat) (h : p + n ≤ 8 * ((l.length + 7) / 8)) : num (pack l) p n = numB l p n :=
  num_congr fun t ht => bit_pack l (p + t) (by omega)

theorem bv_out (l : List Bool) (i : Nat) (h : l.length ≤ i) : bv l i = 0 := by simp [bv, List.getD_eq_getElem?_getD, List.getElem?_eq_none h]
theorem bv_app_left (l m : List Bool) (i : Nat) (h : i < l.length) : bv (l ++ m) i = bv l i := by
  simp [bv, List.getD_eq_getElem?_getD, List.getElem?_append_left h]
theorem bv_app_right (l m : List Bool) (i : Nat) : bv (l ++ m) (l.length + i) = bv m i := by
  simp [bv, List.getD_eq_getElem?_getD, List.getElem?_append_right]

/-! ### A number in n bits -/
def bitsOf (v : Int) : Nat → List Bool
  | 0 => []
  | n + 1 => decide (v / 2 ^ n % 2 = 1) :: bitsOf v n

theorem bitsOf_length (v : Int) : ∀ n, (bitsOf v n).length = n := by
  intro n
  induction n with
  | zero => rfl
  | succ n ih => simp [bitsOf, ih]

theorem numB_cons (b : Bool) (l : List Bool) : ∀ n, numB (b :: l) 0 (n + 1) = (if b then 1 else 0) * 2 ^ n + numB l 0 n := by
  intro n
  induction n with
  | zero => simp [numB, bv]
  | succ n ih =>
    have e : (2 : Int) ^ (n + 1) = 2 * 2 ^ n := by rw [Int.pow_succ]; omega
    have hb : bv (b :: l) (0 + (n + 1)) = bv l (0 + n) := by simp [bv, List.getD_eq_getElem?_getD]
    show 2 * numB (b :: l) 0 (n + 1) + bv (b :: l) (0 + (n + 1)) = _
    rw [ih, e, hb]
    simp only [numB]
    cases b <;> simp <;> omega

theorem numB_bitsOf (v : Int) : ∀ n, numB (bitsOf v n) 0 n = v % 2 ^ n := by
  intro n
  induction n with
  | zero => simp [numB]
  | succ n ih =>
    have e : (2 : Int) ^ (n + 1) = 2 ^ n * 2 := Int.pow_succ _ _
    have hp : (0 : Int) < 2 ^ n := Int.pow_pos (by omega)
    have h1 := Int.emod_nonneg v (Int.ne_of_gt hp)
    have h2 := Int.emod_lt_of_pos v hp
    have h3 := Int.mul_ediv_add_emod v (2 ^ n)
    have h4 := Int.mul_ediv_add_emod (v / 2 ^ n) 2
    rw [bitsOf, numB_cons, ih, e]
    generalize (2 : Int) ^ n = a at *
    generalize v % a = r at *
    generalize v / a = q at *
    have h5 : a * q = a * 2 * (q / 2) + a * (q % 2) := by rw [Int.mul_assoc, ← Int.mul_add, h4]
    by_cases h : q % 2 = 1
    · rw [h, Int.mul_one] at h5
      have h6 := ((Int.ediv_emod_unique (a := v) (b := a * 2) (q := q / 2) (r := a + r) (by omega)).2 ⟨by omega, by omega, by omega⟩).2
      rw [h6]; simp [h]
    · have h0 : q % 2 = 0 := by omega
      rw [h0, Int.mul_zero] at h5
      have h6 := ((Int.ediv_emod_unique (a := v) (b := a * 2) (q := q / 2) (r := r) (by omega)).2 ⟨by omega, by omega, by omega⟩).2
      rw [h6]; simp [h]

theorem numB_of_bits (l m : List Bool) (v : Int) (n : Nat) (h0 : 0 ≤ v) (h1 : v < 2 ^ n) : numB (l ++ bitsOf v n ++ m) l.length n = v := by
  have : numB (l ++ bitsOf v n ++ m) l.length n = numB (bitsOf v n) 0 n := numB_congr fun t ht => by
    rw [List.append_assoc, bv_app_right, Nat.zero_add, bv_app_left _ _ _ (by rw [bitsOf_length]; exact ht)]
  rw [this, numB_bitsOf, Int.emod_eq_of_lt h0 h1]

/-! ### One bit more -/
/-- Noughts up to a whole byte. -/
def padded (l : List Bool) : List Bool := l ++ List.replicate ((8 - l.length % 8) % 8) false
theorem padded_length (l : List Bool) : (padded l).length = 8 * ((l.length + 7) / 8) := by simp [padded]; omega
theorem bv_pad (l : List Bool) (k i : Nat) : bv (l ++ List.replicate k false) i = bv l i := by
  by_cases h : i < l.length
  · exact bv_app_left _ _ _ h
  · rw [bv_out l i (by omega)]
    obtain ⟨j, rfl⟩ : ∃ j, i = l.length + j := ⟨i - l.length, by omega⟩
    rw [bv_app_right]
    simp [bv, List.getD_eq_getElem?_getD, List.getElem?_replicate]
    split <;> simp
theorem pack_padded (l : List Bool) : pack (padded l) = pack l := by
  unfold pack
  have : ((padded l).length + 7) / 8 = (l.length + 7) / 8 := by rw [padded_length]; omega
  rw [this]
  apply List.map_congr_left
  intro j _
  exact numB_congr fun t _ => bv_pad _ _ _

/-- Where a byte is full one more is begun. -/
def grown (l : List Bool) : List Int := if l.length % 8 = 0 then pack l ++ [0] else pack l
theorem grown_length (l : List Bool) : (grown l).length = l.length / 8 + 1 := by
  unfold grown; split <;> simp [pack_length] <;> omega
theorem grown_getD (l : List Bool) (j : Nat) : (grown l).getD j 0 = if j < l.length / 8 + 1 then numB l (8 * j) 8 else 0 := by
  have key : ∀ j, l.length ≤ 8 * j → numB l (8 * j) 8 = 0 := fun j h => by
    have : numB l (8 * j) 8 = numB [] 0 8 := numB_congr fun t _ => by rw [bv_out l _ (by omega), bv_out [] _ (by simp)]
    rw [this]; rfl
  rw [List.getD_eq_getElem?_getD]
  unfold grown
  split
  · next h =>
    by_cases hj : j < (l.length + 7) / 8
    · rw [List.getElem?_append_left (by rw [pack_length]; exact hj), if_pos (by omega), List.getElem?_eq_getElem (by rw [pack_length]; exact hj), pack_get l j hj]; rfl
    · rw [List.getElem?_append_right (by rw [pack_length]; omega), pack_length]
      by_cases h2 : j = (l.length + 7) / 8
      · rw [if_pos (by omega), key j (by omega), h2]; simp
      · rw [if_neg (by omega), List.getElem?_eq_none (by simp; omega)]; rfl
  · next h =>
    by_cases hj : j < (l.length + 7) / 8
    · rw [if_pos (by omega), List.getElem?_eq_getElem (by rw [pack_length]; exact hj), pack_get l j hj]; rfl
    · rw [if_neg (by omega), List.getElem?_eq_none (by rw [pack_length]; omega)]; rfl

theorem pack_nil : pack [] = [] := rfl

/-- The bit is nought: what was grown is it. -/
theorem pack_snoc_false (l : List Bool) : pack (l ++ [false]) = grown l := by
  apply List.ext_getElem
  · rw [pack_length, grown_length]; simp; omega
  · intro j h1 h2
    rw [pack_length] at h1
    rw [pack_get _ j h1]
    have h3 := grown_getD l j
    rw [List.getD_eq_getElem?_getD, List.getElem?_eq_getElem h2, if_pos (by rw [grown_length] at h2; exact h2)] at h3
    simp only [Option.getD_some] at h3
    rw [h3]
    exact numB_congr fun t _ => bv_pad l 1 _

theorem numB_snoc (l : List Bool) (j : Nat) (h : j = l.length / 8) : numB (l ++ [true]) (8 * j) 8 = numB l (8 * j) 8 + 2 ^ (7 - l.length % 8) ∧ numB l (8 * j) 8 % 2 ^ (8 - l.length % 8) = 0 := by
  obtain ⟨r, hr, hl⟩ : ∃ r, r < 8 ∧ l.length = 8 * j + r := ⟨l.length % 8, by omega, by omega⟩
  have hm : l.length % 8 = r := by omega
  have a : ∀ t, bv (l ++ [true]) (8 * j + t) = if t = r then 1 else bv l (8 * j + t) := by
    intro t
    split
    · next h => rw [show 8 * j + t = l.length + 0 by omega, bv_app_right]; simp [bv]
    · next h2 =>
      by_cases h3 : 8 * j + t < l.length
      · exact bv_app_left _ _ _ h3
      · rw [bv_out l _ (by omega), bv_out _ _ (by simp; omega)]
  have z : ∀ t, r ≤ t → bv l (8 * j + t) = 0 := fun t ht => bv_out l _ (by omega)
  rw [hm]
  simp only [numB, a]
  clear a hl hm h
  have h0 := bv_bd l (8 * j + 0)
  have h1 := bv_bd l (8 * j + 1)
  have h2 := bv_bd l (8 * j + 2)
  have h3 := bv_bd l (8 * j + 3)
  have h4 := bv_bd l (8 * j + 4)
  have h5 := bv_bd l (8 * j + 5)
  have h6 := bv_bd l (8 * j + 6)
  have h7 := bv_bd l (8 * j + 7)
  have z0 := z 0
  have z1 := z 1
  have z2 := z 2
  have z3 := z 3
  have z4 := z 4
  have z5 := z 5
  have z6 := z 6
  have z7 := z 7
  clear z
  generalize bv l (8 * j + 0) = x0 at *
  generalize bv l (8 * j + 1) = x1 at *
  generalize bv l (8 * j + 2) = x2 at *
  generalize bv l (8 * j + 3) = x3 at *
  generalize bv l (8 * j + 4) = x4 at *
  generalize bv l (8 * j + 5) = x5 at *
  generalize bv l (8 * j + 6) = x6 at *
  generalize bv l (8 * j + 7) = x7 at *
  have : r = 0 ∨ r = 1 ∨ r = 2 ∨ r = 3 ∨ r = 4 ∨ r = 5 ∨ r = 6 ∨ r = 7 := by omega
  rcases this with rfl | rfl | rfl | rfl | rfl | rfl | rfl | rfl <;> simp only [Nat.reduceSub, Int.reducePow, Nat.reduceEqDiff, if_true, if_false] <;> simp <;> omega

/-- The bit is one: it is added to the last byte. -/
theorem pack_snoc_true (l : List Bool) : pack (l ++ [true]) = (grown l).set (l.length / 8) ((grown l).getD (l.length / 8) 0 + 2 ^ (7 - l.length % 8)) := by
  apply List.ext_getElem
  · rw [pack_length, List.length_set, grown_length]; simp; omega
  · intro j h1 h2
    rw [List.length_set] at h2
    have h2' := h2
    rw [grown_length] at h2'
    rw [pack_length] at h1
    rw [pack_get _ j h1, List.getElem_set]
    have h3 := grown_getD l j
    rw [List.getD_eq_getElem?_getD, List.getElem?_eq_getElem h2, if_pos h2'] at h3
    simp only [Option.getD_some] at h3
    split
    · next e =>
      subst e
      rw [grown_getD, if_pos h2']
      exact (numB_snoc l _ rfl).1
    · next e =>
      rw [h3]
      refine numB_congr fun t ht => ?_
      exact bv_app_left _ _ _ (by omega)

theorem grown_last (l : List Bool) : 0 ≤ (grown l).getD (l.length / 8) 0 ∧ (grown l).getD (l.length / 8) 0 < 256 ∧ (grown l).getD (l.length / 8) 0 % 2 ^ (8 - l.length % 8) = 0 := by
  rw [grown_getD, if_pos (by omega)]
  have := numB_bd l (8 * (l.length / 8)) 8
  exact ⟨this.1, this.2, (numB_snoc l _ rfl).2⟩

theorem grown_bd (l : List Bool) : ∀ n ∈ grown l, 0 ≤ n ∧ n ≤ 255 := by
  intro n hn
  unfold grown at hn
  split at hn
  · rcases List.mem_append.1 hn with h | h
    · exact pack_bd l n h
    · simp at h; omega
  · exact pack_bd l n hn

end Bi
end Go.Proofs.YtnccebfapihpjaaGreatDoor
