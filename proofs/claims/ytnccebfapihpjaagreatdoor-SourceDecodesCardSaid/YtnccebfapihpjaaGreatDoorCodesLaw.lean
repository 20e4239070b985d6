/- Exp-Golomb and Rice codes as lists of bools, and what a reader makes of bits: there and back, one code of a number, greater numbers have longer codes. No program in sight. -/
import Derived.Test.YtnccebfapihpjaaGreatDoorBitsLaw
namespace Go.Proofs.YtnccebfapihpjaaGreatDoor
namespace Co
open Bi

/-! ### How many bits a number has -/
/-- of a number that is not below 0. -/
def blen (u : Int) : Nat := if u ≤ 0 then 0 else u.toNat.log2 + 1

theorem blen_bd {u : Int} (h : 1 ≤ u) : 1 ≤ blen u ∧ (2 : Int) ^ (blen u - 1) ≤ u ∧ u < 2 ^ blen u := by
  obtain ⟨n, rfl⟩ := Int.eq_ofNat_of_zero_le (show 0 ≤ u by omega)
  have hn : n ≠ 0 := by omega
  have h1 := Nat.log2_self_le hn
  have h2 := @Nat.lt_log2_self n
  unfold blen
  rw [if_neg (by omega)]
  simp only [Int.toNat_natCast, Nat.add_sub_cancel]
  refine ⟨by omega, ?_, ?_⟩
  · exact_mod_cast h1
  · exact_mod_cast h2

theorem pow_mono {a b : Nat} (h : a ≤ b) : (2 : Int) ^ a ≤ 2 ^ b := by
  exact_mod_cast Nat.pow_le_pow_right (by omega : 0 < 2) h

theorem blen_eq {u : Int} {n : Nat} (h0 : 1 ≤ n) (h1 : (2 : Int) ^ (n - 1) ≤ u) (h2 : u < 2 ^ n) : blen u = n := by
  have hp : (1 : Int) ≤ 2 ^ (n - 1) := pow_mono (a := 0) (by omega)
  obtain ⟨a, b, c⟩ := blen_bd (u := u) (by omega)
  rcases Nat.lt_trichotomy (blen u) n with h | h | h
  · have := pow_mono (a := blen u) (b := n - 1) (by omega); omega
  · exact h
  · have := pow_mono (a := n) (b := blen u - 1) (by omega); omega

theorem blen_mono {u v : Int} (h : u ≤ v) : blen u ≤ blen v := by
  by_cases hu : 1 ≤ u
  · obtain ⟨a, b, c⟩ := blen_bd hu
    obtain ⟨a', b', c'⟩ := blen_bd (u := v) (by omega)
    rcases Nat.lt_or_ge (blen v) (blen u) with h1 | h1
    · have := pow_mono (a := blen v) (b := blen u - 1) (by omega); omega
    · exact h1
  · unfold blen; rw [if_pos (by omega)]; omega

theorem blen_le {u : Int} {n : Nat} (h : u < 2 ^ n) : blen u ≤ n := by
  by_cases hu : 1 ≤ u
  · obtain ⟨a, b, c⟩ := blen_bd hu
    rcases Nat.lt_or_ge n (blen u) with h1 | h1
    · have := pow_mono (a := n) (b := blen u - 1) (by omega); omega
    · exact h1
  · unfold blen; rw [if_pos (by omega)]; omega

/-- One half has one bit less. -/
theorem blen_half {u : Int} (h : 1 ≤ u) : blen u = blen (u / 2) + 1 := by
  by_cases h1 : u = 1
  · subst h1; decide
  · obtain ⟨a, b, c⟩ := blen_bd (u := u / 2) (by omega)
    have e : (2 : Int) ^ (blen (u / 2)) = 2 * 2 ^ (blen (u / 2) - 1) := by
      obtain ⟨k, hk⟩ : ∃ k, blen (u / 2) = k + 1 := ⟨blen (u / 2) - 1, by omega⟩
      rw [hk, Int.pow_succ]; simp; omega
    have e2 : (2 : Int) ^ (blen (u / 2) + 1) = 2 * 2 ^ (blen (u / 2)) := by rw [Int.pow_succ]; omega
    exact blen_eq (by omega) (by simp; omega) (by omega)

/-! ### Folds -/
def fold (v : Int) : Int := if v > 2305843009213693952 ∨ v < -2305843009213693952 then 0 else if v > 0 then 2 * v - 1 else -2 * v
def unfold' (u : Int) : Int := if u < 0 ∨ u > 4611686018427387904 then 0 else if u % 2 = 1 then u / 2 + 1 else -(u / 2)

theorem fold_pos {v : Int} (h1 : v ≤ 2305843009213693952) (h : 0 < v) : fold v = 2 * v - 1 := by
  unfold fold; rw [if_neg (by omega), if_pos (by omega)]
theorem fold_neg {v : Int} (h2 : -2305843009213693952 ≤ v) (h : v ≤ 0) : fold v = -2 * v := by
  unfold fold; rw [if_neg (by omega), if_neg (by omega)]
theorem unfold_odd {u : Int} (h0 : 0 ≤ u) (h1 : u ≤ 4611686018427387904) (h : u % 2 = 1) : unfold' u = u / 2 + 1 := by
  unfold unfold'; rw [if_neg (by omega), if_pos (by omega)]
theorem unfold_even {u : Int} (h0 : 0 ≤ u) (h1 : u ≤ 4611686018427387904) (h : u % 2 = 0) : unfold' u = -(u / 2) := by
  unfold unfold'; rw [if_neg (by omega), if_neg (by omega)]

theorem unfold_fold {v : Int} (h1 : v ≤ 2305843009213693952) (h2 : -2305843009213693952 ≤ v) : unfold' (fold v) = v := by
  by_cases h : 0 < v
  · rw [fold_pos h1 h, unfold_odd (by omega) (by omega) (by omega)]; omega
  · rw [fold_neg h2 (by omega), unfold_even (by omega) (by omega) (by omega)]; omega

theorem fold_inj {v w : Int} (h1 : v ≤ 2305843009213693952) (h2 : -2305843009213693952 ≤ v) (h3 : w ≤ 2305843009213693952) (h4 : -2305843009213693952 ≤ w) : fold v = fold w ↔ v = w := by
  constructor
  · intro h
    rw [← unfold_fold h1 h2, h, unfold_fold h3 h4]
  · rintro rfl; rfl

theorem fold_nonneg (v : Int) : 0 ≤ fold v := by unfold fold; split <;> (try split) <;> omega

theorem fold_rises {v w : Int} (h1 : v ≤ 2305843009213693952) (h2 : -2305843009213693952 ≤ v) (h3 : w ≤ 2305843009213693952) (h4 : -2305843009213693952 ≤ w) (h : max w (-w) < max v (-v)) : fold w < fold v := by
  by_cases hv : 0 < v
  · rw [fold_pos h1 hv]
    by_cases hw : 0 < w
    · rw [fold_pos h3 hw]; omega
    · rw [fold_neg h4 (by omega)]; omega
  · rw [fold_neg h2 (by omega)]
    by_cases hw : 0 < w
    · rw [fold_pos h3 hw]; omega
    · rw [fold_neg h4 (by omega)]; omega

theorem fold_unfold {u : Int} (h0 : 0 ≤ u) (h1 : u ≤ 4611686018427387904) : fold (unfold' u) = u := by
  by_cases h : u % 2 = 1
  · rw [unfold_odd h0 h1 h, fold_pos (by omega) (by omega)]; omega
  · rw [unfold_even h0 h1 (by omega), fold_neg (by omega) (by omega)]; omega

/-! ### The codes -/
def top : Int := 1073741824

def ueMay (v : Int) : Bool := decide (0 ≤ v ∧ v ≤ 1073741824)
def seMay (v : Int) : Bool := decide (-536870912 ≤ v ∧ v ≤ 536870912)
def riceMay (v k : Int) : Bool := decide (0 ≤ v ∧ v ≤ 1073741824 ∧ 0 ≤ k ∧ k ≤ 15)

def ueBits (v : Int) : List Bool := List.replicate (blen (v + 1) - 1) false ++ bitsOf (v + 1) (blen (v + 1))
def riceBits (v : Int) (k : Nat) : List Bool :=
  if v / 2 ^ k < 24 then List.replicate (v / 2 ^ k).toNat true ++ false :: bitsOf (v % 2 ^ k) k
  else List.replicate 24 true ++ bitsOf v 31

def sizeUe (v : Int) : Int := if ueMay v then 2 * blen (v + 1) - 1 else 0
def sizeRice (v k : Int) : Int := if riceMay v k then (if v / 2 ^ k.toNat < 24 then v / 2 ^ k.toNat + 1 + k else 55) else 0

theorem ueBits_length {v : Int} (h : ueMay v = true) : ((ueBits v).length : Int) = sizeUe v := by
  have h' := h
  simp only [ueMay, decide_eq_true_eq] at h
  have := (blen_bd (u := v + 1) (by omega)).1
  simp only [ueBits, sizeUe, h', if_true, List.length_append, List.length_replicate, bitsOf_length]
  omega

theorem div_pow_nonneg {v : Int} (h : 0 ≤ v) (k : Nat) : 0 ≤ v / 2 ^ k := Int.ediv_nonneg h (Int.le_of_lt (Int.pow_pos (by omega)))

theorem riceBits_length {v k : Int} (h : riceMay v k = true) : ((riceBits v k.toNat).length : Int) = sizeRice v k := by
  have h' := h
  simp only [riceMay, decide_eq_true_eq] at h
  have h0 := div_pow_nonneg h.1 k.toNat
  simp only [riceBits, sizeRice, h', if_true]
  split <;> simp [bitsOf_length] <;> omega

theorem blen_top {v : Int} (h0 : 0 ≤ v) (h1 : v ≤ 1073741824) : 1 ≤ blen (v + 1) ∧ blen (v + 1) ≤ 31 :=
  ⟨(blen_bd (u := v + 1) (by omega)).1, blen_le (by simp only [Int.reducePow]; omega)⟩

/-! ### Greater numbers, longer codes -/
theorem sizeUe_mono {a b : Int} (ha : ueMay a = true) (hb : ueMay b = true) (h : a ≤ b) : sizeUe a ≤ sizeUe b := by
  have := blen_mono (u := a + 1) (v := b + 1) (by omega)
  simp only [sizeUe, ha, hb, if_true]; omega
theorem sizeUe_bd (a : Int) : 0 ≤ sizeUe a ∧ sizeUe a ≤ 61 ∧ (0 < sizeUe a ↔ ueMay a = true) := by
  unfold sizeUe
  split
  · next h =>
    have h' := h
    simp only [ueMay, decide_eq_true_eq] at h'
    have := blen_top h'.1 h'.2
    simp only [h, iff_true]; omega
  · next h => simp [h]
theorem sizeRice_mono {a b k : Int} (ha : riceMay a k = true) (hb : riceMay b k = true) (h : a ≤ b) : sizeRice a k ≤ sizeRice b k := by
  have ha' := ha
  have hb' := hb
  simp only [riceMay, decide_eq_true_eq] at ha' hb'
  have h1 : a / 2 ^ k.toNat ≤ b / 2 ^ k.toNat := Int.ediv_le_ediv (Int.pow_pos (by omega)) h
  simp only [sizeRice, ha, hb, if_true]
  split <;> split <;> omega
theorem sizeRice_bd (a k : Int) : 0 ≤ sizeRice a k ∧ sizeRice a k ≤ 55 ∧ (0 < sizeRice a k ↔ riceMay a k = true) := by
  unfold sizeRice
  split
  · next h =>
    have h' := h
    simp only [riceMay, decide_eq_true_eq] at h'
    have := div_pow_nonneg h'.1 k.toNat
    simp only [h, iff_true]
    split <;> omega
  · next h => simp [h]

/-! ### Reading: what comes of bits from a place on -/
/-- How a reading ends: a number; too few bits, and where that was seen; out of its bounds, and where. -/
inductive Got where
  | num (v : Int)
  | short (at_ : Nat)
  | range (at_ : Nat)


/-- How many noughts there are: k more may come, n were met. -/
def zeros (b : List Int) (T p : Nat) : Nat → Nat → Except Got Nat
  | 0, n => .error (.range (p + n))
  | k + 1, n => if T ≤ p + n then .error (.short (p + n)) else if bit b (p + n) = 1 then .ok n else zeros b T p k (n + 1)
/-- Where one stands behind them. -/
def zerosEnd (b : List Int) (T p : Nat) : Nat → Nat → Nat
  | 0, n => p + n
  | k + 1, n => if T ≤ p + n then p + n else if bit b (p + n) = 1 then p + n + 1 else zerosEnd b T p k (n + 1)

/-- A Ue code, with no bound but its noughts: what comes of it, and where one stands. -/
def ue (b : List Int) (T p : Nat) : Got × Nat :=
  match zeros b T p 31 0 with
  | .error e => (e, zerosEnd b T p 31 0)
  | .ok n => if T < p + n + 1 + n then (.short (p + n + 1), p + n + 1) else (.num (2 ^ n + num b (p + n + 1) n - 1), p + n + 1 + n)

def getUe (b : List Int) (T p : Nat) (most : Int) : Got × Nat :=
  match ue b T p with
  | (.num v, q) => if v > most ∨ v > 1073741824 then (.range q, q) else (.num v, q)
  | r => r
def getSe (b : List Int) (T p : Nat) (most : Int) : Got × Nat :=
  match ue b T p with
  | (.num u, q) => let v := unfold' u; if max v (-v) > most ∨ max v (-v) > 536870912 then (.range q, q) else (.num v, q)
  | r => r

/-- How many ones there are, at most k more. -/
def ones (b : List Int) (T p : Nat) : Nat → Nat → Except Got Nat
  | 0, q => .ok q
  | k + 1, q => if T ≤ p + q then .error (.short (p + q)) else if bit b (p + q) = 0 then .ok q else ones b T p k (q + 1)
/-- Where one stands behind q of them, of 24. -/
def onesEnd (p q : Nat) : Nat := if q < 24 then p + q + 1 else p + 24

/-- Behind the ones: the rest, and the bounds. -/
def riceRest (b : List Int) (T : Nat) (k : Nat) (most : Int) (q at_ : Nat) : Got × Nat :=
  let n := if q = 24 then 31 else k
  if T < at_ + n then (.short at_, at_) else
    let v := if q < 24 then num b at_ n + q * 2 ^ k else num b at_ n
    if v > most ∨ v > 1073741824 ∨ ¬ q < 24 ∧ v / 2 ^ k < 24 then (.range (at_ + n), at_ + n) else (.num v, at_ + n)
def getRice (b : List Int) (T p : Nat) (k : Nat) (most : Int) : Got × Nat :=
  match ones b T p 24 0 with
  | .error (.short e) => (.short e, e)
  | .error e => (e, p)
  | .ok q => riceRest b T k most q (onesEnd p q)

/-! ### There and back -/
/-- From p on the bits are l. -/
def At (b : List Int) (p : Nat) (l : List Bool) : Prop := ∀ t, t < l.length → bit b (p + t) = bv l t

theorem at_app {b : List Int} {p : Nat} {l m : List Bool} : At b p (l ++ m) ↔ At b p l ∧ At b (p + l.length) m := by
  constructor
  · intro h
    refine ⟨fun t ht => ?_, fun t ht => ?_⟩
    · rw [h t (by simp; omega), bv_app_left _ _ _ ht]
    · rw [Nat.add_assoc, h (l.length + t) (by simp; omega), bv_app_right]
  · rintro ⟨h1, h2⟩ t ht
    by_cases h : t < l.length
    · rw [h1 t h, bv_app_left _ _ _ h]
    · obtain ⟨j, rfl⟩ : ∃ j, t = l.length + j := ⟨t - l.length, by omega⟩
      rw [← Nat.add_assoc, h2 j (by simp at ht; omega), bv_app_right]

theorem at_pack {l : List Bool} {x m r : List Bool} (h : l = x ++ m ++ r) : At (pack l) x.length m := by
  intro t ht
  have hl : l.length = x.length + m.length + r.length := by rw [h]; simp; omega
  rw [bit_pack l _ (by omega), h, List.append_assoc, bv_app_right, bv_app_left _ _ _ ht]

theorem bv_replicate (x : Bool) (n t : Nat) (h : t < n) : bv (List.replicate n x) t = if x then 1 else 0 := by
  simp [bv, List.getD_eq_getElem?_getD, h]
theorem bv_cons_zero (x : Bool) (l : List Bool) : bv (x :: l) 0 = if x then 1 else 0 := by simp [bv]
theorem bv_cons_succ (x : Bool) (l : List Bool) (t : Nat) : bv (x :: l) (t + 1) = bv l t := by simp [bv]

theorem bv_bitsOf (v : Int) : ∀ n t, t < n → bv (bitsOf v n) t = v / 2 ^ (n - 1 - t) % 2 := by
  intro n
  induction n with
  | zero => intro t h; omega
  | succ n ih =>
    intro t h
    cases t with
    | zero =>
      rw [bitsOf, bv_cons_zero]
      simp only [Nat.add_sub_cancel, Nat.sub_zero, decide_eq_true_eq]
      split <;> omega
    | succ t =>
      rw [bitsOf, bv_cons_succ, ih t (by omega)]
      congr 3
      omega

theorem num_at (b : List Int) (p : Nat) {v : Int} {n : Nat} (h : At b p (bitsOf v n)) : num b p n = v % 2 ^ n := by
  rw [← numB_bitsOf, num_congr (m := bitsOf v n) (q := 0)]
  intro t ht
  rw [Nat.zero_add]
  exact h t (by rw [bitsOf_length]; exact ht)

theorem at_num (b : List Int) (p n : Nat) : At b p (bitsOf (num b p n) n) := by
  intro t ht
  rw [bitsOf_length] at ht
  rw [bv_bitsOf _ _ _ ht]
  obtain ⟨m, rfl⟩ : ∃ m, n = (t + 1) + m := ⟨n - (t + 1), by omega⟩
  have e : t + 1 + m - 1 - t = m := by omega
  have h1 := num_bd b (p + (t + 1)) m
  have hp : (0 : Int) < 2 ^ m := Int.pow_pos (by omega)
  rw [e, num_add, Int.add_comm, Int.add_mul_ediv_right _ _ (Int.ne_of_gt hp), Int.ediv_eq_zero_of_lt h1.1 h1.2]
  have h2 := bit_bd b (p + t)
  simp only [num]
  omega

theorem bitsOf_mod (v : Int) : ∀ n m, n ≤ m → bitsOf (v % 2 ^ m) n = bitsOf v n := by
  intro n
  induction n with
  | zero => intro m _; rfl
  | succ n ih =>
    intro m h
    rw [bitsOf, bitsOf, ih m (by omega)]
    congr 2
    have e : (2 : Int) ^ m = 2 ^ n * 2 ^ (m - n) := by rw [← Int.pow_add]; congr 1; omega
    obtain ⟨k, hk⟩ : ∃ k, m - n = k + 1 := ⟨m - n - 1, by omega⟩
    have e2 : (2 : Int) ^ (m - n) = 2 * 2 ^ k := by rw [hk, Int.pow_succ]; omega
    have h0 := Int.mul_ediv_add_emod v (2 ^ m)
    have hp : (0 : Int) < 2 ^ n := Int.pow_pos (by omega)
    have h1 : v / 2 ^ n = v % 2 ^ m / 2 ^ n + 2 * (2 ^ k * (v / 2 ^ m)) := by
      generalize v % 2 ^ m = M at *
      generalize v / 2 ^ m = Q at *
      have h2 : v = M + (2 * (2 ^ k * Q)) * 2 ^ n := by
        rw [← h0, e, e2]
        rw [show (2 : Int) ^ n * (2 * 2 ^ k) * Q = (2 * (2 ^ k * Q)) * 2 ^ n from by simp only [Int.mul_comm, Int.mul_left_comm]]
        omega
      rw [h2, Int.add_mul_ediv_right _ _ (Int.ne_of_gt hp)]
    rw [h1, Int.add_mul_emod_self_left]

theorem zeros_ok {b : List Int} {T p m : Nat} : ∀ {k n}, zeros b T p k n = .ok m ↔ n ≤ m ∧ m < n + k ∧ p + m < T ∧ (∀ t, n ≤ t → t < m → bit b (p + t) = 0) ∧ bit b (p + m) = 1 := by
  intro k
  induction k with
  | zero => intro n; simp [zeros]; omega
  | succ k ih =>
    intro n
    have hb := bit_bd b (p + n)
    simp only [zeros]
    split
    · next h => simp only [reduceCtorEq, false_iff]; rintro ⟨h1, _, h2, _⟩; omega
    · next h =>
      split
      · next h1 =>
        simp only [Except.ok.injEq]
        constructor
        · rintro rfl; exact ⟨Nat.le_refl _, by omega, by omega, fun t h2 h3 => by omega, h1⟩
        · rintro ⟨h2, _, _, h3, _⟩
          rcases Nat.lt_or_ge n m with h4 | h4
          · have := h3 n (Nat.le_refl _) h4; omega
          · omega
      · next h1 =>
        rw [ih]
        constructor
        · rintro ⟨h2, h3, h4, h5, h6⟩
          refine ⟨by omega, by omega, h4, fun t h7 h8 => ?_, h6⟩
          by_cases h9 : t = n
          · subst h9; omega
          · exact h5 t (by omega) h8
        · rintro ⟨h2, h3, h4, h5, h6⟩
          have : n ≠ m := by rintro rfl; omega
          exact ⟨by omega, by omega, h4, fun t h7 h8 => h5 t (by omega) h8, h6⟩

theorem ue_ok {b : List Int} {T p q : Nat} {v : Int} (h : ue b T p = (.num v, q)) :
    0 ≤ v ∧ v < 2 ^ 31 ∧ q = p + (ueBits v).length ∧ q ≤ T ∧ At b p (ueBits v) := by
  unfold ue at h
  split at h
  · next e he =>
    obtain ⟨h1, h2⟩ := Prod.mk.inj h
    subst h1
    exfalso
    have : ∀ k n, zeros b T p k n ≠ .error (.num v) := by
      intro k
      induction k with
      | zero => intro n; simp [zeros]
      | succ k ih => intro n; simp only [zeros]; split <;> (try split) <;> simp_all
    exact this _ _ he
  · next n hn =>
    split at h
    · cases h
    · next hT =>
      obtain ⟨h1, h2⟩ := Prod.mk.inj h
      injection h1 with h1
      obtain ⟨_, hm, hpT, hz, hone⟩ := zeros_ok.1 hn
      have hx := num_bd b (p + n + 1) n
      have hpw := pow_mono (a := n) (b := 30) (by omega)
      have hp0 : (0 : Int) < 2 ^ n := Int.pow_pos (by omega)
      have hv : v + 1 = 2 ^ n + num b (p + n + 1) n := by omega
      have e2 : (2 : Int) ^ (n + 1) = 2 * 2 ^ n := by rw [Int.pow_succ]; omega
      have hbl : blen (v + 1) = n + 1 := blen_eq (by omega) (by simp only [Nat.add_sub_cancel]; omega) (by omega)
      have hlen : (ueBits v).length = n + (n + 1) := by simp [ueBits, hbl, bitsOf_length]
      simp only [Int.reducePow] at hpw
      refine ⟨by omega, by simp only [Int.reducePow]; omega, by omega, by omega, ?_⟩
      unfold ueBits
      rw [hbl, Nat.add_sub_cancel, at_app, List.length_replicate]
      constructor
      · intro t ht
        rw [List.length_replicate] at ht
        rw [hz t (by omega) ht, bv_replicate _ _ _ ht]; rfl
      · rw [bitsOf]
        have hd : (v + 1) / 2 ^ n % 2 = 1 := by
          rw [hv, show (2 : Int) ^ n + num b (p + n + 1) n = num b (p + n + 1) n + 1 * 2 ^ n by omega, Int.add_mul_ediv_right _ _ (Int.ne_of_gt hp0), Int.ediv_eq_zero_of_lt hx.1 hx.2]; rfl
        have hm2 : bitsOf (v + 1) n = bitsOf (num b (p + n + 1) n) n := by
          rw [← bitsOf_mod (v + 1) n n (Nat.le_refl _), hv, show (2 : Int) ^ n + num b (p + n + 1) n = num b (p + n + 1) n + 2 ^ n by omega, Int.add_emod_right, Int.emod_eq_of_lt hx.1 hx.2]
        rw [hm2]
        intro t ht
        cases t with
        | zero => rw [bv_cons_zero, Nat.add_zero, hone]; simp [hd]
        | succ t =>
          rw [bv_cons_succ, show p + n + (t + 1) = p + n + 1 + t by omega]
          exact at_num b (p + n + 1) n t (by simpa using ht)

/-- A Ue code is read back. -/
theorem ue_back {b : List Int} {T p : Nat} {v : Int} (h0 : 0 ≤ v) (h1 : v ≤ 1073741824) (hT : p + (ueBits v).length ≤ T) (h : At b p (ueBits v)) : ue b T p = (.num v, p + (ueBits v).length) := by
  obtain ⟨hb1, hb2⟩ := blen_top h0 h1
  obtain ⟨n, hn⟩ : ∃ n, blen (v + 1) = n + 1 := ⟨blen (v + 1) - 1, by omega⟩
  obtain ⟨_, hlo, hhi⟩ := blen_bd (u := v + 1) (by omega)
  rw [hn, Nat.add_sub_cancel] at hlo
  rw [hn] at hhi
  have e2 : (2 : Int) ^ (n + 1) = 2 * 2 ^ n := by rw [Int.pow_succ]; omega
  have hlen : (ueBits v).length = n + (n + 1) := by simp [ueBits, hn, bitsOf_length]
  rw [hlen] at hT ⊢
  unfold ueBits at h
  rw [hn, Nat.add_sub_cancel, at_app, List.length_replicate, bitsOf] at h
  obtain ⟨ha, hb⟩ := h
  have hp0 : (0 : Int) < 2 ^ n := Int.pow_pos (by omega)
  have hd : (v + 1) / 2 ^ n = 1 := ((Int.ediv_emod_unique (a := v + 1) (b := 2 ^ n) (q := 1) (r := v + 1 - 2 ^ n) hp0).2 ⟨by omega, by omega, by omega⟩).1
  have hone : bit b (p + n) = 1 := by
    have := hb 0 (by simp)
    rw [Nat.add_zero, bv_cons_zero] at this
    rw [this]; simp [hd]
  have hz : zeros b T p 31 0 = .ok n := zeros_ok.2 ⟨by omega, by omega, by omega, fun t _ ht => by
    rw [ha t (by simpa using ht), bv_replicate _ _ _ ht]; rfl, hone⟩
  have hr : At b (p + n + 1) (bitsOf (v + 1) n) := fun t ht => by
    have := hb (t + 1) (by simpa using ht)
    rw [bv_cons_succ] at this
    rw [← this, show p + n + 1 + t = p + n + (t + 1) by omega]
  have hnum := num_at b (p + n + 1) hr
  have hmod : (v + 1) % 2 ^ n = v + 1 - 2 ^ n := by
    have := Int.mul_ediv_add_emod (v + 1) (2 ^ n)
    rw [hd, Int.mul_one] at this
    omega
  unfold ue
  rw [hz]
  simp only []
  rw [if_neg (by omega), hnum, hmod]
  refine Prod.ext ?_ ?_
  · simp only [Got.num.injEq]; omega
  · simp only []; omega

theorem ones_ok {b : List Int} {T p m : Nat} : ∀ {k q}, ones b T p k q = .ok m ↔ q ≤ m ∧ m ≤ q + k ∧ (∀ t, q ≤ t → t < m → p + t < T ∧ bit b (p + t) = 1) ∧ (m < q + k → p + m < T ∧ bit b (p + m) = 0) := by
  intro k
  induction k with
  | zero =>
    intro q
    simp only [ones, Except.ok.injEq]
    constructor
    · rintro rfl; exact ⟨Nat.le_refl _, by omega, fun t h1 h2 => by omega, fun h => by omega⟩
    · rintro ⟨h1, h2, _⟩; omega
  | succ k ih =>
    intro q
    have hb := bit_bd b (p + q)
    simp only [ones]
    split
    · next h =>
      simp only [reduceCtorEq, false_iff]
      rintro ⟨h1, h2, h3, h4⟩
      rcases Nat.lt_or_ge q m with h5 | h5
      · have := h3 q (Nat.le_refl _) h5; omega
      · have := h4 (by omega); omega
    · next h =>
      split
      · next h1 =>
        simp only [Except.ok.injEq]
        constructor
        · rintro rfl; exact ⟨Nat.le_refl _, by omega, fun t h2 h3 => by omega, fun _ => ⟨by omega, h1⟩⟩
        · rintro ⟨h2, _, h3, _⟩
          rcases Nat.lt_or_ge q m with h4 | h4
          · have := h3 q (Nat.le_refl _) h4; omega
          · omega
      · next h1 =>
        rw [ih]
        constructor
        · rintro ⟨h2, h3, h4, h5⟩
          refine ⟨by omega, by omega, fun t h7 h8 => ?_, fun h9 => h5 (by omega)⟩
          by_cases h9 : t = q
          · subst h9; exact ⟨by omega, by omega⟩
          · exact h4 t (by omega) h8
        · rintro ⟨h2, h3, h4, h5⟩
          have : q ≠ m := by rintro rfl; have := h5 (by omega); omega
          exact ⟨by omega, by omega, fun t h7 h8 => h4 t (by omega) h8, fun h9 => h5 (by omega)⟩

theorem ones_err {b : List Int} {T p : Nat} {e : Got} : ∀ {k q}, ones b T p k q = .error e → ∃ x, e = .short x := by
  intro k
  induction k with
  | zero => intro q h; simp [ones] at h
  | succ k ih =>
    intro q h
    simp only [ones] at h
    split at h
    · cases h; exact ⟨_, rfl⟩
    · split at h
      · cases h
      · exact ih h

theorem rice_ok {b : List Int} {T p k e : Nat} {v most : Int} (h : getRice b T p k most = (.num v, e)) :
    0 ≤ v ∧ v ≤ 1073741824 ∧ v ≤ most ∧ e = p + (riceBits v k).length ∧ e ≤ T ∧ At b p (riceBits v k) := by
  unfold getRice at h
  split at h
  · cases h
  · next e' _ he =>
    obtain ⟨x, hx⟩ := ones_err he
    subst hx
    cases h
  · next q hq =>
    obtain ⟨_, hm, h1, h2⟩ := ones_ok.1 hq
    unfold riceRest at h
    simp only [] at h
    obtain ⟨n, hn⟩ : ∃ n, n = if q = 24 then 31 else k := ⟨_, rfl⟩
    rw [← hn] at h
    obtain ⟨u, hu⟩ : ∃ u, u = if q < 24 then num b (onesEnd p q) n + q * 2 ^ k else num b (onesEnd p q) n := ⟨_, rfl⟩
    rw [← hu] at h
    split at h
    · cases h
    · next hT =>
      split at h
      · cases h
      · next hlim =>
        obtain ⟨hv, he⟩ := Prod.mk.inj h
        injection hv with hv
        subst hn
        rw [hv] at hu hlim
        clear hv h
        have hv := hu.symm
        have hones : At b p (List.replicate q true) := fun t ht => by
          rw [List.length_replicate] at ht
          rw [(h1 t (by omega) ht).2, bv_replicate _ _ _ ht]; rfl
        by_cases hq24 : q < 24
        · have hq' : ¬ q = 24 := by omega
          have hq25 : q + 1 ≤ 24 := hq24
          simp only [hq24, if_true, hq', if_false, onesEnd] at *
          have hx := num_bd b (p + q + 1) k
          have hp0 : (0 : Int) < 2 ^ k := Int.pow_pos (by omega)
          have hqp : (0 : Int) ≤ (q : Int) * 2 ^ k := Int.mul_nonneg (by omega) (by omega)
          have hz := h2 (by omega)
          have hd : v / 2 ^ k = q := by
            rw [← hv, Int.add_mul_ediv_right _ _ (Int.ne_of_gt hp0), Int.ediv_eq_zero_of_lt hx.1 hx.2]; omega
          have hmod : v % 2 ^ k = num b (p + q + 1) k := by
            rw [← hv, Int.add_mul_emod_self_right, Int.emod_eq_of_lt hx.1 hx.2]
          have hr : riceBits v k = List.replicate q true ++ false :: bitsOf (num b (p + q + 1) k) k := by
            unfold riceBits; rw [hd, if_pos (by omega), hmod]; simp
          have hlen : (riceBits v k).length = q + (k + 1) := by rw [hr]; simp [bitsOf_length]
          rw [hlen]
          refine ⟨by omega, by omega, by omega, by omega, by omega, ?_⟩
          rw [hr, at_app, List.length_replicate]
          refine ⟨hones, fun t ht => ?_⟩
          cases t with
          | zero => rw [bv_cons_zero, Nat.add_zero, hz.2]; rfl
          | succ t =>
            rw [bv_cons_succ, show p + q + (t + 1) = p + q + 1 + t by omega]
            exact at_num b (p + q + 1) k t (by simpa using ht)
        · have hq' : q = 24 := by omega
          subst hq'
          simp only [Nat.lt_irrefl, if_true, if_false, onesEnd, not_false_eq_true, true_and] at *
          have hx := num_bd b (p + 24) 31
          have hr : riceBits v k = List.replicate 24 true ++ bitsOf (num b (p + 24) 31) 31 := by
            unfold riceBits; rw [if_neg (by omega), hv]
          have hlen : (riceBits v k).length = 24 + 31 := by rw [hr]; simp [bitsOf_length]
          rw [hlen]
          refine ⟨by omega, by omega, by omega, by omega, by omega, ?_⟩
          rw [hr, at_app, List.length_replicate]
          exact ⟨hones, at_num b (p + 24) 31⟩

theorem rice_back {b : List Int} {T p k : Nat} {v most : Int} (h0 : 0 ≤ v) (h1 : v ≤ 1073741824) (h2 : v ≤ most) (hT : p + (riceBits v k).length ≤ T) (h : At b p (riceBits v k)) :
    getRice b T p k most = (.num v, p + (riceBits v k).length) := by
  have hp0 : (0 : Int) < 2 ^ k := Int.pow_pos (by omega)
  have hd0 := div_pow_nonneg h0 k
  have hdm := Int.mul_ediv_add_emod v (2 ^ k)
  have hm0 := Int.emod_nonneg v (Int.ne_of_gt hp0)
  have hm1 := Int.emod_lt_of_pos v hp0
  by_cases hq : v / 2 ^ k < 24
  · obtain ⟨q, hqe⟩ := Int.eq_ofNat_of_zero_le hd0
    have hr : riceBits v k = List.replicate q true ++ false :: bitsOf (v % 2 ^ k) k := by
      unfold riceBits; rw [if_pos hq, hqe]; simp
    rw [hr] at hT h ⊢
    rw [at_app, List.length_replicate] at h
    obtain ⟨ha, hb⟩ := h
    have hlen : (List.replicate q true ++ false :: bitsOf (v % 2 ^ k) k).length = q + (k + 1) := by simp [bitsOf_length]
    rw [hlen] at hT ⊢
    have hz : bit b (p + q) = 0 := by have := hb 0 (by simp); rw [Nat.add_zero, bv_cons_zero] at this; simpa using this
    have hr2 : At b (p + q + 1) (bitsOf (v % 2 ^ k) k) := fun t ht => by
      have := hb (t + 1) (by simpa using ht)
      rw [bv_cons_succ] at this
      rw [← this, show p + q + 1 + t = p + q + (t + 1) by omega]
    have hnum := num_at b (p + q + 1) hr2
    rw [Int.emod_emod_of_dvd _ (Int.dvd_refl _)] at hnum
    have ho : ones b T p 24 0 = .ok q := ones_ok.2 ⟨by omega, by omega, fun t _ ht => ⟨by omega, by rw [ha t (by simpa using ht), bv_replicate _ _ _ ht]; rfl⟩, fun _ => ⟨by omega, hz⟩⟩
    unfold getRice
    rw [ho]
    have h24 : ¬ q = 24 := by omega
    have hlt : q < 24 := by omega
    simp only [riceRest, onesEnd, h24, hlt, if_true, if_false, hnum, not_true_eq_false, false_and, or_false]
    have hval : v % 2 ^ k + q * 2 ^ k = v := by rw [hqe, Int.mul_comm] at hdm; omega
    rw [hval, if_neg (by omega), if_neg (by omega)]
    refine Prod.ext rfl ?_
    simp only []; omega
  · have hr : riceBits v k = List.replicate 24 true ++ bitsOf v 31 := by unfold riceBits; rw [if_neg hq]
    rw [hr] at hT h ⊢
    rw [at_app, List.length_replicate] at h
    obtain ⟨ha, hb⟩ := h
    have hlen : (List.replicate 24 true ++ bitsOf v 31).length = 24 + 31 := by simp [bitsOf_length]
    rw [hlen] at hT ⊢
    have hnum := num_at b (p + 24) hb
    rw [Int.emod_eq_of_lt h0 (by simp only [Int.reducePow]; omega)] at hnum
    have ho : ones b T p 24 0 = .ok 24 := ones_ok.2 ⟨by omega, by omega, fun t _ ht => ⟨by omega, by rw [ha t (by simpa using ht), bv_replicate _ _ _ ht]; rfl⟩, fun h => by omega⟩
    unfold getRice
    rw [ho]
    simp only [riceRest, onesEnd, Nat.lt_irrefl, if_true, if_false, hnum, not_false_eq_true, true_and]
    rw [if_neg (by omega), if_neg (by omega)]

theorem getUe_ok {b : List Int} {T p q : Nat} {v most : Int} (h : getUe b T p most = (.num v, q)) :
    0 ≤ v ∧ v ≤ 1073741824 ∧ v ≤ most ∧ ue b T p = (.num v, q) ∧ q = p + (ueBits v).length ∧ q ≤ T ∧ At b p (ueBits v) := by
  unfold getUe at h
  split at h
  · next u r hu =>
    split at h
    · cases h
    · cases h
      obtain ⟨h1, _, h3, h4, h5⟩ := ue_ok hu
      exact ⟨h1, by omega, by omega, hu, h3, h4, h5⟩
  · next x hx => exact absurd h (hx _ _)

theorem getSe_ok {b : List Int} {T p q : Nat} {v most : Int} (h : getSe b T p most = (.num v, q)) :
    max v (-v) ≤ 536870912 ∧ max v (-v) ≤ most ∧ ue b T p = (.num (fold v), q) ∧ unfold' (fold v) = v ∧ q = p + (ueBits (fold v)).length ∧ q ≤ T ∧ At b p (ueBits (fold v)) := by
  unfold getSe at h
  split at h
  · next u r hu =>
    simp only [] at h
    split at h
    · cases h
    · cases h
      obtain ⟨h1, h2, h3, h4, h5⟩ := ue_ok hu
      simp only [Int.reducePow] at h2
      have hf := fold_unfold (u := u) h1 (by omega)
      rw [hf]
      exact ⟨by omega, by omega, hu, rfl, h3, h4, h5⟩
  · next x hx => exact absurd h (hx _ _)

theorem getUe_back {b : List Int} {T p : Nat} {v most : Int} (h0 : 0 ≤ v) (h1 : v ≤ 1073741824) (h2 : v ≤ most) (hT : p + (ueBits v).length ≤ T) (h : At b p (ueBits v)) : getUe b T p most = (.num v, p + (ueBits v).length) := by
  unfold getUe
  rw [ue_back h0 h1 hT h]
  simp only []
  rw [if_neg (by omega)]

theorem getSe_back {b : List Int} {T p : Nat} {v most : Int} (h1 : max v (-v) ≤ 536870912) (h2 : max v (-v) ≤ most) (hT : p + (ueBits (fold v)).length ≤ T) (h : At b p (ueBits (fold v))) : getSe b T p most = (.num v, p + (ueBits (fold v)).length) := by
  have hf : fold v ≤ 1073741824 := by
    by_cases hv : 0 < v
    · rw [fold_pos (by omega) hv]; omega
    · rw [fold_neg (by omega) (by omega)]; omega
  unfold getSe
  rw [ue_back (fold_nonneg v) hf hT h]
  simp only []
  rw [unfold_fold (by omega) (by omega), if_neg (by omega)]

/-! ### With a bound one less -/
theorem getUe_less {b : List Int} {T p q : Nat} {v most : Int} (h : getUe b T p most = (.num v, q)) : getUe b T p (v - 1) = (.range q, q) := by
  obtain ⟨_, _, _, h1, _⟩ := getUe_ok h
  unfold getUe
  rw [h1]
  simp only []
  rw [if_pos (by omega)]
theorem getSe_less {b : List Int} {T p q : Nat} {v most : Int} (h : getSe b T p most = (.num v, q)) : getSe b T p (max v (-v) - 1) = (.range q, q) := by
  obtain ⟨_, _, h1, h2, _⟩ := getSe_ok h
  unfold getSe
  rw [h1]
  simp only [h2]
  rw [if_pos (by omega)]
theorem getRice_less {b : List Int} {T p k q : Nat} {v most : Int} (h : getRice b T p k most = (.num v, q)) : getRice b T p k (v - 1) = (.range q, q) := by
  unfold getRice at h ⊢
  split at h
  · cases h
  · next e' _ he => obtain ⟨x, hx⟩ := ones_err he; subst hx; cases h
  · next m hm =>
    unfold riceRest at h ⊢
    simp only [] at h ⊢
    obtain ⟨n, hn⟩ : ∃ n, n = if m = 24 then 31 else k := ⟨_, rfl⟩
    rw [← hn] at h ⊢
    obtain ⟨u, hu⟩ : ∃ u, u = if m < 24 then num b (onesEnd p m) n + m * 2 ^ k else num b (onesEnd p m) n := ⟨_, rfl⟩
    rw [← hu] at h ⊢
    split at h
    · cases h
    · next hT =>
      rw [if_neg hT]
      split at h
      · cases h
      · next hl =>
        obtain ⟨h1, h2⟩ := Prod.mk.inj h
        injection h1 with h1
        rw [h1, if_pos (by omega), h2]

end Co
end Go.Proofs.YtnccebfapihpjaaGreatDoor
