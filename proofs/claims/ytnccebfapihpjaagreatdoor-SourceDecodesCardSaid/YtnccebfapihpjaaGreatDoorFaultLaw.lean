/- What chapter 1 says as plain functions: the text of a path and of a code, how many and how long steps are. No program in sight. -/
import Derived.Lib.ItoaLen
import Derived.Lib.ItoaNum
import Derived.Laws.Concat
namespace Go.Proofs.YtnccebfapihpjaaGreatDoor.Fa
open Go

abbrev Steps := List (ByteArray × Int)

/-- A list of bytes as a string. -/
def S (l : List UInt8) : ByteArray := ⟨l.toArray⟩
theorem S_app (a b : List UInt8) : S a ++ S b = S (a ++ b) := by unfold S; rw [ByteArray.mk_append_mk]
theorem S_data (s : ByteArray) : S s.data.toList = s := by unfold S; simp
theorem S_size (l : List UInt8) : (S l).size = l.length := by unfold S; show l.toArray.size = _; simp
theorem size_list (s : ByteArray) : s.data.toList.length = s.size := by show s.data.toList.length = s.data.size; simp
theorem S_inj {a b : List UInt8} (h : S a = S b) : a = b := by
  have := congrArg (fun s : ByteArray => s.data.toList) h
  simpa [S] using this

/-- What api.Code.Error says. -/
def codeL (c : Int) : List UInt8 := if c < 0 then [99, 111, 100, 101, 32, 98, 101, 108, 111, 119, 32, 48] else [99, 111, 100, 101, 32] ++ Lib.decDigits c.toNat
/-- What a step says. -/
def stepL (x : ByteArray × Int) : List UInt8 := x.1.data.toList ++ ([32] ++ Lib.itoa x.2 ++ [58, 32])
def pathL (p : Steps) : List UInt8 := p.flatMap stepL
def saidL (p : Steps) (c : Int) : List UInt8 := pathL p ++ codeL c

theorem pathL_nil : pathL [] = [] := rfl
theorem pathL_app (p q : Steps) : pathL (p ++ q) = pathL p ++ pathL q := by simp [pathL]
theorem pathL_one (x : ByteArray × Int) : pathL [x] = stepL x := by simp [pathL]

def InI (n : Int) : Prop := -9223372036854775808 ≤ n ∧ n ≤ 9223372036854775807

theorem decDigits_length_le (u : Nat) (h : u < 18446744073709551616) : (Lib.decDigits u).length ≤ 20 := by
  rw [Lib.decDigits_length]; exact Lib.nDigits_le20 u h
theorem codeL_length {c : Int} (h : InI c) : (codeL c).length ≤ 25 := by
  unfold codeL InI at *
  split
  · simp
  · have := decDigits_length_le c.toNat (by omega)
    simp; omega
theorem stepL_length {x : ByteArray × Int} (h : InI x.2) : (stepL x).length ≤ x.1.size + 24 := by
  unfold stepL
  have := Lib.itoa_length_le x.2 h.1 h.2
  simp only [List.length_append, List.length_cons, List.length_nil, size_list]
  omega

/-- The bytes of all places' names. -/
def names (p : Steps) : Nat := (p.map fun x => x.1.size).sum
theorem names_app (p q : Steps) : names (p ++ q) = names p + names q := by simp [names]
theorem pathL_length {p : Steps} (h : ∀ x ∈ p, InI x.2) : (pathL p).length ≤ names p + 24 * p.length := by
  induction p with
  | nil => simp [pathL]
  | cons x r ih =>
    have h1 := stepL_length (h x (by simp))
    have h2 := ih (fun y hy => h y (by simp [hy]))
    have e : pathL (x :: r) = stepL x ++ pathL r := by simp [pathL]
    rw [e, List.length_append]
    simp only [names, List.map_cons, List.sum_cons, List.length_cons] at *
    omega

/-- What the law's 'few' counts. -/
def cut (p : Steps) : Nat := (p.map fun x => min x.1.size 20001).sum
theorem cut_app (p q : Steps) : cut (p ++ q) = cut p + cut q := by simp [cut]
theorem cut_one (x : ByteArray × Int) : cut [x] = min x.1.size 20001 := by simp [cut]
theorem cut_le (p : Steps) : cut p ≤ 20001 * p.length := by
  induction p with
  | nil => simp [cut]
  | cons x r ih => simp only [cut, List.map_cons, List.sum_cons, List.length_cons] at *; omega
def few (p : Steps) : Bool := decide (p.length ≤ 400) && decide (cut (p.take 400) ≤ 20000)
theorem few_len {p : Steps} (h : few p = true) : p.length ≤ 400 := by unfold few at h; simp at h; exact h.1
theorem names_cut (p : Steps) (h : cut p ≤ 20000) : names p = cut p := by
  induction p with
  | nil => rfl
  | cons x r ih =>
    simp only [cut, names, List.map_cons, List.sum_cons] at *
    have := ih (by omega)
    omega
theorem few_names {p : Steps} (h : few p = true) : names p ≤ 20000 := by
  have hl := few_len h
  unfold few at h
  simp at h
  have h2 := h.2
  rw [List.take_of_length_le hl] at h2
  rw [names_cut p h2]; exact h2

/-- The digits of a number below nought, as the law's 'digits' finds them. -/
theorem itoa_neg {n : Int} (h : n < 0) : Lib.itoa n = 45 :: Lib.decDigits n.natAbs := by unfold Lib.itoa; rw [if_pos h]
theorem itoa_pos {n : Int} (h : ¬ n < 0) : Lib.itoa n = Lib.decDigits n.toNat := by unfold Lib.itoa; rw [if_neg h]
theorem dec_small {u : Nat} (h : u < 10) : Lib.decDigits u = [UInt8.ofNat (48 + u)] := Lib.decDigits_one h
theorem dec_big {u : Nat} (h : ¬ u < 10) : Lib.decDigits u = Lib.decDigits (u / 10) ++ [UInt8.ofNat (48 + u % 10)] := by rw [Lib.decDigits, dif_neg h]

/-- Two paths as lists of pairs: alike or not. -/
theorem steps_eq_iff (p q : Steps) : p = q ↔ p.length = q.length ∧ ∀ i (h : i < p.length) (k : i < q.length), p[i] = q[i] := by
  constructor
  · rintro rfl; exact ⟨rfl, fun _ _ _ => rfl⟩
  · rintro ⟨h, k⟩; exact List.ext_getElem h (fun i h1 h2 => k i h1 h2)

end Go.Proofs.YtnccebfapihpjaaGreatDoor.Fa
