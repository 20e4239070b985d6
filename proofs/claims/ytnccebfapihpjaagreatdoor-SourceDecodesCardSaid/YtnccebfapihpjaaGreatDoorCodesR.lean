/- Contracts of package codes: the codes read. -/
import Derived.Test.YtnccebfapihpjaaGreatDoorCodesRW
namespace Go.Proofs.YtnccebfapihpjaaGreatDoor
open Go Go.RowKit Go.Extern.Stop Go.Stop Go.Extern

def sCodes : ByteArray := ⟨#[99, 111, 100, 101, 115]⟩
/-- What a reading answers: its number, its path, its code. -/
def gotV : Co.Got → Int
  | .num v => v
  | _ => 0
def gotP : Co.Got → List (ByteArray × Int)
  | .num _ => []
  | .short a => [(sBits, (a : Int))]
  | .range a => [(sCodes, (a : Int))]
def gotC : Co.Got → Int
  | .num _ => 0
  | .short _ => 1
  | .range _ => 3
theorem gotP_le (r : Co.Got) : (gotP r).length ≤ 1000000000000 := by cases r <;> simp [gotP]

/-- A code that is read: what is answered, and where one stands. -/
def GOut (lo hi : Nat) (w : World) (g : Nat) (b : List Int) (r : Co.Got × Nat) (e : Ending) (w' : World) : Prop :=
  ∃ v, e = .returned (.tuple #[.int .i64 (gotV r.1), v]) ∧ ErrR w' (gotP r.1) (gotC r.1) v ∧ ROut 110 lo hi w g b r.2 w'

theorem refuse_any {lo hi g : Nat} {b : List Int} {p : Nat} (w : World) (h : RdrT 110 lo hi w g b p) :
    Calls Tryz.prog 80 #[.pointer (some ⟨g, 0, none⟩)] w
      fun e w' => ∃ v, e = .returned v ∧ ErrAt w' [(sCodes, (p : Int))] (.iface 31 (.int .i64 3)) v ∧ Below w.heap.size w w' := by
  have H := Lib.hid h
  clear h
  go_enter Tryz.func80, Tryz.ntmps80
  go_wp2_with fail
  refine (Place_any _ H.out).mono ?_
  rintro e w1 ⟨rfl, rfl⟩
  go_wp2_with fail
  refine (In_some _ _ _ _ _).mono ?_
  rintro e w2 ⟨rfl, hB, hb2⟩
  go_wp2_with fail
  go_ret
  exact ⟨_, rfl, ⟨_, _, rfl, hB, rfl⟩, hb2⟩

/-- Bounds of a code's number, whatever the bits are. -/
theorem pow_bd {n : Nat} (h : n ≤ 31) : (0 : Int) < 2 ^ n ∧ (2 : Int) ^ n ≤ 2147483648 := by
  refine ⟨Int.pow_pos (by omega), ?_⟩
  have : (2 : Int) ^ n ≤ 2 ^ 31 := Co.pow_mono h
  have e : (2 : Int) ^ 31 = 2147483648 := by decide
  omega
theorem zeros_le {b : List Int} {T p m : Nat} {k n : Nat} (h : Co.zeros b T p k n = .ok m) : m < n + k := (Co.zeros_ok.1 h).2.1
theorem unfold_bd {u : Int} (h0 : 0 ≤ u) (h1 : u ≤ 4294967296) : -4294967296 ≤ Co.unfold' u ∧ Co.unfold' u ≤ 4294967296 := by
  unfold Co.unfold'
  split
  · omega
  · split <;> omega
theorem ue_bd {b : List Int} {T p q : Nat} {v : Int} (h : Co.ue b T p = (.num v, q)) : 0 ≤ v ∧ v ≤ 4294967296 := by
  unfold Co.ue at h
  split at h
  · next e he =>
    have h1 := congrArg Prod.fst h
    simp only at h1
    subst h1
    exfalso
    revert he
    generalize 31 = k
    generalize 0 = n
    induction k generalizing n with
    | zero => intro he; simp [Co.zeros] at he
    | succ k ih =>
      intro he
      simp only [Co.zeros] at he
      split at he
      · simp at he
      · split at he
        · simp at he
        · exact ih _ he
  · next n hn =>
    have h1 := zeros_le hn
    split at h
    · simp at h
    · have h2 := Bi.num_bd b (p + n + 1) n
      have h3 := pow_bd (n := n) (by omega)
      have h4 := congrArg Prod.fst h
      simp only [Co.Got.num.injEq] at h4
      omega

theorem zeros_num {b : List Int} {T p : Nat} {v : Int} : ∀ {k n : Nat}, Co.zeros b T p k n ≠ .error (.num v) := by
  intro k
  induction k with
  | zero => intro n; simp [Co.zeros]
  | succ k ih =>
    intro n
    simp only [Co.zeros]
    split
    · simp
    · split
      · simp
      · exact ih

end Go.Proofs.YtnccebfapihpjaaGreatDoor
