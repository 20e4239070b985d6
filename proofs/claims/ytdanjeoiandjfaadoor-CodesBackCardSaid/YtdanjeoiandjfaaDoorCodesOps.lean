/- A slice of kinlaw3's operations as cells. -/
import Derived.Test.YtdanjeoiandjfaaDoorCodesFirst
namespace Go.Proofs.YtdanjeoiandjfaaDoor
open Go Go.RowKit Go.Extern.Stop Go.Stop Go.Extern

/-- An operation: its kind, number, width, bound. -/
structure Op3 where
  k : Int
  v : Int
  n : Int
  m : Int

def flat3 (l : List Op3) : List Value := l.flatMap fun o => [.int .i64 o.k, .int .i64 o.v, .int .i64 o.n, .int .i64 o.m]
theorem flat3_length (l : List Op3) : (flat3 l).length = l.length * 4 := by
  induction l with
  | nil => rfl
  | cons a r ih => simp only [flat3, List.flatMap_cons, List.length_append, List.length_cons, List.length_nil] at *; omega
theorem flat3_app (l m : List Op3) : flat3 (l ++ m) = flat3 l ++ flat3 m := by simp [flat3]
theorem flat3_get (l : List Op3) (i : Nat) (h : i < l.length) :
    (flat3 l)[i * 4]? = some (.int .i64 l[i].k) ∧ (flat3 l)[i * 4 + 1]? = some (.int .i64 l[i].v) ∧ (flat3 l)[i * 4 + 2]? = some (.int .i64 l[i].n) ∧ (flat3 l)[i * 4 + 3]? = some (.int .i64 l[i].m) := by
  induction l generalizing i with
  | nil => simp at h
  | cons a r ih =>
    cases i with
    | zero => simp [flat3]
    | succ i =>
      have := ih i (by simpa using h)
      simp only [flat3, List.flatMap_cons, List.getElem_cons_succ] at *
      rw [show (i + 1) * 4 = 4 + i * 4 by omega, List.getElem?_append_right (by simp), show 4 + i * 4 + 1 = 4 + (i * 4 + 1) by omega, List.getElem?_append_right (by simp),
        show 4 + i * 4 + 2 = 4 + (i * 4 + 2) by omega, List.getElem?_append_right (by simp), show 4 + i * 4 + 3 = 4 + (i * 4 + 3) by omega, List.getElem?_append_right (by simp)]
      simpa using this

/-- The slice holds these operations. -/
def RdO3 (w : World) (A : Option Addr) (l : List Op3) : Prop := Rd w 4 A l.length (flat3 l)
theorem RdO3.keep {w w' : World} {A : Option Addr} {l : List Op3} (h : RdO3 w A l) (hb : Below w.heap.size w w') : RdO3 w' A l := Rd.keep h hb
theorem RdO3.at_ {w : World} {A : Option Addr} {l : List Op3} (h : RdO3 w A l) {i : Nat} (hi : i < l.length) :
    ∃ b o, A = some ⟨b, o, none⟩ ∧ w.cell? ⟨b, o + i * 4, none⟩ = some (.int .i64 l[i].k) ∧ w.cell? ⟨b, o + i * 4 + 1, none⟩ = some (.int .i64 l[i].v) ∧
      w.cell? ⟨b, o + i * 4 + 2, none⟩ = some (.int .i64 l[i].n) ∧ w.cell? ⟨b, o + i * 4 + 3, none⟩ = some (.int .i64 l[i].m) := by
  obtain ⟨b, o, hA, hc⟩ := h.2 (by omega)
  obtain ⟨h0, h1, h2, h3⟩ := flat3_get l i hi
  exact ⟨b, o, hA, hc _ _ h0, hc _ _ h1, hc _ _ h2, hc _ _ h3⟩

/-- Its numbers are numbers of 64 bits. -/
def InB (o : Op3) : Prop := (-9223372036854775808 ≤ o.v ∧ o.v ≤ 9223372036854775807) ∧ (-9223372036854775808 ≤ o.n ∧ o.n ≤ 9223372036854775807) ∧ (-9223372036854775808 ≤ o.m ∧ o.m ≤ 9223372036854775807)

end Go.Proofs.YtdanjeoiandjfaaDoor
