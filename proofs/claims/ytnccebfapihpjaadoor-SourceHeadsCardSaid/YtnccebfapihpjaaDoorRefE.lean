/- Contracts of kinref's wraps: Fail, In, Wrap. -/
import Derived.Test.YtnccebfapihpjaaDoorSameE
import Derived.OneCell
namespace Go.Proofs.YtnccebfapihpjaaDoor
open Go Go.RowKit Go.Extern.Stop Go.Stop Go.Extern

/-- A reference's error: its code, its path. -/
def EOut (w : World) (path : List (ByteArray × Int)) (c : Int) (e : Ending) (w' : World) : Prop :=
  ∃ A cap, e = .returned (.agg #[.int .i64 c, .slice A path.length cap]) ∧ Rd w' 2 A path.length (flatP path) ∧ (∀ a, A = some a → w.heap.size ≤ a.block) ∧ Below w.heap.size w w'

theorem Rd.far {w : World} {size n : Nat} {A : Option Addr} {xs : List Value} (h : Rd w size A n xs) {p : Addr} (hp : ∀ a, A = some a → a.block ≠ p.block) (u : Value) : Rd (w.setCell p u) size A n xs :=
  ⟨h.1, fun hn => by
    obtain ⟨b, off, e, hc⟩ := h.2 hn
    refine ⟨b, off, e, fun j v hv => ?_⟩
    have hne : b ≠ p.block := hp _ e
    have h2 := hc j v hv
    have h3 := Below.heap_setCell w p u b hne
    unfold World.cell? at h2 ⊢
    simp only [h3] at *
    exact h2⟩

theorem flatP_one (path : List (ByteArray × Int)) : ∀ u ∈ flatP path, u.oneCell' = true := by
  induction path with
  | nil => intro u hu; simp [flatP] at hu
  | cons x r ih =>
    intro u hu
    obtain ⟨s, p⟩ := x
    have h : flatP ((s, p) :: r) = [.string s, .int .i64 p] ++ flatP r := by simp [flatP]
    rw [h] at hu
    rcases List.mem_append.1 hu with h1 | h1
    · simp at h1
      rcases h1 with rfl | rfl <;> rfl
    · exact ih u h1

end Go.Proofs.YtnccebfapihpjaaDoor
