/- Contracts of kinref.Err's OK and of kinsame.Err: the program's error held against the document's. -/
import Derived.Test.YtnccebfapihpjaaDoorFault
import Derived.Test.YtnccebfapihpjaaDoorAppend
namespace Go.Proofs.YtnccebfapihpjaaDoor
open Go Go.RowKit Go.Extern.Stop Go.Stop Go.Extern

/-- An error's value: none, or one that reads as path and code. -/
def ErrR (w : World) (p : List (ByteArray × Int)) (c : Int) (v : Value) : Prop := (c = 0 ∧ p = [] ∧ v = .nilIface) ∨ (c ≠ 0 ∧ ErrAt w p (.iface 42 (.int .i64 c)) v)

theorem ErrR.keep {w w' : World} {p : List (ByteArray × Int)} {c : Int} {v : Value} (h : ErrR w p c v) (hb : Below w.heap.size w w') : ErrR w' p c v := by
  rcases h with h | ⟨h1, h2⟩
  · exact .inl h
  · exact .inr ⟨h1, h2.below hb⟩

end Go.Proofs.YtnccebfapihpjaaDoor
