/- Contracts of package kinref2, the document's writer, and of kinref's Bytes and CopyBytes. -/
import Derived.Test.YtnccebfapihpjaaDoorBitsR
import Derived.Test.YtnccebfapihpjaaDoorRefE
import Derived.Laws.BytesString
import Derived.Laws.IdiomStrings
import Derived.Laws.OwnMore
namespace Go.Proofs.YtnccebfapihpjaaDoor
open Go Go.RowKit Go.Extern.Stop Go.Stop Go.Extern

/-! ### Bytes as a string -/
def strOf (b : List Int) : ByteArray := b.foldl (fun r n => r.push (UInt8.ofNat n.toNat)) ByteArray.empty

theorem conv_rd {A : Option Addr} {b : List Int} {c : Nat} (w : World) (h : RdI .u8 w A b) :
    (convert 25 9 (.slice A b.length c)).run Tryd.prog w = .ok (.string (strOf b)) w := by
  rw [run_convert_bytes_string w _ _ _ A b.length c Tryd.underlying25 Tryd.underlying5 Tryd.underlying9]
  cases A with
  | none =>
    have h0 : b = [] := by
      cases b with
      | nil => rfl
      | cons x r => obtain ⟨b', off, e, _⟩ := h.2 (by simp); cases e
    subst h0
    rfl
  | some a =>
    have hl := run_loadCells_list (P := Tryd.prog) w a (b.map (Value.int .u8)) (fun j v hj => by
      have hj' : j < b.length := by have := (List.getElem?_eq_some_iff.1 hj).1; simpa using this
      obtain ⟨b', off, e, hc⟩ := RdI.at_ h hj'
      obtain rfl := Option.some.inj e
      rw [add_lit, hc]
      rw [List.getElem?_map, List.getElem?_eq_getElem hj'] at hj
      exact hj)
    simp only [List.length_map] at hl
    exact run_bytesToString w a b.length c b hl


/-! ### The document's writer -/
theorem boolInfo : (Tryd.prog.info? 4).map (fun i => (i.zero, i.size, i.bytes)) = some (some (.bool false), 1, 1) := by kernel_rfl

end Go.Proofs.YtnccebfapihpjaaDoor
