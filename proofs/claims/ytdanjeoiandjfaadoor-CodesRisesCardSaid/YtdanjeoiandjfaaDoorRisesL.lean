/- What the walk of kinlaw3.CodesRises asks of the sizes. -/
import Derived.Test.YtdanjeoiandjfaaDoorCodesOps
namespace Go.Proofs.YtdanjeoiandjfaaDoor
open Go Go.RowKit Go.Extern.Stop Go.Stop Go.Extern

theorem ue_pos {a : Int} (h : Co.ueMay a = true) : 1 ≤ Co.sizeUe a ∧ Co.sizeUe a ≤ 61 := by
  obtain ⟨_, h1, h2⟩ := Co.sizeUe_bd a
  have := h2.2 h
  omega
theorem ue_zero {a : Int} (h : Co.ueMay a = false) : Co.sizeUe a = 0 := by
  unfold Co.sizeUe; rw [h]; rfl
theorem rice_pos {a k : Int} (h : Co.riceMay a k = true) : 1 ≤ Co.sizeRice a k ∧ Co.sizeRice a k ≤ 55 := by
  obtain ⟨_, h1, h2⟩ := Co.sizeRice_bd a k
  have := h2.2 h
  omega
theorem rice_zero {a k : Int} (h : Co.riceMay a k = false) : Co.sizeRice a k = 0 := by
  unfold Co.sizeRice; rw [h]; rfl

end Go.Proofs.YtdanjeoiandjfaaDoor
