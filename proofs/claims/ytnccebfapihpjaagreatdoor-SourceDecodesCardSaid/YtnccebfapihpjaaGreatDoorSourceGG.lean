/- Contracts of plane.In, source.Guess and kinref15.Guess: the guess at any place of any frame. -/
import Derived.Test.YtnccebfapihpjaaGreatDoorSourceG
namespace Go.Proofs.YtnccebfapihpjaaGreatDoor
open Go Go.RowKit Go.Extern.Stop Go.Stop Go.Extern

/-- The guess at any place of any frame. -/
def guessF (fw fh : Int) (pix : List Int) (x y : Int) : Int :=
  if mayF fw fh pix = true ∧ 0 ≤ x ∧ 0 ≤ y ∧ x < fw ∧ y < fh then So.guess pix fw.toNat (y.toNat * fw.toNat + x.toNat) else 0
theorem mayF_of {fw fh : Int} {pix : List Int} (h : mayF fw fh pix = true) : (8 ≤ fw ∧ fw ≤ 32) ∧ (8 ≤ fh ∧ fh ≤ 32) ∧ (pix.length : Int) = fw * fh ∧ ∀ v ∈ pix, 0 ≤ v ∧ v ≤ 255 := by
  unfold mayF at h
  simp only [Bool.and_eq_true] at h
  exact ⟨sideB_bd h.1.1.1, sideB_bd h.1.1.2, of_decide_eq_true h.1.2, (Vb.within_iff _ _ _).1 h.2⟩
theorem guessF_bd (fw fh : Int) (pix : List Int) (x y : Int) : 0 ≤ guessF fw fh pix x y ∧ guessF fw fh pix x y ≤ 255 := by
  unfold guessF
  split
  · next h => exact So.guess_bd (mayF_of h.1).2.2.2 _ _
  · omega

end Go.Proofs.YtnccebfapihpjaaGreatDoor
