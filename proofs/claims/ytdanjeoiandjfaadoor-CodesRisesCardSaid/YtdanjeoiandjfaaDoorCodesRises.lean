/- The walk of kinlaw3.CodesRises: it returns true, whatever the input. -/
import Derived.Test.YtdanjeoiandjfaaDoorRisesNeg
import Derived.Test.YtdanjeoiandjfaaDoorRisesBig
import Derived.Test.YtdanjeoiandjfaaDoorRisesOk1
import Derived.Test.YtdanjeoiandjfaaDoorRisesOk2
namespace Go.Proofs.YtdanjeoiandjfaaDoor
open Go Go.RowKit Go.Extern.Stop Go.Stop Go.Extern

section
variable {a b k : Int} (ha : -9223372036854775808 ≤ a ∧ a ≤ 9223372036854775807) (hb : -9223372036854775808 ≤ b ∧ b ≤ 9223372036854775807) (hk : -9223372036854775808 ≤ k ∧ k ≤ 9223372036854775807) (w : World)

include ha hb hk in
theorem CodesRises_walk (hg : Gl w) : Calls Tryd.prog 5 #[.int .i64 a, .int .i64 b, .int .i64 k] w fun e w' => e = .returned (.bool true) ∧ Below w.heap.size w w' := by
  rcases (show a < 0 ∨ (0 ≤ a ∧ 1073741824 < a) ∨ (0 ≤ a ∧ a ≤ 1073741824) by omega) with a0 | ⟨a0, a1⟩ | ⟨a0, a1⟩ <;>
  rcases (show b < 0 ∨ (0 ≤ b ∧ 1073741824 < b) ∨ (0 ≤ b ∧ b ≤ 1073741824) by omega) with b0 | ⟨b0, b1⟩ | ⟨b0, b1⟩ <;>
  rcases (show k < 0 ∨ (0 ≤ k ∧ 15 < k) ∨ (0 ≤ k ∧ k ≤ 15) by omega) with k0 | ⟨k0, k1⟩ | ⟨k0, k1⟩
  · exact Rises_neg_neg_neg ha hb hk w a0 b0 k0 hg
  · exact Rises_neg_neg_big ha hb hk w a0 b0 k0 k1 hg
  · exact Rises_neg_neg_ok ha hb hk w a0 b0 k0 k1 hg
  · exact Rises_neg_big_neg ha hb hk w a0 b0 b1 k0 hg
  · exact Rises_neg_big_big ha hb hk w a0 b0 b1 k0 k1 hg
  · exact Rises_neg_big_ok ha hb hk w a0 b0 b1 k0 k1 hg
  · exact Rises_neg_ok_neg ha hb hk w a0 b0 b1 k0 hg
  · exact Rises_neg_ok_big ha hb hk w a0 b0 b1 k0 k1 hg
  · exact Rises_neg_ok_ok ha hb hk w a0 b0 b1 k0 k1 hg
  · exact Rises_big_neg_neg ha hb hk w a0 a1 b0 k0 hg
  · exact Rises_big_neg_big ha hb hk w a0 a1 b0 k0 k1 hg
  · exact Rises_big_neg_ok ha hb hk w a0 a1 b0 k0 k1 hg
  · exact Rises_big_big_neg ha hb hk w a0 a1 b0 b1 k0 hg
  · exact Rises_big_big_big ha hb hk w a0 a1 b0 b1 k0 k1 hg
  · exact Rises_big_big_ok ha hb hk w a0 a1 b0 b1 k0 k1 hg
  · exact Rises_big_ok_neg ha hb hk w a0 a1 b0 b1 k0 hg
  · exact Rises_big_ok_big ha hb hk w a0 a1 b0 b1 k0 k1 hg
  · exact Rises_big_ok_ok ha hb hk w a0 a1 b0 b1 k0 k1 hg
  · exact Rises_ok_neg_neg ha hb hk w a0 a1 b0 k0 hg
  · exact Rises_ok_neg_big ha hb hk w a0 a1 b0 k0 k1 hg
  · exact Rises_ok_neg_ok ha hb hk w a0 a1 b0 k0 k1 hg
  · exact Rises_ok_big_neg ha hb hk w a0 a1 b0 b1 k0 hg
  · exact Rises_ok_big_big ha hb hk w a0 a1 b0 b1 k0 k1 hg
  · exact Rises_ok_big_ok ha hb hk w a0 a1 b0 b1 k0 k1 hg
  · rcases (show a ≤ b ∨ b < a by omega) with h | h
    · exact Rises_ok_ok_neg_le ha hb hk w a0 a1 b0 b1 k0 h hg
    · exact Rises_ok_ok_neg_gt ha hb hk w a0 a1 b0 b1 k0 h hg
  · rcases (show a ≤ b ∨ b < a by omega) with h | h
    · exact Rises_ok_ok_big_le ha hb hk w a0 a1 b0 b1 k0 k1 h hg
    · exact Rises_ok_ok_big_gt ha hb hk w a0 a1 b0 b1 k0 k1 h hg
  · rcases (show a ≤ b ∨ b < a by omega) with h | h
    · exact Rises_ok_ok_ok_le ha hb hk w a0 a1 b0 b1 k0 k1 h hg
    · exact Rises_ok_ok_ok_gt ha hb hk w a0 a1 b0 b1 k0 k1 h hg
end

end Go.Proofs.YtdanjeoiandjfaaDoor
