/- Contracts of what errors say: api.Code.Error, strconv.Itoa, fault.Text; the law's digits and said. -/
import Derived.Shelf.Lay
import Derived.Shelf.Strconv.Itoa3
import Derived.Lib.AppendStr
import Derived.Lib.AppendIntMem
import Derived.Laws.BytesArg
import Derived.Laws.Concat
import Derived.Test.YtnccebfapihpjaaGreatDoorFault
import Derived.Test.YtnccebfapihpjaaGreatDoorFaultLaw
namespace Go.Proofs.YtnccebfapihpjaaGreatDoor
open Go Go.RowKit Go.Shelf

/-- string([]byte{x}), behind the literal. -/
theorem byte_string (n : Int) (w : World) : (convert 26 9 (.slice (some ⟨w.heap.size, 0, none⟩) 1 1)).run Tryz.prog (w.alloc (.cells #[.int .u8 n] 5))
    = .ok (.string (Fa.S [UInt8.ofNat n.toNat])) (w.alloc (.cells #[.int .u8 n] 5)) := by
  refine run_convert_bytes_arg _ 26 5 Tryz.underlying26 Tryz.underlying5 w.heap.size 0 1 1 [n] rfl ?_ 9 Tryz.underlying9
  intro i hi
  obtain rfl : i = 0 := by omega
  rw [World.cell?_alloc_at _ _ _ _ (by simp)]
  rfl

theorem sum_ok {a b : ByteArray} {n m : Nat} (ha : a.size ≤ n) (hb : b.size ≤ m) (h : n + m ≤ 9223372036854775807) : ¬ 9223372036854775807 < a.size + b.size := by omega

theorem b48 (x : Nat) : (48 : UInt8) + UInt8.ofNat x = UInt8.ofNat (48 + x) := by rw [UInt8.ofNat_add]; rfl

set_option maxHeartbeats 1000000 in
theorem code_text {c : Int} (hc : Fa.InI c) (w : World) : Calls Tryz.prog 48 #[.int .i64 c] w fun e w' => e = .returned (.string (Fa.S (Fa.codeL c))) ∧ Below w.heap.size w w' := by
  have hcv := byte_string
  by_cases h0 : c < 0
  · have hl : Fa.codeL c = [99, 111, 100, 101, 32, 98, 101, 108, 111, 119, 32, 48] := by unfold Fa.codeL; rw [if_pos h0]
    go_enter Tryz.func48, Tryz.ntmps48
    go_wp2_with fail
    go_ret
    exact ⟨by rw [hl]; rfl, Below.refl _ _⟩
  · have hl : Fa.codeL c = [99, 111, 100, 101, 32] ++ Lib.decDigits c.toNat := by unfold Fa.codeL; rw [if_neg h0]
    have HL := Lib.hid hl
    have hc' : 0 ≤ c ∧ c ≤ 9223372036854775807 := ⟨by omega, hc.2⟩
    clear hl hc
    go_enter Tryz.func48, Tryz.ntmps48
    go_wp2_with fail
    go_loopg [3, 4] c.toNat (fun k n s wr => ∃ (m : Nat) (t : List UInt8), m ≤ k ∧ m ≤ c.toNat ∧ n = .int .i64 m ∧ s = .string (Fa.S t) ∧ Lib.decDigits c.toNat = Lib.decDigits m ++ t.drop 0 ∧ t.length ≤ 20 ∧ Below w.heap.size w wr)
    case atStart => exact ⟨c.toNat, [], Nat.le_refl _, Nat.le_refl _, by simp; omega, rfl, by simp, by simp, Below.refl _ _⟩
    case round =>
      obtain ⟨m, t, hk, hm, rfl, rfl, hd, ht, hb⟩ := hrel
      have HD := Lib.hid hd
      clear hd
      by_cases h9 : (9 : Int) < (m : Int)
      · have hz : ¬ 9223372036854775807 < (Fa.S [48 + UInt8.ofNat (m % 10)]).size + (Fa.S t).size := by rw [Fa.S_size, Fa.S_size]; simp; omega
        go_wp2_with fail
        have hdm := Fa.dec_big (u := m) (by omega)
        have hlen : ([48 + UInt8.ofNat (m % 10)] ++ t).length ≤ 20 := by
          have h1 := congrArg List.length HD.out
          rw [hdm] at h1
          have h2 := Fa.decDigits_length_le c.toNat (by omega)
          have h3 : 1 ≤ (Lib.decDigits (m / 10)).length := by rw [Lib.decDigits_length]; exact Lib.nDigits_pos _
          simp at h1 ⊢
          omega
        go_roundg (gk - 1)
        case measure => omega
        case rel => exact ⟨m / 10, [48 + UInt8.ofNat (m % 10)] ++ t, by omega, by omega, by simp, by rw [Fa.S_app], by rw [HD.out, hdm, b48]; simp, hlen, hb.alloc hb.size _⟩
      · have hz1 : ¬ 9223372036854775807 < 5 + (Fa.S [48 + UInt8.ofNat m]).size := by rw [Fa.S_size]; simp
        have hz2 : ¬ 9223372036854775807 < 5 + (Fa.S [48 + UInt8.ofNat m]).size + (Fa.S t).size := by rw [Fa.S_size, Fa.S_size]; simp; omega
        go_wp2_with fail
        go_ret
        refine ⟨?_, hb.alloc hb.size _⟩
        rw [HL.out, HD.out, Fa.dec_small (u := m) (by omega), b48]
        have e5 : (⟨#[99, 111, 100, 101, 32]⟩ : ByteArray) = Fa.S [99, 111, 100, 101, 32] := rfl
        rw [e5, Fa.S_app, Fa.S_app]
        simp

end Go.Proofs.YtnccebfapihpjaaGreatDoor
