/- Contracts of kinref's small functions on lists of integers (Ints, Within, CopyInts). -/
import Derived.Test.YtnccebfapihpjaaGreatDoorSameE
import Derived.Test.YtnccebfapihpjaaGreatDoorVbvLaw
namespace Go.Proofs.YtnccebfapihpjaaGreatDoor
open Go Go.RowKit Go.Extern.Stop Go.Stop Go.Extern

set_option maxHeartbeats 1000000 in
/-- Two lists that are alike: true. -/
theorem Ints_same {l : List Int} {A B : Option Addr} {c d : Nat} (hl : l.length ≤ 9223372036854775807) (w : World) (ha : RdI .i64 w A l) (hb : RdI .i64 w B l) :
    Calls Tryz.prog 63 #[.slice A l.length c, .slice B l.length d] w fun e w' => e = .returned (.bool true) ∧ Below w.heap.size w w' := by
  have HA := Lib.hid ha
  have HB := Lib.hid hb
  clear ha hb
  go_enter Tryz.func63, Tryz.ntmps63
  go_wp2_with fail
  go_loopg [5] l.length (fun k i wr => ∃ j n : Nat, j + k = l.length ∧ i = .int .i64 j ∧ wr = w.drewN n)
  case atStart => exact ⟨0, 0, by omega, rfl, rfl⟩
  case round =>
    obtain ⟨j, n, hj, rfl, rfl⟩ := hrel
    by_cases hlt : j < l.length
    · obtain ⟨b2, o2, rfl, k2⟩ := HA.out.at_ hlt
      obtain ⟨b3, o3, rfl, k3⟩ := HB.out.at_ hlt
      have hlt' : (j : Int) < (l.length : Int) := by omega
      go_wp2_with fail
      go_quiet (fail)
      go_wp2_with fail
      go_roundg (gk - 1)
      case measure => omega
      case rel => exact ⟨j + 1, n + nq, by omega, by go_num, rfl⟩
    · go_wp2_with fail
      go_ret
      exact ⟨rfl, below_drewN (Below.refl _ _) n⟩

theorem within_take_false {a b : Int} {l : List Int} {j : Nat} (hj : j < l.length) (h : ¬ (a ≤ l[j] ∧ l[j] ≤ b)) : Vb.within a b l = false := by
  rw [Bool.eq_false_iff]
  intro h'
  exact h ((Vb.within_iff a b l).1 h' _ (List.getElem_mem hj))

set_option maxHeartbeats 1000000 in
theorem Within_any {l : List Int} {a b : Int} {A : Option Addr} {c : Nat} (hl : l.length ≤ 9223372036854775807) (w : World) (ha : RdI .i64 w A l) :
    Calls Tryz.prog 58 #[.slice A l.length c, .int .i64 a, .int .i64 b] w fun e w' => e = .returned (.bool (Vb.within a b l)) ∧ w = w' := by
  have HA := Lib.hid ha
  clear ha
  go_enter Tryz.func58, Tryz.ntmps58
  go_wp2_with fail
  go_loopg [7] l.length (fun k i wr => ∃ j : Nat, j + k = l.length ∧ i = .int .i64 j ∧ wr = w ∧ ∀ n ∈ l.take j, a ≤ n ∧ n ≤ b)
  case atStart => exact ⟨0, by omega, rfl, rfl, by simp⟩
  case round =>
    obtain ⟨j, hj, rfl, rfl, hin⟩ := hrel
    have HI := Lib.hid hin
    clear hin
    by_cases hlt : j < l.length
    · obtain ⟨b2, o2, rfl, k2⟩ := HA.out.at_ hlt
      have hlt' : (j : Int) < (l.length : Int) := by omega
      by_cases h1 : l[j] < a
      · have hf := Lib.hid (within_take_false (a := a) (b := b) hlt (by omega))
        go_wp2_with fail
        go_ret
        exact ⟨by rw [hf.out]; rfl, rfl⟩
      · by_cases h2 : b < l[j]
        · have hf := Lib.hid (within_take_false (a := a) (b := b) hlt (by omega))
          have h1' : a ≤ l[j] := by omega
          go_wp2_with fail
          go_ret
          exact ⟨by rw [hf.out]; rfl, rfl⟩
        · have h1' : a ≤ l[j] := by omega
          have h2' : l[j] ≤ b := by omega
          go_wp2_with fail
          go_roundg (gk - 1)
          case measure => omega
          case rel =>
            refine ⟨j + 1, by omega, by go_num, rfl, fun n hn => ?_⟩
            rw [List.take_succ_eq_append_getElem hlt] at hn
            rcases List.mem_append.1 hn with h | h
            · exact HI.out n h
            · simp at h; subst h; exact ⟨h1', h2'⟩
    · have hf := Lib.hid ((Vb.within_iff a b l).2 (fun n hn => HI.out n (by rw [List.take_of_length_le (by omega)]; exact hn)))
      go_wp2_with fail
      go_ret
      exact ⟨by rw [hf.out]; rfl, rfl⟩

theorem intInfo : (Tryz.prog.info? 3).map (fun i => (i.zero, i.size, i.bytes)) = some (some (.int .i64 0), 1, 8) := by kernel_rfl

/-- A new slice that reads as l. -/
def NewInts (w : World) (l : List Int) (e : Ending) (w' : World) : Prop := ∃ A c, e = .returned (.slice A l.length c) ∧ RdI .i64 w' A l ∧ Below w.heap.size w w'

set_option maxHeartbeats 1000000 in
theorem CopyInts_any {l : List Int} {A : Option Addr} {c : Nat} (hl : l.length * 8 ≤ 140737488355328) (w : World) (ha : RdI .i64 w A l) :
    Calls Tryz.prog 49 #[.slice A l.length c] w (NewInts w l) := by
  obtain ⟨i0, hi, hz0, hz1, hz2⟩ := info_parts intInfo
  have HA := Lib.hid ha
  clear ha
  go_enter Tryz.func49, Tryz.ntmps49
  go_wp2_with (at_builtin; refine wpList_append_rd _ rfl (.tmp 3) (.tmp 4) _ rfl w.heap.size 3 i0 _ 1 8 Tryz.underlying46 hi hz0 hz1 hz2 rfl (by omega) (.slice (some ⟨w.heap.size, 0, none⟩) 0 0) 0 [] rfl (own_empty w _ _ _ (Nat.le_refl _)) A l.length c _ rfl (HA.out.alloc _) (ints_one _ _) (by unfold maxLen; omega) (by omega) (by simp) ?_; intro B cap w1 hown1 hg1 hat1; simp only [Nat.zero_add, List.nil_append] at hown1)
  go_ret
  refine ⟨B, cap, by simp, (RdI.of_own hown1).1, ?_⟩
  exact ((Below.refl _ _).alloc (Nat.le_refl _) _).grown hg1 (by simp) (fun k hk => by have : w.heap.size = k := by simpa [Value.ownBlock] using hk
                                                                                       omega)

end Go.Proofs.YtnccebfapihpjaaGreatDoor
