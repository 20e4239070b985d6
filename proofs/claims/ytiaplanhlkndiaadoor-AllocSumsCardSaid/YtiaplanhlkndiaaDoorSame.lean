/- Contracts of kinref's small functions (OK, Ints, Within, CopyInts) and of kinsame.Err: the program's error held against the document's. -/
import Derived.Test.YtiaplanhlkndiaaDoorFault
import Derived.Test.YtiaplanhlkndiaaDoorAppend
import Derived.Test.YtiaplanhlkndiaaDoorVbvLaw
namespace Go.Proofs.YtiaplanhlkndiaaDoor
open Go Go.RowKit Go.Extern.Stop Go.Stop Go.Extern

theorem OK_any (c : Int) (s : Value) (w : World) : Calls Tryd.prog 19 #[.agg #[.int .i64 c, s]] w
    fun e w' => e = .returned (.bool (c == 0)) ∧ w.alloc (.cells #[.int .i64 c, s] 34) = w' := by
  go_enter Tryd.func19, Tryd.ntmps19
  go_wp2
  go_ret
  exact ⟨rfl, rfl⟩

set_option maxRecDepth 100000 in
set_option maxHeartbeats 1000000 in
/-- Both errors are there and alike: true. -/
theorem Err_some {path : List (ByteArray × Int)} {c : Int} {v : Value} {A : Option Addr} {cap : Nat} (hp : path.length ≤ 1000000000000) (hc : c ≠ 0) (w : World) (hg : Gl w)
    (he : ErrAt w path (.iface 31 (.int .i64 c)) v) (hr : Rd w 2 A path.length (flatP path)) :
    Calls Tryd.prog 12 #[v, .agg #[.int .i64 c, .slice A path.length cap]] w fun e w' => e = .returned (.bool true) ∧ Below w.heap.size w w' := by
  obtain ⟨T, x, rfl⟩ := he.iface
  have hc0 : (c == 0) = false := by simpa using hc
  have HE := Lib.hid he
  have HG := Lib.hid hg
  have HR := Lib.hid hr
  clear he hg hr
  have hb1 : Below w.heap.size w (w.alloc (.cells #[.int .i64 c, .slice A path.length cap] 34)) := (Below.refl _ _).alloc (Nat.le_refl _) _
  have hb2 : Below w.heap.size w ((w.alloc (.cells #[.int .i64 c, .slice A path.length cap] 34)).alloc (.cells #[.int .i64 c, .slice A path.length cap] 34)) := hb1.alloc (by simp) _
  go_enter Tryd.func12, Tryd.ntmps12
  go_wp2_with fail
  go_region_held3 (fun W => W.cell? ⟨w.heap.size, 0, none⟩ = some (.int .i64 c) ∧ W.cell? ⟨w.heap.size, 1, none⟩ = some (.slice A path.length cap))
    (first | go_keep | (go_split_ands; refine ⟨cell_keep (by assumption) hw1, cell_keep (by assumption) hw1⟩))
    (first
      | (go_at_call 19; refine (OK_any c _ _).mono ?_; rintro e w' ⟨rfl, rfl⟩)
      | (go_at_call 20; refine (Of_code _ (HG.out.keep hb2.drew) (HE.out.below hb2.drew)).mono ?_; rintro e w' ⟨rfl, hw1⟩))
  obtain ⟨hx0, hx1⟩ : w'.cell? ⟨w.heap.size, 0, none⟩ = some (.int .i64 c) ∧ w'.cell? ⟨w.heap.size, 1, none⟩ = some (.slice A path.length cap) := by assumption
  have hb3 : Below w.heap.size w w' := hb2.drew.trans (hw1.mono (by simp; omega))
  go_wp2_with (go_at_call 21; refine (Path_any hp (Tail.code c) _ (HG.out.keep hb3) (HE.out.below hb3)).mono ?_; unfold PathOut; rintro e w2 ⟨A2, cap2, rfl, hr2, hb4⟩; have hcA : w2.cell? ⟨w.heap.size, 1, none⟩ = some (.slice A path.length cap) := cell_keep hx1 hb4)
  have hb5 : Below w.heap.size w w2 := hb3.trans (hb4.mono hb3.size)
  have HR2 := Lib.hid hr2
  have HR3 := Lib.hid (HR.out.keep hb5)
  clear hr2
  go_loopg [6] path.length (fun k i wr => ∃ j n : Nat, j + k = path.length ∧ i = .int .i64 j ∧ wr = w2.drewN n)
  case atStart => exact ⟨0, 0, by omega, rfl, rfl⟩
  case round =>
    obtain ⟨j, n, hj, rfl, rfl⟩ := hrel
    by_cases hlt : j < path.length
    · obtain ⟨b2, o2, rfl, h2⟩ := HR2.out.2 (by omega)
      obtain ⟨b3, o3, rfl, h3⟩ := HR3.out.2 (by omega)
      have hp2 := flatP_get path j hlt
      have k1 := h2 _ _ hp2.1
      have k2 := h2 _ _ hp2.2
      have k3 := h3 _ _ hp2.1
      have k4 := h3 _ _ hp2.2
      rw [← Nat.add_assoc] at k2 k4
      have hlt' : (j : Int) < (path.length : Int) := by omega
      clear h2 h3 hp2
      go_wp2_with fail
      go_quiet (fail)
      go_wp2_with fail
      go_roundg (gk - 1)
      case measure => omega
      case rel => exact ⟨j + 1, n + nq, by omega, by go_num, rfl⟩
    · go_wp2_with fail
      go_ret
      exact ⟨rfl, below_drewN hb5 n⟩

set_option maxRecDepth 100000 in
set_option maxHeartbeats 1000000 in
/-- There is no error in either: true. -/
theorem Err_none {A : Option Addr} {cap : Nat} (w : World) (hg : Gl w) :
    Calls Tryd.prog 12 #[.nilIface, .agg #[.int .i64 0, .slice A 0 cap]] w fun e w' => e = .returned (.bool true) ∧ Below w.heap.size w w' := by
  have HG := Lib.hid hg
  clear hg
  have hb1 : Below w.heap.size w (w.alloc (.cells #[.int .i64 0, .slice A 0 cap] 34)) := (Below.refl _ _).alloc (Nat.le_refl _) _
  have hb2 : Below w.heap.size w ((w.alloc (.cells #[.int .i64 0, .slice A 0 cap] 34)).alloc (.cells #[.int .i64 0, .slice A 0 cap] 34)) := hb1.alloc (by simp) _
  go_enter Tryd.func12, Tryd.ntmps12
  go_wp2_with fail
  go_region_held3 (fun W => W.cell? ⟨w.heap.size, 0, none⟩ = some (.int .i64 0) ∧ W.cell? ⟨w.heap.size, 1, none⟩ = some (.slice A 0 cap))
    (first | go_keep)
    (first
      | (go_at_call 19; refine (OK_any 0 _ _).mono ?_; rintro e w' ⟨rfl, rfl⟩)
      | (go_at_call 20; refine (Of_nil _).mono ?_; rintro e w' ⟨rfl, rfl⟩))
  go_wp2_with (go_at_call 21; refine (Path_any (path := []) (by simp) Tail.nil _ (HG.out.keep hb2.drew) rfl).mono ?_; unfold PathOut; rintro e w2 ⟨A2, cap2, rfl, hr2, hb4⟩; have hcA : w2.cell? ⟨w.heap.size, 1, none⟩ = some (.slice A 0 cap) := cell_keep (by simp) hb4)
  have hb5 : Below w.heap.size w w2 := hb2.drew.trans (hb4.mono (by simp; omega))
  refine wp_loop_rounds 1 ?_
  rw [rounds_succ]
  go_wp2_with fail
  go_ret
  exact ⟨rfl, hb5⟩

set_option maxHeartbeats 1000000 in
/-- Two lists that are alike: true. -/
theorem Ints_same {l : List Int} {A B : Option Addr} {c d : Nat} (hl : l.length ≤ 9223372036854775807) (w : World) (ha : RdI .i64 w A l) (hb : RdI .i64 w B l) :
    Calls Tryd.prog 11 #[.slice A l.length c, .slice B l.length d] w fun e w' => e = .returned (.bool true) ∧ Below w.heap.size w w' := by
  have HA := Lib.hid ha
  have HB := Lib.hid hb
  clear ha hb
  go_enter Tryd.func11, Tryd.ntmps11
  go_wp2_with fail
  go_loopg [5] l.length (fun k i wr => ∃ j n : Nat, j + k = l.length ∧ i = .int .i64 j ∧ wr = w.drewN n)
  case atStart => exact ⟨0, 0, by omega, rfl, rfl⟩
  case round =>
    obtain ⟨j, n, hj, rfl, rfl⟩ := hrel
    by_cases hlt : j < l.length
    · obtain ⟨b2, o2, rfl, k2⟩ := HA.out.at_ hlt
      obtain ⟨b3, o3, rfl, k3⟩ := HB.out.at_ hlt
      have hlt' : (j : Int) < (l.length : Int) := by omega
      go_wp2_with fail
      go_quiet (fail)
      go_wp2_with fail
      go_roundg (gk - 1)
      case measure => omega
      case rel => exact ⟨j + 1, n + nq, by omega, by go_num, rfl⟩
    · go_wp2_with fail
      go_ret
      exact ⟨rfl, below_drewN (Below.refl _ _) n⟩

theorem within_take_false {a b : Int} {l : List Int} {j : Nat} (hj : j < l.length) (h : ¬ (a ≤ l[j] ∧ l[j] ≤ b)) : Vb.within a b l = false := by
  rw [Bool.eq_false_iff]
  intro h'
  exact h ((Vb.within_iff a b l).1 h' _ (List.getElem_mem hj))

set_option maxHeartbeats 1000000 in
theorem Within_any {l : List Int} {a b : Int} {A : Option Addr} {c : Nat} (hl : l.length ≤ 9223372036854775807) (w : World) (ha : RdI .i64 w A l) :
    Calls Tryd.prog 13 #[.slice A l.length c, .int .i64 a, .int .i64 b] w fun e w' => e = .returned (.bool (Vb.within a b l)) ∧ w = w' := by
  have HA := Lib.hid ha
  clear ha
  go_enter Tryd.func13, Tryd.ntmps13
  go_wp2_with fail
  go_loopg [7] l.length (fun k i wr => ∃ j : Nat, j + k = l.length ∧ i = .int .i64 j ∧ wr = w ∧ ∀ n ∈ l.take j, a ≤ n ∧ n ≤ b)
  case atStart => exact ⟨0, by omega, rfl, rfl, by simp⟩
  case round =>
    obtain ⟨j, hj, rfl, rfl, hin⟩ := hrel
    have HI := Lib.hid hin
    clear hin
    by_cases hlt : j < l.length
    · obtain ⟨b2, o2, rfl, k2⟩ := HA.out.at_ hlt
      have hlt' : (j : Int) < (l.length : Int) := by omega
      by_cases h1 : l[j] < a
      · have hf := Lib.hid (within_take_false (a := a) (b := b) hlt (by omega))
        go_wp2_with fail
        go_ret
        exact ⟨by rw [hf.out]; rfl, rfl⟩
      · by_cases h2 : b < l[j]
        · have hf := Lib.hid (within_take_false (a := a) (b := b) hlt (by omega))
          have h1' : a ≤ l[j] := by omega
          go_wp2_with fail
          go_ret
          exact ⟨by rw [hf.out]; rfl, rfl⟩
        · have h1' : a ≤ l[j] := by omega
          have h2' : l[j] ≤ b := by omega
          go_wp2_with fail
          go_roundg (gk - 1)
          case measure => omega
          case rel =>
            refine ⟨j + 1, by omega, by go_num, rfl, fun n hn => ?_⟩
            rw [List.take_succ_eq_append_getElem hlt] at hn
            rcases List.mem_append.1 hn with h | h
            · exact HI.out n h
            · simp at h; subst h; exact ⟨h1', h2'⟩
    · have hf := Lib.hid ((Vb.within_iff a b l).2 (fun n hn => HI.out n (by rw [List.take_of_length_le (by omega)]; exact hn)))
      go_wp2_with fail
      go_ret
      exact ⟨by rw [hf.out]; rfl, rfl⟩

theorem intInfo : (Tryd.prog.info? 3).map (fun i => (i.zero, i.size, i.bytes)) = some (some (.int .i64 0), 1, 8) := by kernel_rfl

/-- A new slice that reads as l. -/
def NewInts (w : World) (l : List Int) (e : Ending) (w' : World) : Prop := ∃ A c, e = .returned (.slice A l.length c) ∧ RdI .i64 w' A l ∧ Below w.heap.size w w'

set_option maxHeartbeats 1000000 in
theorem CopyInts_any {l : List Int} {A : Option Addr} {c : Nat} (hl : l.length * 8 ≤ 140737488355328) (w : World) (ha : RdI .i64 w A l) :
    Calls Tryd.prog 8 #[.slice A l.length c] w (NewInts w l) := by
  obtain ⟨i0, hi, hz0, hz1, hz2⟩ := info_parts intInfo
  have HA := Lib.hid ha
  clear ha
  go_enter Tryd.func8, Tryd.ntmps8
  go_wp2_with (at_builtin; refine wpList_append_rd _ rfl (.tmp 3) (.tmp 4) _ rfl w.heap.size 3 i0 _ 1 8 Tryd.underlying24 hi hz0 hz1 hz2 rfl (by omega) (.slice (some ⟨w.heap.size, 0, none⟩) 0 0) 0 [] rfl (own_empty w _ _ _ (Nat.le_refl _)) A l.length c _ rfl (HA.out.alloc _) (ints_one _ _) (by unfold maxLen; omega) (by omega) (by simp) ?_; intro B cap w1 hown1 hg1 hat1; simp only [Nat.zero_add, List.nil_append] at hown1)
  go_ret
  refine ⟨B, cap, by simp, (RdI.of_own hown1).1, ?_⟩
  exact ((Below.refl _ _).alloc (Nat.le_refl _) _).grown hg1 (by simp) (fun k hk => by have : w.heap.size = k := by simpa [Value.ownBlock] using hk
                                                                                       omega)

end Go.Proofs.YtiaplanhlkndiaaDoor
