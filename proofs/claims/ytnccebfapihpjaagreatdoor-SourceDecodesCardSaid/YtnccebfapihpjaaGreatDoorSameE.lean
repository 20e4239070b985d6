/- Contracts of kinref.Err's OK and of kinsame.Err: the program's error held against the document's. -/
import Derived.Test.YtnccebfapihpjaaGreatDoorFault
import Derived.Test.YtnccebfapihpjaaGreatDoorAppend
namespace Go.Proofs.YtnccebfapihpjaaGreatDoor
open Go Go.RowKit Go.Extern.Stop Go.Stop Go.Extern

theorem OK_any (c : Int) (s : Value) (w : World) : Calls Tryz.prog 32 #[.agg #[.int .i64 c, s]] w
    fun e w' => e = .returned (.bool (c == 0)) ∧ w.alloc (.cells #[.int .i64 c, s] 34) = w' := by
  go_enter Tryz.func32, Tryz.ntmps32
  go_wp2
  go_ret
  exact ⟨rfl, rfl⟩

set_option maxRecDepth 100000 in
set_option maxHeartbeats 1000000 in
/-- Both errors are there and alike: true. -/
theorem Err_some {path : List (ByteArray × Int)} {c : Int} {v : Value} {A : Option Addr} {cap : Nat} (hp : path.length ≤ 1000000000000) (hc : c ≠ 0) (w : World) (hg : Gl w)
    (he : ErrAt w path (.iface 31 (.int .i64 c)) v) (hr : Rd w 2 A path.length (flatP path)) :
    Calls Tryz.prog 11 #[v, .agg #[.int .i64 c, .slice A path.length cap]] w fun e w' => e = .returned (.bool true) ∧ Below w.heap.size w w' := by
  obtain ⟨T, x, rfl⟩ := he.iface
  have hc0 : (c == 0) = false := by simpa using hc
  have HE := Lib.hid he
  have HG := Lib.hid hg
  have HR := Lib.hid hr
  clear he hg hr
  have hb1 : Below w.heap.size w (w.alloc (.cells #[.int .i64 c, .slice A path.length cap] 34)) := (Below.refl _ _).alloc (Nat.le_refl _) _
  have hb2 : Below w.heap.size w ((w.alloc (.cells #[.int .i64 c, .slice A path.length cap] 34)).alloc (.cells #[.int .i64 c, .slice A path.length cap] 34)) := hb1.alloc (by simp) _
  go_enter Tryz.func11, Tryz.ntmps11
  go_wp2_with fail
  go_region_held3 (fun W => W.cell? ⟨w.heap.size, 0, none⟩ = some (.int .i64 c) ∧ W.cell? ⟨w.heap.size, 1, none⟩ = some (.slice A path.length cap))
    (first | go_keep | (go_split_ands; refine ⟨cell_keep (by assumption) hw1, cell_keep (by assumption) hw1⟩))
    (first
      | (go_at_call 32; refine (OK_any c _ _).mono ?_; rintro e w' ⟨rfl, rfl⟩)
      | (go_at_call 33; refine (Of_code _ (HG.out.keep hb2.drew) (HE.out.below hb2.drew)).mono ?_; rintro e w' ⟨rfl, hw1⟩))
  obtain ⟨hx0, hx1⟩ : w'.cell? ⟨w.heap.size, 0, none⟩ = some (.int .i64 c) ∧ w'.cell? ⟨w.heap.size, 1, none⟩ = some (.slice A path.length cap) := by assumption
  have hb3 : Below w.heap.size w w' := hb2.drew.trans (hw1.mono (by simp; omega))
  go_wp2_with (go_at_call 34; refine (Path_any hp (Tail.code c) _ (HG.out.keep hb3) (HE.out.below hb3)).mono ?_; unfold PathOut; rintro e w2 ⟨A2, cap2, rfl, hr2, hb4⟩; have hcA : w2.cell? ⟨w.heap.size, 1, none⟩ = some (.slice A path.length cap) := cell_keep hx1 hb4)
  have hb5 : Below w.heap.size w w2 := hb3.trans (hb4.mono hb3.size)
  have HR2 := Lib.hid hr2
  have HR3 := Lib.hid (HR.out.keep hb5)
  clear hr2
  go_loopg [6] path.length (fun k i wr => ∃ j n : Nat, j + k = path.length ∧ i = .int .i64 j ∧ wr = w2.drewN n)
  case atStart => exact ⟨0, 0, by omega, rfl, rfl⟩
  case round =>
    obtain ⟨j, n, hj, rfl, rfl⟩ := hrel
    by_cases hlt : j < path.length
    · obtain ⟨b2, o2, rfl, h2⟩ := HR2.out.2 (by omega)
      obtain ⟨b3, o3, rfl, h3⟩ := HR3.out.2 (by omega)
      have hp2 := flatP_get path j hlt
      have k1 := h2 _ _ hp2.1
      have k2 := h2 _ _ hp2.2
      have k3 := h3 _ _ hp2.1
      have k4 := h3 _ _ hp2.2
      rw [← Nat.add_assoc] at k2 k4
      have hlt' : (j : Int) < (path.length : Int) := by omega
      clear h2 h3 hp2
      go_wp2_with fail
      go_quiet (fail)
      go_wp2_with fail
      go_roundg (gk - 1)
      case measure => omega
      case rel => exact ⟨j + 1, n + nq, by omega, by go_num, rfl⟩
    · go_wp2_with fail
      go_ret
      exact ⟨rfl, below_drewN hb5 n⟩

set_option maxRecDepth 100000 in
set_option maxHeartbeats 1000000 in
/-- There is no error in either: true. -/
theorem Err_none {A : Option Addr} {cap : Nat} (w : World) (hg : Gl w) :
    Calls Tryz.prog 11 #[.nilIface, .agg #[.int .i64 0, .slice A 0 cap]] w fun e w' => e = .returned (.bool true) ∧ Below w.heap.size w w' := by
  have HG := Lib.hid hg
  clear hg
  have hb1 : Below w.heap.size w (w.alloc (.cells #[.int .i64 0, .slice A 0 cap] 34)) := (Below.refl _ _).alloc (Nat.le_refl _) _
  have hb2 : Below w.heap.size w ((w.alloc (.cells #[.int .i64 0, .slice A 0 cap] 34)).alloc (.cells #[.int .i64 0, .slice A 0 cap] 34)) := hb1.alloc (by simp) _
  go_enter Tryz.func11, Tryz.ntmps11
  go_wp2_with fail
  go_region_held3 (fun W => W.cell? ⟨w.heap.size, 0, none⟩ = some (.int .i64 0) ∧ W.cell? ⟨w.heap.size, 1, none⟩ = some (.slice A 0 cap))
    (first | go_keep)
    (first
      | (go_at_call 32; refine (OK_any 0 _ _).mono ?_; rintro e w' ⟨rfl, rfl⟩)
      | (go_at_call 33; refine (Of_nil _).mono ?_; rintro e w' ⟨rfl, rfl⟩))
  go_wp2_with (go_at_call 34; refine (Path_any (path := []) (by simp) Tail.nil _ (HG.out.keep hb2.drew) rfl).mono ?_; unfold PathOut; rintro e w2 ⟨A2, cap2, rfl, hr2, hb4⟩; have hcA : w2.cell? ⟨w.heap.size, 1, none⟩ = some (.slice A 0 cap) := cell_keep (by simp) hb4)
  have hb5 : Below w.heap.size w w2 := hb2.drew.trans (hb4.mono (by simp; omega))
  refine wp_loop_rounds 1 ?_
  rw [rounds_succ]
  go_wp2_with fail
  go_ret
  exact ⟨rfl, hb5⟩

/-- An error's value: none, or one that reads as path and code. -/
def ErrR (w : World) (p : List (ByteArray × Int)) (c : Int) (v : Value) : Prop := (c = 0 ∧ p = [] ∧ v = .nilIface) ∨ (c ≠ 0 ∧ ErrAt w p (.iface 31 (.int .i64 c)) v)

theorem ErrR.keep {w w' : World} {p : List (ByteArray × Int)} {c : Int} {v : Value} (h : ErrR w p c v) (hb : Below w.heap.size w w') : ErrR w' p c v := by
  rcases h with h | ⟨h1, h2⟩
  · exact .inl h
  · exact .inr ⟨h1, h2.below hb⟩

/-- The two errors are alike. -/
theorem Err_res {p : List (ByteArray × Int)} {c : Int} {v : Value} {A : Option Addr} {cap : Nat} (hp : p.length ≤ 1000000000000) (w : World) (hg : Gl w) (he : ErrR w p c v) (hr : Rd w 2 A p.length (flatP p)) :
    Calls Tryz.prog 11 #[v, .agg #[.int .i64 c, .slice A p.length cap]] w fun e w' => e = .returned (.bool true) ∧ Below w.heap.size w w' := by
  rcases he with ⟨rfl, rfl, rfl⟩ | ⟨h1, h2⟩
  · exact Err_none w hg
  · exact Err_some hp h1 w hg h2 hr

end Go.Proofs.YtnccebfapihpjaaGreatDoor
