/- Contracts of the chapter's few and wrapped, of '==' between steps, of slices.Equal at steps and of fault.Same. -/
import Derived.Test.YtjlaljbmcncciaaDoorFaultIs
import Derived.Test.YtjlaljbmcncciaaDoorFaultText2
import Derived.Laws.StructEq
namespace Go.Proofs.YtjlaljbmcncciaaDoor
open Go Go.RowKit Go.Extern.Stop Go.Stop Go.Extern

set_option maxHeartbeats 1000000 in
theorem few_any {l : Fa.Steps} {A : Option Addr} {cap : Nat} (hn : l.length ≤ 9223372036854775807) (w : World) (hr : Rd w 2 A l.length (flatP l)) :
    Calls Tryd.prog 10 #[.slice A l.length cap] w fun e w' => e = .returned (.bool (Fa.few l)) ∧ w = w' := by
  have HR := Lib.hid hr
  clear hr
  go_enter Tryd.func10, Tryd.ntmps10
  go_wp2_with fail
  go_loopg [3, 4] (400 : Nat) (fun k n i wr => ∃ j, j + k = 400 ∧ j ≤ l.length ∧ i = .int .i64 j ∧ n = .int .i64 (Fa.cut (l.take j)) ∧ wr = w)
  case atStart => exact ⟨0, by omega, by omega, rfl, rfl, rfl⟩
  case round =>
    obtain ⟨j, hj, hjl, rfl, rfl, rfl⟩ := hrel
    by_cases hlt : j < l.length ∧ j < 400
    · obtain ⟨hlt, h400⟩ := hlt
      obtain ⟨b2, o2, rfl, h2⟩ := HR.out.2 (by omega)
      have k1 := h2 _ _ (flatP_get l j hlt).1
      have hlt' : (j : Int) < (l.length : Int) := by omega
      have h400' : (j : Int) < 400 := by omega
      have hc0 := Fa.cut_le (l.take j)
      have hc1 : (l.take j).length ≤ 400 := by simp; omega
      have hc : Fa.cut (l.take j) ≤ 8000400 := by have := Nat.mul_le_mul_left 20001 hc1; omega
      clear h2 hc0 hc1
      go_wp2_with fail
      go_roundg (gk - 1)
      case measure => omega
      case rel =>
        refine ⟨j + 1, by omega, by omega, by go_num, ?_, rfl⟩
        rw [List.take_succ_eq_append_getElem hlt, Fa.cut_app, Fa.cut_one]
        congr 1
        omega
    · by_cases hjl' : j = l.length
      · have ht : l.take j = l := by rw [hjl']; exact List.take_length
        have ht4 : l.take 400 = l := List.take_of_length_le (by omega)
        rw [ht]
        have hf : Fa.few l = decide (Fa.cut l ≤ 20000) := by unfold Fa.few; rw [ht4, decide_eq_true (by omega : l.length ≤ 400), Bool.true_and]
        have HF := Lib.hid hf
        have hL : (l.length : Int) ≤ 400 := by omega
        clear ht ht4 hf hlt
        subst hjl'
        by_cases hc : (Fa.cut l : Int) ≤ 20000
        · have hd := Lib.hid (decide_eq_true (by omega : Fa.cut l ≤ 20000))
          go_wp2_with fail
          go_ret
          exact ⟨by rw [HF.out, hd.out]; rfl, rfl⟩
        · have hd := Lib.hid (decide_eq_false (by omega : ¬ Fa.cut l ≤ 20000))
          go_wp2_with fail
          go_ret
          exact ⟨by rw [HF.out, hd.out]; rfl, rfl⟩
      · have hj4 : j = 400 := by omega
        subst hj4
        have hf : Fa.few l = false := by unfold Fa.few; rw [decide_eq_false (by omega : ¬ l.length ≤ 400), Bool.false_and]
        have HF := Lib.hid hf
        have hL : ¬ (l.length : Int) ≤ 400 := by omega
        have hL2 : (400 : Int) < (l.length : Int) := by omega
        clear hf hlt
        go_wp2_with fail
        go_ret
        exact ⟨by rw [HF.out]; rfl, rfl⟩

set_option maxRecDepth 100000 in
set_option maxHeartbeats 1000000 in
theorem wrapped_any {l : Fa.Steps} {c : Int} {A : Option Addr} {cap : Nat} (hn : l.length ≤ 9223372036854775807) (w : World) (hr : Rd w 2 A l.length (flatP l)) :
    Calls Tryd.prog 11 #[.slice A l.length cap, .int .i64 c] w fun e w' => ∃ v, e = .returned v ∧ ErrAt w' l (.iface 23 (.int .i64 c)) v ∧ Below w.heap.size w w' := by
  have HR := Lib.hid hr
  clear hr
  go_enter Tryd.func11, Tryd.ntmps11
  go_wp2_with fail
  go_loopg [5, 6] l.length (fun k v i wr => ∃ j, j = k ∧ j ≤ l.length ∧ i = .int .i64 ((j : Int) - 1) ∧ ErrAt wr (l.drop j) (.iface 23 (.int .i64 c)) v ∧ Below w.heap.size w wr)
  case atStart => exact ⟨l.length, rfl, by omega, by go_num, by rw [List.drop_length]; rfl, Below.refl _ _⟩
  case round =>
    obtain ⟨j, rfl, hjl, rfl, hE, hb⟩ := hrel
    cases j with
    | zero =>
      have HE := Lib.hid hE
      clear hE
      go_wp2_with fail
      go_ret
      exact ⟨_, rfl, HE.out, hb⟩
    | succ j =>
      obtain ⟨b2, o2, rfl, h2⟩ := HR.out.2 (by omega)
      have hlt : j < l.length := by omega
      have k1 := cell_keep (h2 _ _ (flatP_get l j hlt).1) hb
      have q1 := cell_keep (h2 _ _ (flatP_get l j hlt).2) hb
      rw [← Nat.add_assoc] at q1
      have hlt' : (j : Int) < (l.length : Int) := by omega
      rw [show ((j + 1 : Nat) : Int) - 1 = (j : Int) by omega]
      obtain ⟨T, x, rfl⟩ := hE.iface
      have HE := Lib.hid hE
      have HB := Lib.hid hb
      clear h2 hE hb
      go_wp2_with fail
      go_region_held3 (fun W => W.cell? ⟨b2, o2 + j * 2, none⟩ = some (.string l[j].1) ∧ W.cell? ⟨b2, o2 + j * 2 + 1, none⟩ = some (.int .i64 l[j].2))
        (first | go_keep | (go_split_ands; refine ⟨cell_keep (by assumption) hb1, cell_keep (by assumption) hb1⟩))
        ((go_at_call 18; refine (In_some _ _ _ _ _).mono ?_; rintro e w1 ⟨rfl, hB1, hb1⟩))
      go_wp2_with fail
      go_roundg j
      case measure => omega
      case rel =>
        refine ⟨j, rfl, by omega, rfl, ?_, HB.out.drew.trans (hb1.mono HB.out.size)⟩
        rw [List.drop_eq_getElem_cons hlt]
        exact ⟨_, _, rfl, hB1, HE.out.below ((Below.refl wr.heap.size wr).drew.trans hb1)⟩

/-! ### Steps held against one another -/
theorem stepGuard : Tryd.prog.eqGuardType Tryd.prog.depth 34 = false := by kernel_rfl
theorem toList_inj {a b : ByteArray} (h : a.toList = b.toList) : a = b := by
  rw [ByteArray.toList_eq, ByteArray.toList_eq] at h
  obtain ⟨⟨x⟩⟩ := a
  obtain ⟨⟨y⟩⟩ := b
  simp at h
  rw [h]
theorem stepEqIn (a b : ByteArray) (p q : Int) (w : World) : (Op.equalIn 10000 34 (.agg #[.string a, .int .i64 p]) (.agg #[.string b, .int .i64 q])).run Tryd.prog w = .ok (decide ((a, p) = (b, q))) w := by
  have u3 := Tryd.underlying3
  have a3 := Tryd.isAgg3
  have z3 := Tryd.sizeOf3
  have u9 := Tryd.underlying9
  have a9 := Tryd.isAgg9
  have z9 := Tryd.sizeOf9
  have hS : Tryd.prog.underlying 34 = some (.struct (Tryd.prog.fieldsOf 34)) := by kernel_rfl
  have hp : Tryd.prog.stoodInHeld 34 = false := by kernel_rfl
  rw [show (10000 : Nat) = 9999 + 1 from rfl, run_equalIn_agg w 9999 34 _ _ hS hp]
  simp only [Program.fieldsOf, Tryd.underlying34]
  go_simp
  by_cases h1 : a = b
  · subst h1
    by_cases h2 : p = q
    · subst h2; simp
    · simp [h2]
  · have h3 : ¬ a.toList = b.toList := fun h => h1 (toList_inj h)
    simp [h1, h3]

theorem stepEql (a b : ByteArray) (p q : Int) (w : World) : (binOp .eql 34 (.agg #[.string a, .int .i64 p]) (.agg #[.string b, .int .i64 q])).run Tryd.prog w = .ok (.bool (decide ((a, p) = (b, q)))) w := by
  rw [run_eql_struct, stepEqIn]; rfl
theorem stepNeq (a b : ByteArray) (p q : Int) (w : World) : (binOp .neq 34 (.agg #[.string a, .int .i64 p]) (.agg #[.string b, .int .i64 q])).run Tryd.prog w = .ok (.bool (!decide ((a, p) = (b, q)))) w := by
  rw [run_neq_struct, stepEqIn]; rfl
theorem stepGd (op : BinOp) (x y : Operand) (xs ys : Array Value) (w : World) : (eqGuard op 34 x y (.agg xs) (.agg ys)).run Tryd.prog w = .ok () w := run_eqGuard_agg w op _ x y xs ys stepGuard

set_option maxRecDepth 100000 in
set_option maxHeartbeats 1000000 in
/-- slices.Equal at steps. -/
theorem Equal_any {p q : Fa.Steps} {A B : Option Addr} {c d : Nat} (hp : p.length ≤ 1000000000000) (hq : q.length ≤ 1000000000000) (w : World) (hA : Rd w 2 A p.length (flatP p)) (hB : Rd w 2 B q.length (flatP q)) :
    Calls Tryd.prog 33 #[.slice A p.length c, .slice B q.length d] w fun e w' => e = .returned (.bool (decide (p = q))) ∧ Below w.heap.size w w' := by
  have HA := Lib.hid hA
  have HB := Lib.hid hB
  have gd := stepGd
  have nq' := stepNeq
  clear hA hB
  by_cases hl : p.length = q.length
  · go_enter Tryd.func33, Tryd.ntmps33
    go_wp2_with fail
    go_loopg [13] p.length (fun k i wr => ∃ j n : Nat, j + k = p.length ∧ i = .int .i64 j ∧ wr = w.drewN n ∧ p.take j = q.take j)
    case atStart => exact ⟨0, 0, by omega, rfl, rfl, by simp⟩
    case round =>
      obtain ⟨j, n, hj, rfl, rfl, hpq⟩ := hrel
      have HP := Lib.hid hpq
      clear hpq
      by_cases hlt : j < p.length
      · obtain ⟨b2, o2, rfl, h2⟩ := HA.out.2 (by omega)
        obtain ⟨b3, o3, rfl, h3⟩ := HB.out.2 (by omega)
        have hp2 := flatP_get p j hlt
        have hq2 := flatP_get q j (by omega)
        have k1 := h2 _ _ hp2.1
        have k2 := h2 _ _ hp2.2
        have k3 := h3 _ _ hq2.1
        have k4 := h3 _ _ hq2.2
        rw [← Nat.add_assoc] at k2 k4
        have hlt' : (j : Int) < (p.length : Int) := by omega
        have hlq' : (j : Int) < (q.length : Int) := by omega
        clear h2 h3 hp2 hq2
        go_wp2_with fail
        go_quiet (fail)
        by_cases he : p[j] = q[j]
        · have HN := Lib.hid (show p.take (j + 1) = q.take (j + 1) by rw [List.take_succ_eq_append_getElem hlt, List.take_succ_eq_append_getElem (by omega), HP.out, he])
          have eb : (!decide (p[j].1 = q[j].1) || !decide (p[j].2 = q[j].2)) = false := by rw [he]; simp
          rw [eb]
          clear he eb
          go_wp2_with fail
          go_roundg (gk - 1)
          case measure => omega
          case rel => exact ⟨j + 1, n + nq, by omega, by go_num, rfl, HN.out⟩
        · have HN := Lib.hid (decide_eq_false (show ¬ p = q from fun h => he (by subst h; rfl)))
          have eb : (!decide (p[j].1 = q[j].1) || !decide (p[j].2 = q[j].2)) = true := by
            by_cases h1 : p[j].1 = q[j].1
            · have h2 : ¬ p[j].2 = q[j].2 := fun h => he (Prod.ext h1 h)
              simp [h2]
            · simp [h1]
          rw [eb]
          clear he eb
          go_wp2_with fail
          go_ret
          exact ⟨by rw [HN.out]; rfl, below_drewN (below_drewN (Below.refl _ _) n) nq⟩
      · have HN := Lib.hid (decide_eq_true (show p = q by
          have h1 := HP.out
          rw [List.take_of_length_le (by omega), List.take_of_length_le (by omega)] at h1
          exact h1))
        go_wp2_with fail
        go_ret
        exact ⟨by rw [HN.out]; rfl, below_drewN (Below.refl _ _) n⟩
  · have HN := Lib.hid (decide_eq_false (show ¬ p = q from fun h => hl (by rw [h])))
    go_enter Tryd.func33, Tryd.ntmps33
    go_wp2_with fail
    go_ret
    exact ⟨by rw [HN.out]; rfl, Below.refl _ _⟩

/-- What fault.Of and fault.Path find of an error: its code, its path. -/
structure Seen (W : World) (path : Fa.Steps) (c : Int) (v : Value) : Prop where
  of : ∀ W', Below W.heap.size W W' → Calls Tryd.prog 13 #[v] W' fun e w' => e = .returned (.int .i64 c) ∧ Below W'.heap.size W' w'
  path : ∀ W', Below W.heap.size W W' → Calls Tryd.prog 12 #[v] W' (PathOut W' path)
theorem Seen.keep {W W' : World} {path : Fa.Steps} {c : Int} {v : Value} (h : Seen W path c v) (hb : Below W.heap.size W W') : Seen W' path c v :=
  ⟨fun W2 h2 => h.of W2 (hb.trans (h2.mono hb.size)), fun W2 h2 => h.path W2 (hb.trans (h2.mono hb.size))⟩
theorem Seen.code {W : World} {path : Fa.Steps} {c : Int} {v : Value} (hp : path.length ≤ 1000000000000) (hg : Gl W) (he : ErrAt W path (.iface 23 (.int .i64 c)) v) : Seen W path c v :=
  ⟨fun W' hb => Of_code W' (hg.keep hb) (he.below hb), fun W' hb => Path_any hp (Tail.code c) W' (hg.keep hb) (he.below hb)⟩
theorem Seen.nil (W : World) (hg : Gl W) : Seen W [] 0 .nilIface :=
  ⟨fun W' _ => (Of_nil W').mono fun _ _ ⟨he, hw⟩ => ⟨he, hw ▸ Below.refl _ _⟩, fun W' hb => Path_any (by simp) Tail.nil W' (hg.keep hb) rfl⟩

set_option maxRecDepth 100000 in
set_option maxHeartbeats 1000000 in
theorem Same_any {p q : Fa.Steps} {c d : Int} {a b : Value} (hp : p.length ≤ 1000000000000) (hq : q.length ≤ 1000000000000) (w : World) (ha : Seen w p c a) (hb : Seen w q d b) :
    Calls Tryd.prog 23 #[a, b] w fun e w' => e = .returned (.bool (decide (c = d) && decide (p = q))) ∧ Below w.heap.size w w' := by
  have HA := Lib.hid ha
  have HB := Lib.hid hb
  clear ha hb
  by_cases hcd : c = d
  · have hd : (c == d) = true := by simpa using hcd
    have HD := Lib.hid (decide_eq_true hcd)
    clear hcd
    go_enter Tryd.func23, Tryd.ntmps23
    go_wp2_with fail
    refine (HA.out.of _ (Below.refl _ _)).mono ?_
    rintro e w1 ⟨rfl, hb1⟩
    go_wp2_with fail
    refine (HB.out.of _ hb1).mono ?_
    rintro e w2 ⟨rfl, hb2⟩
    have hb2' : Below w.heap.size w w2 := hb1.trans (hb2.mono hb1.size)
    go_wp2_with fail
    refine (HA.out.path _ hb2').mono ?_
    unfold PathOut
    rintro e w3 ⟨A, ca, rfl, hA, hb3⟩
    have HRA := Lib.hid hA
    have hb3' : Below w.heap.size w w3 := hb2'.trans (hb3.mono hb2'.size)
    clear hA
    go_wp2_with fail
    refine (HB.out.path _ hb3').mono ?_
    unfold PathOut
    rintro e w4 ⟨B, cb, rfl, hB, hb4⟩
    have HRB := Lib.hid hB
    have hb4' : Below w.heap.size w w4 := hb3'.trans (hb4.mono hb3'.size)
    clear hB
    go_wp2_with fail
    refine (Equal_any hp hq _ (HRA.out.keep hb4) HRB.out).mono ?_
    rintro e w5 ⟨rfl, hb5⟩
    have hb5' : Below w.heap.size w w5 := hb4'.trans (hb5.mono hb4'.size)
    go_wp2_with fail
    go_ret
    exact ⟨by rw [HD.out, Bool.true_and]; rfl, hb5'⟩
  · have hd : (c == d) = false := by simpa using hcd
    have HD := Lib.hid (decide_eq_false hcd)
    clear hcd
    go_enter Tryd.func23, Tryd.ntmps23
    go_wp2_with fail
    refine (HA.out.of _ (Below.refl _ _)).mono ?_
    rintro e w1 ⟨rfl, hb1⟩
    go_wp2_with fail
    refine (HB.out.of _ hb1).mono ?_
    rintro e w2 ⟨rfl, hb2⟩
    have hb2' : Below w.heap.size w w2 := hb1.trans (hb2.mono hb1.size)
    go_wp2_with fail
    go_ret
    exact ⟨by rw [HD.out, Bool.false_and]; rfl, hb2'⟩

end Go.Proofs.YtjlaljbmcncciaaDoor
