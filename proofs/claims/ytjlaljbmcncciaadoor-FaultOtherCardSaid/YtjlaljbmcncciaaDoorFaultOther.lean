/- The walk of FaultOther: an error that has no code; a nil error. -/
import Derived.Test.YtjlaljbmcncciaaDoorFaultFirst
import Derived.Test.YtjlaljbmcncciaaDoorFaultNone
import Derived.Test.YtjlaljbmcncciaaDoorFaultSaid
namespace Go.Proofs.YtjlaljbmcncciaaDoor
open Go Go.RowKit Go.Extern.Stop Go.Stop Go.Extern

set_option maxHeartbeats 1000000 in
/-- errors.As of an error of errors.New's make, asked for a Fault: none. -/
theorem as_fault_es {a : Value} {vb tb : Nat} (w : World) :
    Calls Tryd.prog 32 #[.iface 56 a, .iface 47 (.pointer (some ⟨tb, 0, none⟩)), .agg #[.pointer (some ⟨4, 47, none⟩), .pointer (some ⟨vb, 0, none⟩), .int .u64 150], .iface 77 (.agg #[.pointer (some ⟨4, 36, none⟩)])] w
      fun e w' => e = .returned (.bool false) ∧ Below w.heap.size w w' := by
  have h31 := @run_callFunc_extern Tryd.prog 27 _ ReflectliteType.typeOf Tryd.func27 (by kernel_rfl) (by kernel_rfl) (by kernel_rfl) (by kernel_rfl)
  have h58 := @run_callFunc_extern Tryd.prog 72 _ (ReflectliteType.relation "AssignableTo" ReflectliteType.assignableTo) Tryd.func72 (by kernel_rfl) (by kernel_rfl) (by kernel_rfl) (by kernel_rfl)
  have tC := typeOfE
  have mA := mAssignableTo
  have aF := assEFP
  have n1 := noAsE
  have n2 := noUnwrapE
  have n3 := noUnwrapsE
  go_enter Tryd.func32, Tryd.ntmps32
  go_wp2_with fail
  refine wp_loop_rounds 1 ?_
  rw [rounds_succ]
  go_wp2_with fail
  go_ret
  exact ⟨rfl, (Below.refl _ _).alloc (Nat.le_refl _) _⟩

set_option maxHeartbeats 1000000 in
theorem As_fault_es {a : Value} {tb : Nat} {old : Value} (w : World) (hg : Gl w) (ht : Blk w tb 36 #[old]) :
    Calls Tryd.prog 21 #[.iface 56 a, .iface 47 (.pointer (some ⟨tb, 0, none⟩))] w fun e w' => e = .returned (.bool false) ∧ Below w.heap.size w w' := by
  have h27 := @run_callFunc_extern Tryd.prog 29 _ (fun args => ReflectliteValue.unpack (args.getD 0 (.tuple #[]))) Tryd.func29 (by kernel_rfl) (by kernel_rfl) (by kernel_rfl) (by kernel_rfl)
  have h28 := @run_callFunc_extern Tryd.prog 30 _ (ReflectliteValue.methodAny (ReflectliteValue.valueError "reflectlite.Value.Type" 0) (fun t _ _ _ => ReflectliteType.toType t)) Tryd.func30 (by kernel_rfl) (by kernel_rfl) (by kernel_rfl) (by kernel_rfl)
  have h29 := @run_callFunc_extern Tryd.prog 31 _ (ReflectliteValue.method (ReflectliteValue.valueError "reflectlite.Value.IsNil" 0) ReflectliteValue.isNil) Tryd.func31 (by kernel_rfl) (by kernel_rfl) (by kernel_rfl) (by kernel_rfl)
  have h48 := @run_callFunc_extern Tryd.prog 63 _ (ReflectliteType.abiMethod fun t => do pure (.int .u8 (← Rtype.kind t))) Tryd.func63 (by kernel_rfl) (by kernel_rfl) (by kernel_rfl) (by kernel_rfl)
  have h60 := @run_callFunc_extern Tryd.prog 74 _ (ReflectliteType.method ReflectliteType.elem) Tryd.func74 (by kernel_rfl) (by kernel_rfl) (by kernel_rfl) (by kernel_rfl)
  have h61 := @run_callFunc_extern Tryd.prog 75 _ (ReflectliteType.relation "Implements" ReflectliteType.implements_) Tryd.func75 (by kernel_rfl) (by kernel_rfl) (by kernel_rfl) (by kernel_rfl)
  have f1 := valueOfPP
  have f2 := typePP
  have f3 := mKind
  have f4 := mElem
  have f5 := mImplements
  have f6 := kindPP
  have f7 := kindFP
  have f8 := elemPP
  have f9 := implFP
  have hlt : 0 < w.heap.size := lt_of_cell hg
  have htb := ht.lt
  have n8 := isNilPP ⟨w.heap.size, 0, none⟩ ⟨tb, 0, none⟩ ((w.alloc (.cells #[.pointer (some ⟨tb, 0, none⟩)] 47)).alloc (.cells #[.pointer (some ⟨4, 47, none⟩), .pointer (some ⟨w.heap.size, 0, none⟩), .int .u64 150] 66)) (by simp)
  have hg2 : ((w.alloc (.cells #[.pointer (some ⟨tb, 0, none⟩)] 47)).alloc (.cells #[.pointer (some ⟨4, 47, none⟩), .pointer (some ⟨w.heap.size, 0, none⟩), .int .u64 150] 66)).cell? ⟨0, 0, none⟩ = some (.iface 77 (.agg #[.pointer (some ⟨4, 27, none⟩)])) :=
    cell_keep hg (((Below.refl _ _).alloc (Nat.le_refl _) _).alloc (by simp) _)
  have HG := Lib.hid hg
  clear ht hg
  go_enter Tryd.func21, Tryd.ntmps21
  go_wp2_with (go_at_call 32; refine (as_fault_es (vb := w.heap.size) _).mono ?_; rintro e w' ⟨rfl, hs⟩)
  go_ret
  exact ⟨rfl, (((Below.refl _ _).alloc (Nat.le_refl _) _).alloc (by simp) _).trans (hs.mono (by simp; omega))⟩
theorem Tail.es (a : Value) : Tail (.iface 56 a) := fun w _ _ hg hb => As_fault_es w hg hb
theorem Of_es {path : Fa.Steps} {a v : Value} (w : World) (hg : Gl w) (he : ErrAt w path (.iface 56 a) v) :
    Calls Tryd.prog 13 #[v] w fun e w' => e = .returned (.int .i64 15) ∧ Below w.heap.size w w' := by
  obtain ⟨T, x, rfl⟩ := he.iface
  exact Of_none (Good := fun w => ErrAt w path (.iface 56 a) (.iface T x)) (fun w _ _ h => as_code_es w h) (fun _ _ h hb => h.below hb) w hg he

set_option maxRecDepth 100000 in
set_option maxHeartbeats 2000000 in
theorem FaultOther_walk {l : Fa.Steps} {s : ByteArray} {A : Option Addr} {cap : Nat} (hn : l.length ≤ 9223372036854775807) (hi : ∀ x ∈ l, Fa.InI x.2) (hs : s.size ≤ 9223372036854775807) (w : World) (hg : Gl w) (hT : Tb w) (hr : Rd w 2 A l.length (flatP l)) :
    Calls Tryd.prog 5 #[.slice A l.length cap, .string s] w fun e w' => e = .returned (.bool true) ∧ Below w.heap.size w w' := by
  have HG := Lib.hid hg
  have HT := Lib.hid hT
  have HR := Lib.hid hr
  have HI := Lib.hid hi
  clear hg hT hr hi
  go_enter Tryd.func5, Tryd.ntmps5
  go_wp2_with fail
  refine (first_true _ HG.out HT.out).mono ?_
  rintro e w1 ⟨rfl, hb1⟩
  go_wp2_with fail
  refine (few_any hn _ (HR.out.keep hb1)).mono ?_
  rintro e w2 ⟨rfl, rfl⟩
  by_cases hf : Fa.few l = true
  · rw [hf]
    have hlen := Fa.few_len hf
    have HP : Hid ((Fa.pathL l).length ≤ 1000000000) := by
      have h1 := Fa.pathL_length HI.out
      have h2 := Fa.few_names hf
      show _ ≤ _
      omega
    clear hf
    by_cases hsz : 20000 < (s.size : Int)
    · go_wp2_with fail
      refine (first_true _ (HG.out.keep hb1) (HT.out.keep hb1)).mono ?_
      rintro e w2 ⟨rfl, hb2⟩
      go_wp2_with fail
      go_ret
      exact ⟨rfl, hb1.trans (hb2.mono hb1.size)⟩
    · go_wp2_with fail
      refine (New_any s _).mono ?_
      rintro e w2 ⟨rfl, hb2⟩
      have hb2' : Below w.heap.size w w2 := hb1.trans (hb2.mono hb1.size)
      obtain ⟨x0, hx0⟩ : ∃ x0 : Addr, (⟨w1.heap.size, 0, none⟩ : Addr) = x0 := ⟨_, rfl⟩
      rw [hx0]
      clear hx0 hb2
      go_wp2_with fail
      go_loopg [6, 7, 8] l.length (fun k v nv i wr => ∃ j, j = k ∧ j ≤ l.length ∧ i = .int .i64 ((j : Int) - 1) ∧ nv = .nilIface ∧ ErrAt wr (l.drop j) (.iface 56 (.pointer (some x0))) v ∧ Below w.heap.size w wr)
      case atStart => exact ⟨l.length, rfl, by omega, by go_num, rfl, by rw [List.drop_length]; rfl, hb2'⟩
      case round =>
        obtain ⟨j, rfl, hjl, rfl, rfl, hE, hb⟩ := hrel
        cases j with
        | zero =>
          rw [List.drop_zero] at hE
          obtain ⟨T, x, rfl⟩ := hE.iface
          have HE := Lib.hid hE
          have HB := Lib.hid hb
          clear hE hb
          go_wp2_with fail
          refine (first_true _ (HG.out.keep HB.out) (HT.out.keep HB.out)).mono ?_
          rintro e w3 ⟨rfl, hb3⟩
          have hb3' := HB.out.trans (hb3.mono HB.out.size)
          go_wp2_with fail
          refine (Text_nil _).mono ?_
          rintro e w4 ⟨rfl, rfl⟩
          have e0 : (Fa.S []).toList = (⟨#[]⟩ : ByteArray).toList := rfl
          rw [show Fa.S [] = (⟨#[]⟩ : ByteArray) from rfl]
          clear e0
          go_wp2_with fail
          refine (Path_any (path := []) (by simp) Tail.nil _ (HG.out.keep hb3') rfl).mono ?_
          unfold PathOut
          rintro e w4 ⟨B, cb, rfl, _, hb4⟩
          have hb4' := hb3'.trans (hb4.mono hb3'.size)
          have hr4 := hb3.trans (hb4.mono hb3.size)
          go_wp2_with fail
          refine (Of_es _ (HG.out.keep hb4') (HE.out.below hr4)).mono ?_
          rintro e w5 ⟨rfl, hb5⟩
          have hb5' := hb4'.trans (hb5.mono hb4'.size)
          have hr5 := hr4.trans (hb5.mono hr4.size)
          go_wp2_with fail
          refine (Is_es _ (HE.out.below hr5)).mono ?_
          rintro e w6 ⟨rfl, rfl⟩
          go_wp2_with fail
          refine (Path_any (path := l) (by omega) (Tail.es _) _ (HG.out.keep hb5') (HE.out.below hr5)).mono ?_
          unfold PathOut
          rintro e w6 ⟨B2, cb2, rfl, _, hb6⟩
          have hb6' := hb5'.trans (hb6.mono hb5'.size)
          have hr6 := hr5.trans (hb6.mono hr5.size)
          go_wp2_with fail
          refine (Text_any (c := 15) HP.out (by omega) HI.out (by unfold Fa.InI; omega) (Tail.es _) _ (HG.out.keep hb6') (HT.out.keep hb6') (HE.out.below hr6) (fun W hg he => Of_es W hg he)).mono ?_
          rintro e w7 ⟨rfl, hb7⟩
          have hb7' := hb6'.trans (hb7.mono hb6'.size)
          have hr7 := hr6.trans (hb7.mono hr6.size)
          go_wp2_with fail
          refine (said_any HP.out (by omega) HI.out (by unfold Fa.InI; omega) _ (HR.out.keep hb7')).mono ?_
          rintro e w8 ⟨rfl, hb8⟩
          have hb8' := hb7'.trans (hb8.mono hb7'.size)
          have hr8 := hr7.trans (hb8.mono hr7.size)
          go_wp2_with fail
          refine (FIs_es _ (HE.out.below hr8)).mono ?_
          rintro e w9 ⟨rfl, rfl⟩
          go_wp2_with fail
          go_ret
          exact ⟨rfl, hb8'⟩
        | succ j =>
          obtain ⟨b2, o2, rfl, h2⟩ := HR.out.2 (by omega)
          have hlt : j < l.length := by omega
          have k1 := cell_keep (h2 _ _ (flatP_get l j hlt).1) hb
          have q1 := cell_keep (h2 _ _ (flatP_get l j hlt).2) hb
          rw [← Nat.add_assoc] at q1
          have hlt' : (j : Int) < (l.length : Int) := by omega
          rw [show ((j + 1 : Nat) : Int) - 1 = (j : Int) by omega]
          obtain ⟨T, x, rfl⟩ := hE.iface
          have HE := Lib.hid hE
          have HB := Lib.hid hb
          clear h2 hE hb
          go_wp2_with fail
          go_region_held3 (fun W => W.cell? ⟨b2, o2 + j * 2, none⟩ = some (.string l[j].1) ∧ W.cell? ⟨b2, o2 + j * 2 + 1, none⟩ = some (.int .i64 l[j].2))
            (first | go_keep | (go_split_ands; refine ⟨cell_keep (by assumption) hb1', cell_keep (by assumption) hb1'⟩))
            ((go_at_call 18; refine (In_some _ _ _ _ _).mono ?_; rintro e w3 ⟨rfl, hB1, hb1'⟩))
          have hb3 : Below w.heap.size w w3 := HB.out.drew.trans (hb1'.mono HB.out.size)
          have HE3 : Hid (ErrAt w3 (l.drop j) (.iface 56 (.pointer (some x0))) (.iface 36 (.pointer (some ⟨wr.heap.size, 0, none⟩)))) := by
            rw [List.drop_eq_getElem_cons hlt]
            exact ⟨_, _, rfl, hB1, HE.out.below ((Below.refl wr.heap.size wr).drew.trans hb1')⟩
          have HB3 := Lib.hid hb3
          clear hb3 hB1
          go_wp2_with fail
          go_region_held3 (fun W => W.cell? ⟨b2, o2 + j * 2, none⟩ = some (.string l[j].1) ∧ W.cell? ⟨b2, o2 + j * 2 + 1, none⟩ = some (.int .i64 l[j].2))
            (first | go_keep | (go_split_ands; refine ⟨cell_keep (by assumption) hb1', cell_keep (by assumption) hb1'⟩))
            ((go_at_call 18; refine (In_nil _ _ _).mono ?_; rintro e w4 ⟨rfl, rfl⟩))
          go_wp2_with fail
          go_roundg j
          case measure => omega
          case rel => exact ⟨j, rfl, by omega, rfl, rfl, HE3.out.below ((Below.refl _ _).drew), HB3.out.drew⟩
  · have hf' : Fa.few l = false := by simpa using hf
    rw [hf']
    clear hf hf'
    go_wp2_with fail
    refine (first_true _ (HG.out.keep hb1) (HT.out.keep hb1)).mono ?_
    rintro e w2 ⟨rfl, hb2⟩
    go_wp2_with fail
    go_ret
    exact ⟨rfl, hb1.trans (hb2.mono hb1.size)⟩

end Go.Proofs.YtjlaljbmcncciaaDoor
