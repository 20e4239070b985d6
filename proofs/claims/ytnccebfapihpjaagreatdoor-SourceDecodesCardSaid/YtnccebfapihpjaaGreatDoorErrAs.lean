/- errors.as and errors.As over a chain of Faults, by Go's own text: which error is found, what the target holds then, and that nothing else turns. -/
import Derived.Test.YtnccebfapihpjaaGreatDoorAs
import Derived.Deep.LoopGhost
import Derived.Outline
namespace Go.Proofs.YtnccebfapihpjaaGreatDoor
open Go Go.RowKit Go.Extern.Stop Go.Stop Go.Extern

/-- The value v is an error: Faults that wrap one another, their steps the path's, the outermost first; at the end of the chain stands t. -/
def ErrAt (w : World) : List (ByteArray × Int) → Value → Value → Prop
  | [], t, v => v = t
  | (s, p) :: r, t, v => ∃ b u, v = .iface 105 (.pointer (some ⟨b, 0, none⟩)) ∧ Blk w b 108 #[.string s, .int .i64 p, u] ∧ ErrAt w r t u

theorem ErrAt.keep {w w' : World} (hb : ∀ b cs, Blk w b 108 cs → Blk w' b 108 cs) {t : Value} : ∀ {path : List (ByteArray × Int)} {v : Value}, ErrAt w path t v → ErrAt w' path t v
  | [], _, h => h
  | (_, _) :: _, _, ⟨b, u, hv, hB, hr⟩ => ⟨b, u, hv, hb _ _ hB, ErrAt.keep hb hr⟩
theorem ErrAt.below {w w' : World} (h0 : Below w.heap.size w w') {t v : Value} {path : List (ByteArray × Int)} (h : ErrAt w path t v) : ErrAt w' path t v := h.keep fun _ _ hB => hB.keep h0

/-- Only block g, and what is new, has turned; and block g holds one cell now. -/
def SetTo (w : World) (g : Nat) (t : TypeId) (v : Value) (w' : World) : Prop := w.grownBy w' (some g) ∧ Blk w' g t #[v]

theorem ErrAt.iface {w : World} {T : TypeId} {x v : Value} : ∀ {path : List (ByteArray × Int)}, ErrAt w path (.iface T x) v → ∃ T' x', v = .iface T' x'
  | [], h => ⟨T, x, h⟩
  | _ :: _, ⟨_, _, hv, _⟩ => ⟨_, _, hv⟩

theorem unwrap_any (b : Nat) (s : ByteArray) (p : Int) (u : Value) (w : World) (hB : Blk w b 108 #[.string s, .int .i64 p, u]) :
    Calls Tryz.prog 121 #[.pointer (some ⟨b, 0, none⟩)] w fun e w' => e = .returned u ∧ w = w' := by
  have hc : w.cell? ⟨b, 2, none⟩ = some u := by rw [hB.cell]; rfl
  go_enter Tryz.func121, Tryz.ntmps121
  go_wp2
  go_ret
  exact ⟨rfl, rfl⟩

set_option maxHeartbeats 1000000 in
theorem as_code {path : List (ByteArray × Int)} {c : Int} {v : Value} {vb tb : Nat} {old : Value} (w : World) (he : ErrAt w path (.iface 31 (.int .i64 c)) v)
    (hv : Blk w vb 104 #[.pointer (some ⟨tb, 0, none⟩)]) (ht : Blk w tb 31 #[old]) :
    Calls Tryz.prog 78 #[v, .iface 104 (.pointer (some ⟨tb, 0, none⟩)), .agg #[.pointer (some ⟨4, 104, none⟩), .pointer (some ⟨vb, 0, none⟩), .int .u64 150], .iface 136 (.agg #[.pointer (some ⟨4, 31, none⟩)])] w
      fun e w' => e = .returned (.bool true) ∧ SetTo w tb 31 (.int .i64 c) w' := by
  have h31 := @run_callFunc_extern Tryz.prog 85 _ ReflectliteType.typeOf Tryz.func85 (by kernel_rfl) (by kernel_rfl) (by kernel_rfl) (by kernel_rfl)
  have h58 := @run_callFunc_extern Tryz.prog 126 _ (ReflectliteType.relation "AssignableTo" ReflectliteType.assignableTo) Tryz.func126 (by kernel_rfl) (by kernel_rfl) (by kernel_rfl) (by kernel_rfl)
  have h32 := @run_callFunc_extern Tryz.prog 86 _ (ReflectliteValue.method (ReflectliteValue.valueError "reflectlite.Value.Elem" 0) ReflectliteValue.elem) Tryz.func86 (by kernel_rfl) (by kernel_rfl) (by kernel_rfl) (by kernel_rfl)
  have h33 := @run_callFunc_extern Tryz.prog 87 _ ReflectliteValue.set Tryz.func87 (by kernel_rfl) (by kernel_rfl) (by kernel_rfl) (by kernel_rfl)
  have h27 := @run_callFunc_extern Tryz.prog 75 _ (fun args => ReflectliteValue.unpack (args.getD 0 (.tuple #[]))) Tryz.func75 (by kernel_rfl) (by kernel_rfl) (by kernel_rfl) (by kernel_rfl)
  have tF := typeOfFP
  have tC := typeOfC
  have mA := mAssignableTo
  have aF := assFPC
  have aC := assCC
  have n1 := noAsFP
  have n2 := hasUnwrapFP
  have n3 := mUnwrapFP
  have vC := valueOfC
  go_enter Tryz.func78, Tryz.ntmps78
  go_wp2_with fail
  go_loopg [0] path.length (fun k v wr => ∃ r, r.length = k ∧ ErrAt w r (.iface 31 (.int .i64 c)) v ∧ wr = (w.alloc (.cells #[.pointer (some ⟨4, 104, none⟩), .pointer (some ⟨vb, 0, none⟩), .int .u64 150] 121)))
  case atStart => exact ⟨path, rfl, he, rfl⟩
  case round =>
    obtain ⟨r, hr, hE, rfl⟩ := hrel
    cases r with
    | nil =>
      obtain rfl : _ = _ := hE
      have hvb := hv.lt
      have htb := ht.lt
      have el := elemVCP ⟨vb, 0, none⟩ ⟨tb, 0, none⟩ (w.alloc (.cells #[.pointer (some ⟨4, 104, none⟩), .pointer (some ⟨vb, 0, none⟩), .int .u64 150] 121)) (by rw [(hv.alloc _).cell]; rfl)
      have st := setC ⟨tb, 0, none⟩ ⟨w.heap.size + 1, 0, none⟩ c old ((w.alloc (.cells #[.pointer (some ⟨4, 104, none⟩), .pointer (some ⟨vb, 0, none⟩), .int .u64 150] 121)).alloc (.cells #[.int .i64 c] 31))
        (by rw [World.cell?_alloc_at _ _ _ _ (by simp)]; rfl) (by rw [((ht.alloc _).alloc _).cell]; rfl) (((ht.alloc _).alloc _).frozen 0)
      go_wp2_with fail
      go_ret
      refine ⟨rfl, ?_, ?_⟩
      · exact only_alloc (only_alloc (only_setCell (World.grownBy.refl w _) (.inl rfl) _) _) _
      · exact ((ht.store 0 _).alloc _).alloc _
    | cons x r =>
      obtain ⟨s, p⟩ := x
      obtain ⟨b, u, rfl, hB, hE'⟩ := hE
      obtain ⟨T, x, rfl⟩ := hE'.iface
      go_wp2_with (go_at_call 121; refine (unwrap_any b s p _ _ (hB.alloc _)).mono ?_; rintro e w' ⟨rfl, rfl⟩)
      go_roundg r.length
      case measure => simp at hr; omega
      case rel => exact ⟨r, rfl, hE', rfl⟩

set_option maxHeartbeats 1000000 in
/-- The target '**fault.Fault', an error that is a Fault: it is found at once. -/
theorem as_fault {b vb tb : Nat} {old : Value} (w : World) (hv : Blk w vb 106 #[.pointer (some ⟨tb, 0, none⟩)]) (ht : Blk w tb 105 #[old]) :
    Calls Tryz.prog 78 #[.iface 105 (.pointer (some ⟨b, 0, none⟩)), .iface 106 (.pointer (some ⟨tb, 0, none⟩)), .agg #[.pointer (some ⟨4, 106, none⟩), .pointer (some ⟨vb, 0, none⟩), .int .u64 150], .iface 136 (.agg #[.pointer (some ⟨4, 105, none⟩)])] w
      fun e w' => e = .returned (.bool true) ∧ SetTo w tb 105 (.pointer (some ⟨b, 0, none⟩)) w' := by
  have h31 := @run_callFunc_extern Tryz.prog 85 _ ReflectliteType.typeOf Tryz.func85 (by kernel_rfl) (by kernel_rfl) (by kernel_rfl) (by kernel_rfl)
  have h58 := @run_callFunc_extern Tryz.prog 126 _ (ReflectliteType.relation "AssignableTo" ReflectliteType.assignableTo) Tryz.func126 (by kernel_rfl) (by kernel_rfl) (by kernel_rfl) (by kernel_rfl)
  have h32 := @run_callFunc_extern Tryz.prog 86 _ (ReflectliteValue.method (ReflectliteValue.valueError "reflectlite.Value.Elem" 0) ReflectliteValue.elem) Tryz.func86 (by kernel_rfl) (by kernel_rfl) (by kernel_rfl) (by kernel_rfl)
  have h33 := @run_callFunc_extern Tryz.prog 87 _ ReflectliteValue.set Tryz.func87 (by kernel_rfl) (by kernel_rfl) (by kernel_rfl) (by kernel_rfl)
  have h27 := @run_callFunc_extern Tryz.prog 75 _ (fun args => ReflectliteValue.unpack (args.getD 0 (.tuple #[]))) Tryz.func75 (by kernel_rfl) (by kernel_rfl) (by kernel_rfl) (by kernel_rfl)
  have tF := typeOfFP
  have mA := mAssignableTo
  have aF := assFPFP
  have vF := valueOfFP
  have hvb := hv.lt
  have htb := ht.lt
  have el := elemVPP ⟨vb, 0, none⟩ ⟨tb, 0, none⟩ (w.alloc (.cells #[.pointer (some ⟨4, 106, none⟩), .pointer (some ⟨vb, 0, none⟩), .int .u64 150] 121)) (by rw [(hv.alloc _).cell]; rfl)
  have st := setFP ⟨tb, 0, none⟩ ⟨w.heap.size + 1, 0, none⟩ ⟨b, 0, none⟩ old ((w.alloc (.cells #[.pointer (some ⟨4, 106, none⟩), .pointer (some ⟨vb, 0, none⟩), .int .u64 150] 121)).alloc (.cells #[.pointer (some ⟨b, 0, none⟩)] 105))
    (by rw [World.cell?_alloc_at _ _ _ _ (by simp)]; rfl) (by rw [((ht.alloc _).alloc _).cell]; rfl) (((ht.alloc _).alloc _).frozen 0)
  go_enter Tryz.func78, Tryz.ntmps78
  go_wp2_with fail
  refine wp_loop_rounds 1 ?_
  rw [rounds_succ]
  go_wp2_with fail
  go_ret
  refine ⟨rfl, ?_, ?_⟩
  · exact only_alloc (only_alloc (only_setCell (World.grownBy.refl w _) (.inl rfl) _) _) _
  · exact ((ht.store 0 _).alloc _).alloc _

set_option maxHeartbeats 1000000 in
/-- The target '**fault.Fault', an error that is a code: none is found. -/
theorem as_fault_code {c : Int} {vb tb : Nat} (w : World) :
    Calls Tryz.prog 78 #[.iface 31 (.int .i64 c), .iface 106 (.pointer (some ⟨tb, 0, none⟩)), .agg #[.pointer (some ⟨4, 106, none⟩), .pointer (some ⟨vb, 0, none⟩), .int .u64 150], .iface 136 (.agg #[.pointer (some ⟨4, 105, none⟩)])] w
      fun e w' => e = .returned (.bool false) ∧ Below w.heap.size w w' := by
  have h31 := @run_callFunc_extern Tryz.prog 85 _ ReflectliteType.typeOf Tryz.func85 (by kernel_rfl) (by kernel_rfl) (by kernel_rfl) (by kernel_rfl)
  have h58 := @run_callFunc_extern Tryz.prog 126 _ (ReflectliteType.relation "AssignableTo" ReflectliteType.assignableTo) Tryz.func126 (by kernel_rfl) (by kernel_rfl) (by kernel_rfl) (by kernel_rfl)
  have tC := typeOfC
  have mA := mAssignableTo
  have aF := assCFP
  have n1 := noAsC
  have n2 := noUnwrapC
  have n3 := noUnwrapsC
  go_enter Tryz.func78, Tryz.ntmps78
  go_wp2_with fail
  refine wp_loop_rounds 1 ?_
  rw [rounds_succ]
  go_wp2_with fail
  go_ret
  exact ⟨rfl, (Below.refl _ _).alloc (Nat.le_refl _) _⟩

/-! ### errors.As -/
set_option maxHeartbeats 1000000 in
theorem As_code {path : List (ByteArray × Int)} {c : Int} {v : Value} {tb : Nat} {old : Value} (w : World) (hg : Gl w) (he : ErrAt w path (.iface 31 (.int .i64 c)) v) (ht : Blk w tb 31 #[old]) :
    Calls Tryz.prog 62 #[v, .iface 104 (.pointer (some ⟨tb, 0, none⟩))] w fun e w' => e = .returned (.bool true) ∧ SetTo w tb 31 (.int .i64 c) w' := by
  have h27 := @run_callFunc_extern Tryz.prog 75 _ (fun args => ReflectliteValue.unpack (args.getD 0 (.tuple #[]))) Tryz.func75 (by kernel_rfl) (by kernel_rfl) (by kernel_rfl) (by kernel_rfl)
  have h28 := @run_callFunc_extern Tryz.prog 76 _ (ReflectliteValue.methodAny (ReflectliteValue.valueError "reflectlite.Value.Type" 0) (fun t _ _ _ => ReflectliteType.toType t)) Tryz.func76 (by kernel_rfl) (by kernel_rfl) (by kernel_rfl) (by kernel_rfl)
  have h29 := @run_callFunc_extern Tryz.prog 77 _ (ReflectliteValue.method (ReflectliteValue.valueError "reflectlite.Value.IsNil" 0) ReflectliteValue.isNil) Tryz.func77 (by kernel_rfl) (by kernel_rfl) (by kernel_rfl) (by kernel_rfl)
  have h48 := @run_callFunc_extern Tryz.prog 115 _ (ReflectliteType.abiMethod fun t => do pure (.int .u8 (← Rtype.kind t))) Tryz.func115 (by kernel_rfl) (by kernel_rfl) (by kernel_rfl) (by kernel_rfl)
  have h60 := @run_callFunc_extern Tryz.prog 128 _ (ReflectliteType.method ReflectliteType.elem) Tryz.func128 (by kernel_rfl) (by kernel_rfl) (by kernel_rfl) (by kernel_rfl)
  have h61 := @run_callFunc_extern Tryz.prog 129 _ (ReflectliteType.relation "Implements" ReflectliteType.implements_) Tryz.func129 (by kernel_rfl) (by kernel_rfl) (by kernel_rfl) (by kernel_rfl)
  have f1 := valueOfCP
  have f2 := typeCP
  have f3 := mKind
  have f4 := mElem
  have f5 := mImplements
  have f6 := kindCP
  have f7 := kindC
  have f8 := elemCP
  have f9 := implC
  have hlt : 0 < w.heap.size := lt_of_cell hg
  have htb := ht.lt
  have n8 := isNilCP ⟨w.heap.size, 0, none⟩ ⟨tb, 0, none⟩ ((w.alloc (.cells #[.pointer (some ⟨tb, 0, none⟩)] 104)).alloc (.cells #[.pointer (some ⟨4, 104, none⟩), .pointer (some ⟨w.heap.size, 0, none⟩), .int .u64 150] 121)) (by simp)
  have hg2 : ((w.alloc (.cells #[.pointer (some ⟨tb, 0, none⟩)] 104)).alloc (.cells #[.pointer (some ⟨4, 104, none⟩), .pointer (some ⟨w.heap.size, 0, none⟩), .int .u64 150] 121)).cell? ⟨0, 0, none⟩ = some (.iface 136 (.agg #[.pointer (some ⟨4, 28, none⟩)])) :=
    cell_keep hg (((Below.refl _ _).alloc (Nat.le_refl _) _).alloc (by simp) _)
  obtain ⟨T, x, rfl⟩ := he.iface
  have HE := Lib.hid he
  have HT := Lib.hid ht
  have HG := Lib.hid hg
  clear he ht hg
  go_enter Tryz.func62, Tryz.ntmps62
  go_wp2_with (go_at_call 78; refine (as_code (vb := w.heap.size) _ (ErrAt.keep (fun _ _ hB => (hB.alloc _).alloc _) HE.out) ((Blk.new w _ _).alloc _) ((HT.out.alloc _).alloc _)).mono ?_; rintro e w' ⟨rfl, hs⟩)
  go_ret
  refine ⟨rfl, ?_, hs.2⟩
  exact ⟨hs.1.os, hs.1.tape, hs.1.output, Nat.le_trans (by simp; omega) hs.1.size, fun i hi hne => (hs.1.block i (by simp; omega) hne).trans ((Below.heap_alloc _ _ _ (by simp; omega)).trans (Below.heap_alloc _ _ _ hi))⟩

set_option maxHeartbeats 1000000 in
theorem As_fault {b tb : Nat} {old : Value} (w : World) (hg : Gl w) (ht : Blk w tb 105 #[old]) :
    Calls Tryz.prog 62 #[.iface 105 (.pointer (some ⟨b, 0, none⟩)), .iface 106 (.pointer (some ⟨tb, 0, none⟩))] w fun e w' => e = .returned (.bool true) ∧ SetTo w tb 105 (.pointer (some ⟨b, 0, none⟩)) w' := by
  have h27 := @run_callFunc_extern Tryz.prog 75 _ (fun args => ReflectliteValue.unpack (args.getD 0 (.tuple #[]))) Tryz.func75 (by kernel_rfl) (by kernel_rfl) (by kernel_rfl) (by kernel_rfl)
  have h28 := @run_callFunc_extern Tryz.prog 76 _ (ReflectliteValue.methodAny (ReflectliteValue.valueError "reflectlite.Value.Type" 0) (fun t _ _ _ => ReflectliteType.toType t)) Tryz.func76 (by kernel_rfl) (by kernel_rfl) (by kernel_rfl) (by kernel_rfl)
  have h29 := @run_callFunc_extern Tryz.prog 77 _ (ReflectliteValue.method (ReflectliteValue.valueError "reflectlite.Value.IsNil" 0) ReflectliteValue.isNil) Tryz.func77 (by kernel_rfl) (by kernel_rfl) (by kernel_rfl) (by kernel_rfl)
  have h48 := @run_callFunc_extern Tryz.prog 115 _ (ReflectliteType.abiMethod fun t => do pure (.int .u8 (← Rtype.kind t))) Tryz.func115 (by kernel_rfl) (by kernel_rfl) (by kernel_rfl) (by kernel_rfl)
  have h60 := @run_callFunc_extern Tryz.prog 128 _ (ReflectliteType.method ReflectliteType.elem) Tryz.func128 (by kernel_rfl) (by kernel_rfl) (by kernel_rfl) (by kernel_rfl)
  have h61 := @run_callFunc_extern Tryz.prog 129 _ (ReflectliteType.relation "Implements" ReflectliteType.implements_) Tryz.func129 (by kernel_rfl) (by kernel_rfl) (by kernel_rfl) (by kernel_rfl)
  have f1 := valueOfPP
  have f2 := typePP
  have f3 := mKind
  have f4 := mElem
  have f5 := mImplements
  have f6 := kindPP
  have f7 := kindFP
  have f8 := elemPP
  have f9 := implFP
  have hlt : 0 < w.heap.size := lt_of_cell hg
  have htb := ht.lt
  have n8 := isNilPP ⟨w.heap.size, 0, none⟩ ⟨tb, 0, none⟩ ((w.alloc (.cells #[.pointer (some ⟨tb, 0, none⟩)] 106)).alloc (.cells #[.pointer (some ⟨4, 106, none⟩), .pointer (some ⟨w.heap.size, 0, none⟩), .int .u64 150] 121)) (by simp)
  have hg2 : ((w.alloc (.cells #[.pointer (some ⟨tb, 0, none⟩)] 106)).alloc (.cells #[.pointer (some ⟨4, 106, none⟩), .pointer (some ⟨w.heap.size, 0, none⟩), .int .u64 150] 121)).cell? ⟨0, 0, none⟩ = some (.iface 136 (.agg #[.pointer (some ⟨4, 28, none⟩)])) :=
    cell_keep hg (((Below.refl _ _).alloc (Nat.le_refl _) _).alloc (by simp) _)
  have HT := Lib.hid ht
  have HG := Lib.hid hg
  clear ht hg
  go_enter Tryz.func62, Tryz.ntmps62
  go_wp2_with (go_at_call 78; refine (as_fault (vb := w.heap.size) _ ((Blk.new w _ _).alloc _) ((HT.out.alloc _).alloc _)).mono ?_; rintro e w' ⟨rfl, hs⟩)
  go_ret
  refine ⟨rfl, ?_, hs.2⟩
  exact ⟨hs.1.os, hs.1.tape, hs.1.output, Nat.le_trans (by simp; omega) hs.1.size, fun i hi hne => (hs.1.block i (by simp; omega) hne).trans ((Below.heap_alloc _ _ _ (by simp; omega)).trans (Below.heap_alloc _ _ _ hi))⟩

set_option maxHeartbeats 1000000 in
theorem As_fault_code {c : Int} {tb : Nat} {old : Value} (w : World) (hg : Gl w) (ht : Blk w tb 105 #[old]) :
    Calls Tryz.prog 62 #[.iface 31 (.int .i64 c), .iface 106 (.pointer (some ⟨tb, 0, none⟩))] w fun e w' => e = .returned (.bool false) ∧ Below w.heap.size w w' := by
  have h27 := @run_callFunc_extern Tryz.prog 75 _ (fun args => ReflectliteValue.unpack (args.getD 0 (.tuple #[]))) Tryz.func75 (by kernel_rfl) (by kernel_rfl) (by kernel_rfl) (by kernel_rfl)
  have h28 := @run_callFunc_extern Tryz.prog 76 _ (ReflectliteValue.methodAny (ReflectliteValue.valueError "reflectlite.Value.Type" 0) (fun t _ _ _ => ReflectliteType.toType t)) Tryz.func76 (by kernel_rfl) (by kernel_rfl) (by kernel_rfl) (by kernel_rfl)
  have h29 := @run_callFunc_extern Tryz.prog 77 _ (ReflectliteValue.method (ReflectliteValue.valueError "reflectlite.Value.IsNil" 0) ReflectliteValue.isNil) Tryz.func77 (by kernel_rfl) (by kernel_rfl) (by kernel_rfl) (by kernel_rfl)
  have h48 := @run_callFunc_extern Tryz.prog 115 _ (ReflectliteType.abiMethod fun t => do pure (.int .u8 (← Rtype.kind t))) Tryz.func115 (by kernel_rfl) (by kernel_rfl) (by kernel_rfl) (by kernel_rfl)
  have h60 := @run_callFunc_extern Tryz.prog 128 _ (ReflectliteType.method ReflectliteType.elem) Tryz.func128 (by kernel_rfl) (by kernel_rfl) (by kernel_rfl) (by kernel_rfl)
  have h61 := @run_callFunc_extern Tryz.prog 129 _ (ReflectliteType.relation "Implements" ReflectliteType.implements_) Tryz.func129 (by kernel_rfl) (by kernel_rfl) (by kernel_rfl) (by kernel_rfl)
  have f1 := valueOfPP
  have f2 := typePP
  have f3 := mKind
  have f4 := mElem
  have f5 := mImplements
  have f6 := kindPP
  have f7 := kindFP
  have f8 := elemPP
  have f9 := implFP
  have hlt : 0 < w.heap.size := lt_of_cell hg
  have htb := ht.lt
  have n8 := isNilPP ⟨w.heap.size, 0, none⟩ ⟨tb, 0, none⟩ ((w.alloc (.cells #[.pointer (some ⟨tb, 0, none⟩)] 106)).alloc (.cells #[.pointer (some ⟨4, 106, none⟩), .pointer (some ⟨w.heap.size, 0, none⟩), .int .u64 150] 121)) (by simp)
  have hg2 : ((w.alloc (.cells #[.pointer (some ⟨tb, 0, none⟩)] 106)).alloc (.cells #[.pointer (some ⟨4, 106, none⟩), .pointer (some ⟨w.heap.size, 0, none⟩), .int .u64 150] 121)).cell? ⟨0, 0, none⟩ = some (.iface 136 (.agg #[.pointer (some ⟨4, 28, none⟩)])) :=
    cell_keep hg (((Below.refl _ _).alloc (Nat.le_refl _) _).alloc (by simp) _)
  have HG := Lib.hid hg
  clear ht hg
  go_enter Tryz.func62, Tryz.ntmps62
  go_wp2_with (go_at_call 78; refine (as_fault_code (vb := w.heap.size) _).mono ?_; rintro e w' ⟨rfl, hs⟩)
  go_ret
  exact ⟨rfl, (((Below.refl _ _).alloc (Nat.le_refl _) _).alloc (by simp) _).trans (hs.mono (by simp; omega))⟩

end Go.Proofs.YtnccebfapihpjaaGreatDoor
