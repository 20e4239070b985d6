/- Errors that have no code: a Fault that wraps nothing, an error of errors.New's make: errors.As finds none, fault.Of says ErrOther. -/
import Derived.Test.YtjlaljbmcncciaaDoorFaultOps
namespace Go.Proofs.YtjlaljbmcncciaaDoor
open Go Go.RowKit Go.Extern.Stop Go.Stop Go.Extern

/-- The handle of a value made new. -/
def vCP (vb : Nat) : Value := .agg #[.pointer (some ⟨4, 52, none⟩), .pointer (some ⟨vb, 0, none⟩), .int .u64 150]

set_option maxHeartbeats 1000000 in
theorem as_code_nil {path : List (ByteArray × Int)} {v : Value} {vb tb : Nat} (hp : path ≠ []) (w : World) (he : ErrAt w path .nilIface v) :
    Calls Tryd.prog 32 #[v, .iface 52 (.pointer (some ⟨tb, 0, none⟩)), .agg #[.pointer (some ⟨4, 52, none⟩), .pointer (some ⟨vb, 0, none⟩), .int .u64 150], .iface 77 (.agg #[.pointer (some ⟨4, 23, none⟩)])] w
      fun e w' => e = .returned (.bool false) ∧ Below w.heap.size w w' := by
  have h31 := @run_callFunc_extern Tryd.prog 27 _ ReflectliteType.typeOf Tryd.func27 (by kernel_rfl) (by kernel_rfl) (by kernel_rfl) (by kernel_rfl)
  have h58 := @run_callFunc_extern Tryd.prog 72 _ (ReflectliteType.relation "AssignableTo" ReflectliteType.assignableTo) Tryd.func72 (by kernel_rfl) (by kernel_rfl) (by kernel_rfl) (by kernel_rfl)
  have tF := typeOfFP
  have mA := mAssignableTo
  have aF := assFPC
  have n1 := noAsFP
  have n2 := hasUnwrapFP
  have n3 := mUnwrapFP
  go_enter Tryd.func32, Tryd.ntmps32
  go_wp2_with fail
  go_loopg [0] path.length (fun k v wr => ∃ r, r.length = k ∧ r ≠ [] ∧ ErrAt w r .nilIface v ∧ wr = (w.alloc (.cells #[.pointer (some ⟨4, 52, none⟩), .pointer (some ⟨vb, 0, none⟩), .int .u64 150] 66)))
  case atStart => exact ⟨path, rfl, hp, he, rfl⟩
  case round =>
    obtain ⟨r, hr, hne, hE, rfl⟩ := hrel
    cases r with
    | nil => exact absurd rfl hne
    | cons x r =>
      obtain ⟨s, p⟩ := x
      obtain ⟨b, u, rfl, hB, hE'⟩ := hE
      clear hne
      cases r with
      | nil =>
        obtain rfl : _ = _ := hE'
        go_wp2_with (go_at_call 16; refine (unwrap_any b s p _ _ (hB.alloc _)).mono ?_; rintro e w' ⟨rfl, rfl⟩)
        go_ret
        exact ⟨rfl, (Below.refl _ _).alloc (Nat.le_refl _) _⟩
      | cons y r =>
        obtain ⟨T, x, rfl⟩ : ∃ T x, u = .iface T x := by obtain ⟨_, _, h, _⟩ := hE'; exact ⟨_, _, h⟩
        go_wp2_with (go_at_call 16; refine (unwrap_any b s p _ _ (hB.alloc _)).mono ?_; rintro e w' ⟨rfl, rfl⟩)
        go_roundg (r.length + 1)
        case measure => simp at hr; omega
        case rel => exact ⟨y :: r, rfl, by simp, hE', rfl⟩

set_option maxHeartbeats 1000000 in
theorem as_code_es {path : List (ByteArray × Int)} {a v : Value} {vb tb : Nat} (w : World) (he : ErrAt w path (.iface 56 a) v) :
    Calls Tryd.prog 32 #[v, .iface 52 (.pointer (some ⟨tb, 0, none⟩)), .agg #[.pointer (some ⟨4, 52, none⟩), .pointer (some ⟨vb, 0, none⟩), .int .u64 150], .iface 77 (.agg #[.pointer (some ⟨4, 23, none⟩)])] w
      fun e w' => e = .returned (.bool false) ∧ Below w.heap.size w w' := by
  have h31 := @run_callFunc_extern Tryd.prog 27 _ ReflectliteType.typeOf Tryd.func27 (by kernel_rfl) (by kernel_rfl) (by kernel_rfl) (by kernel_rfl)
  have h58 := @run_callFunc_extern Tryd.prog 72 _ (ReflectliteType.relation "AssignableTo" ReflectliteType.assignableTo) Tryd.func72 (by kernel_rfl) (by kernel_rfl) (by kernel_rfl) (by kernel_rfl)
  have tF := typeOfFP
  have tE := typeOfE
  have mA := mAssignableTo
  have aF := assFPC
  have aE := assEC
  have n1 := noAsFP
  have n2 := hasUnwrapFP
  have n3 := mUnwrapFP
  have n4 := noAsE
  have n5 := noUnwrapE
  have n6 := noUnwrapsE
  go_enter Tryd.func32, Tryd.ntmps32
  go_wp2_with fail
  go_loopg [0] path.length (fun k v wr => ∃ r, r.length = k ∧ ErrAt w r (.iface 56 a) v ∧ wr = (w.alloc (.cells #[.pointer (some ⟨4, 52, none⟩), .pointer (some ⟨vb, 0, none⟩), .int .u64 150] 66)))
  case atStart => exact ⟨path, rfl, he, rfl⟩
  case round =>
    obtain ⟨r, hr, hE, rfl⟩ := hrel
    cases r with
    | nil =>
      obtain rfl : _ = _ := hE
      go_wp2_with fail
      go_ret
      exact ⟨rfl, (Below.refl _ _).alloc (Nat.le_refl _) _⟩
    | cons x r =>
      obtain ⟨s, p⟩ := x
      obtain ⟨b, u, rfl, hB, hE'⟩ := hE
      obtain ⟨T, x, rfl⟩ := hE'.iface
      go_wp2_with (go_at_call 16; refine (unwrap_any b s p _ _ (hB.alloc _)).mono ?_; rintro e w' ⟨rfl, rfl⟩)
      go_roundg r.length
      case measure => simp at hr; omega
      case rel => exact ⟨r, rfl, hE', rfl⟩

/-- What errors.as says of an error asked for a code: none. -/
def NoCode (v : Value) (Good : World → Prop) : Prop := ∀ (w : World) (vb tb : Nat), Good w →
  Calls Tryd.prog 32 #[v, .iface 52 (.pointer (some ⟨tb, 0, none⟩)), .agg #[.pointer (some ⟨4, 52, none⟩), .pointer (some ⟨vb, 0, none⟩), .int .u64 150], .iface 77 (.agg #[.pointer (some ⟨4, 23, none⟩)])] w
      fun e w' => e = .returned (.bool false) ∧ Below w.heap.size w w'

set_option maxHeartbeats 1000000 in
theorem As_code_none {T : TypeId} {x : Value} {Good : World → Prop} {tb : Nat} {old : Value} (hn : NoCode (.iface T x) Good) (hk : ∀ w w', Good w → Below w.heap.size w w' → Good w') (w : World) (hg : Gl w) (hgd : Good w) (ht : Blk w tb 23 #[old]) :
    Calls Tryd.prog 21 #[.iface T x, .iface 52 (.pointer (some ⟨tb, 0, none⟩))] w fun e w' => e = .returned (.bool false) ∧ Below w.heap.size w w' := by
  have h27 := @run_callFunc_extern Tryd.prog 29 _ (fun args => ReflectliteValue.unpack (args.getD 0 (.tuple #[]))) Tryd.func29 (by kernel_rfl) (by kernel_rfl) (by kernel_rfl) (by kernel_rfl)
  have h28 := @run_callFunc_extern Tryd.prog 30 _ (ReflectliteValue.methodAny (ReflectliteValue.valueError "reflectlite.Value.Type" 0) (fun t _ _ _ => ReflectliteType.toType t)) Tryd.func30 (by kernel_rfl) (by kernel_rfl) (by kernel_rfl) (by kernel_rfl)
  have h29 := @run_callFunc_extern Tryd.prog 31 _ (ReflectliteValue.method (ReflectliteValue.valueError "reflectlite.Value.IsNil" 0) ReflectliteValue.isNil) Tryd.func31 (by kernel_rfl) (by kernel_rfl) (by kernel_rfl) (by kernel_rfl)
  have h48 := @run_callFunc_extern Tryd.prog 63 _ (ReflectliteType.abiMethod fun t => do pure (.int .u8 (← Rtype.kind t))) Tryd.func63 (by kernel_rfl) (by kernel_rfl) (by kernel_rfl) (by kernel_rfl)
  have h60 := @run_callFunc_extern Tryd.prog 74 _ (ReflectliteType.method ReflectliteType.elem) Tryd.func74 (by kernel_rfl) (by kernel_rfl) (by kernel_rfl) (by kernel_rfl)
  have h61 := @run_callFunc_extern Tryd.prog 75 _ (ReflectliteType.relation "Implements" ReflectliteType.implements_) Tryd.func75 (by kernel_rfl) (by kernel_rfl) (by kernel_rfl) (by kernel_rfl)
  have f1 := valueOfCP
  have f2 := typeCP
  have f3 := mKind
  have f4 := mElem
  have f5 := mImplements
  have f6 := kindCP
  have f7 := kindC
  have f8 := elemCP
  have f9 := implC
  have hlt : 0 < w.heap.size := lt_of_cell hg
  have htb := ht.lt
  have n8 := isNilCP ⟨w.heap.size, 0, none⟩ ⟨tb, 0, none⟩ ((w.alloc (.cells #[.pointer (some ⟨tb, 0, none⟩)] 52)).alloc (.cells #[.pointer (some ⟨4, 52, none⟩), .pointer (some ⟨w.heap.size, 0, none⟩), .int .u64 150] 66)) (by simp)
  have hbw : Below w.heap.size w ((w.alloc (.cells #[.pointer (some ⟨tb, 0, none⟩)] 52)).alloc (.cells #[.pointer (some ⟨4, 52, none⟩), .pointer (some ⟨w.heap.size, 0, none⟩), .int .u64 150] 66)) := ((Below.refl _ _).alloc (Nat.le_refl _) _).alloc (by simp) _
  have hg2 : ((w.alloc (.cells #[.pointer (some ⟨tb, 0, none⟩)] 52)).alloc (.cells #[.pointer (some ⟨4, 52, none⟩), .pointer (some ⟨w.heap.size, 0, none⟩), .int .u64 150] 66)).cell? ⟨0, 0, none⟩ = some (.iface 77 (.agg #[.pointer (some ⟨4, 27, none⟩)])) := cell_keep hg hbw
  have HD := Lib.hid (hk _ _ hgd hbw)
  have HN := Lib.hid hn
  have HB := Lib.hid hbw
  clear ht hg hgd hn hk hbw
  go_enter Tryd.func21, Tryd.ntmps21
  go_wp2_with (go_at_call 32; refine (HN.out _ w.heap.size tb HD.out).mono ?_; rintro e w' ⟨rfl, hs⟩)
  go_ret
  exact ⟨rfl, HB.out.trans (hs.mono HB.out.size)⟩

theorem Of_none {T : TypeId} {x : Value} {Good : World → Prop} (hn : NoCode (.iface T x) Good) (hk : ∀ w w', Good w → Below w.heap.size w w' → Good w') (w : World) (hg : Gl w) (hgd : Good w) :
    Calls Tryd.prog 13 #[.iface T x] w fun e w' => e = .returned (.int .i64 15) ∧ Below w.heap.size w w' := by
  have HN := Lib.hid hn
  have HK := Lib.hid hk
  have HG := Lib.hid hg
  have HD := Lib.hid hgd
  have hb0 : Below w.heap.size w (w.alloc (.cells #[.int .i64 0] 23)) := (Below.refl _ _).alloc (Nat.le_refl _) _
  have HB := Lib.hid hb0
  clear hn hk hg hgd hb0
  go_enter Tryd.func13, Tryd.ntmps13
  go_wp2_with (go_at_call 21; refine (As_code_none HN.out HK.out _ (HG.out.keep HB.out) (HK.out _ _ HD.out HB.out) (Blk.new w _ _)).mono ?_; rintro e w' ⟨rfl, hs⟩)
  go_ret
  exact ⟨rfl, HB.out.trans (hs.mono HB.out.size)⟩

theorem Seen.none_nil {W : World} {path : Fa.Steps} {v : Value} (hp : path.length ≤ 1000000000000) (hne : path ≠ []) (hg : Gl W) (he : ErrAt W path .nilIface v) : Seen W path 15 v := by
  obtain ⟨T, x, rfl⟩ : ∃ T x, v = .iface T x := by
    cases path with
    | nil => exact absurd rfl hne
    | cons a r => obtain ⟨_, _, h, _⟩ := he; exact ⟨_, _, h⟩
  exact ⟨fun W' hb => Of_none (Good := fun w => ErrAt w path .nilIface (.iface T x)) (fun w _ _ h => as_code_nil hne w h) (fun _ _ h hb => h.below hb) W' (hg.keep hb) (he.below hb),
    fun W' hb => Path_any hp Tail.nil W' (hg.keep hb) (he.below hb)⟩

end Go.Proofs.YtjlaljbmcncciaaDoor
