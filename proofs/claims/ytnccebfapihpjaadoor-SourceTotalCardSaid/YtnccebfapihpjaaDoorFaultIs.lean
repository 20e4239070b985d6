/- errors.Is over a chain of Faults, by Go's own text, at the two targets that the program uses: a code, an error of errors.New's make; errors.Unwrap, errors.New, fault.Is. -/
import Derived.Test.YtnccebfapihpjaaDoorFault
import Derived.Test.YtnccebfapihpjaaDoorFaultLaw
namespace Go.Proofs.YtnccebfapihpjaaDoor
open Go Go.RowKit Go.Extern.Stop Go.Stop Go.Extern

/-! ### '==' between two errors -/
theorem run_equalIn_iface_num {P : Program} (w : World) (d : Nat) {ti tn : TypeId} {ms : Array (String × TypeId)} {i : TypeInfo} {k : IntKind} (a b : Int)
    (hi : P.underlying ti = some (.interface ms)) (hn : P.underlying tn = some (.int k)) (hinfo : P.info? tn = some i) (hcomp : i.comparable = true) :
    (Op.equalIn (d + 2) ti (.iface tn (.int k a)) (.iface tn (.int k b))).run P w = .ok (a == b) w := by
  simp [Op.equalIn, run_underlying hi, run_underlying hn, typeInfo, hinfo, hcomp]
theorem codeComp : (Tryd.prog.info? 42).map (·.comparable) = some true := by kernel_rfl
theorem eqlCC (c d : Int) (w : World) : (binOp .eql 27 (.iface 42 (.int .i64 c)) (.iface 42 (.int .i64 d))).run Tryd.prog w = .ok (.bool (c == d)) w := by
  obtain ⟨i, hi, hc⟩ := Option.map_eq_some_iff.1 codeComp
  simp only [binOp]
  simp [Op.equal, Op.maxDepth, run_equalIn_iface_num w 9998 c d Tryd.underlying27 Tryd.underlying42 hi hc]
theorem eqlFC (x y : Value) (w : World) : (binOp .eql 27 (.iface 41 x) (.iface 42 y)).run Tryd.prog w = .ok (.bool false) w :=
  run_eql_iface_types _ _ x y Tryd.underlying27 (by decide) w

/-! ### What reflectlite.TypeOf(target).Comparable() gives; what the assertions find -/
/-- The model's entry for reflectlite's Comparable. -/
def comparableM (t : TypeId) : Sem Value := do Rtype.noPackHeld "Comparable" t; pure (.bool (← typeInfo t).comparable)
theorem compC (w : World) : ((ReflectliteType.method comparableM) #[.agg #[.pointer (some ⟨4, 42, none⟩)]]).run Tryd.prog w = .ok (.bool true) w := by kernel_rfl
theorem mComparable (h : Value) (w : World) : (Go.method 267 105 (.agg #[h]) "Comparable").run Tryd.prog w = .ok (108, .agg #[h]) w := by kernel_rfl
theorem noIsFP (v : Value) (x : TypeId) (w : World) : (Instr.typeAssert (.iface 41 v) x 107 true).run Tryd.prog w = .ok (.tuple #[.nilIface, .bool false]) w :=
  run_typeAssert_lacksB Tryd.underlying107 (by kernel_rfl) (by kernel_rfl) v x w
theorem noIsC (v : Value) (x : TypeId) (w : World) : (Instr.typeAssert (.iface 42 v) x 107 true).run Tryd.prog w = .ok (.tuple #[.nilIface, .bool false]) w :=
  run_typeAssert_lacksB Tryd.underlying107 (by kernel_rfl) (by kernel_rfl) v x w

/-! ### errors.is, errors.Is -/
set_option maxHeartbeats 1000000 in
theorem is_code {path : List (ByteArray × Int)} {c d : Int} {v : Value} (w : World) (he : ErrAt w path (.iface 42 (.int .i64 c)) v) :
    Calls Tryd.prog 41 #[v, .iface 42 (.int .i64 d), .bool true] w fun e w' => e = .returned (.bool (c == d)) ∧ w = w' := by
  have a1 := eqlCC
  have a2 := eqlFC
  have n1 := noIsFP
  have n2 := noIsC
  have n3 := hasUnwrapFP
  have n4 := mUnwrapFP
  have n5 := noUnwrapC
  have n6 := noUnwrapsC
  go_enter Tryd.func41, Tryd.ntmps41
  go_wp2_with fail
  go_loopg [0] path.length (fun k v wr => ∃ r, r.length = k ∧ ErrAt w r (.iface 42 (.int .i64 c)) v ∧ wr = w)
  case atStart => exact ⟨path, rfl, he, rfl⟩
  case round =>
    obtain ⟨r, hr, hE, rfl⟩ := hrel
    cases r with
    | nil =>
      obtain rfl : _ = _ := hE
      by_cases hcd : c = d
      · have hb : (c == d) = true := by simpa using hcd
        clear hcd
        go_wp2_with fail
        go_ret
        exact ⟨by rw [hb]; rfl, rfl⟩
      · have hb : (c == d) = false := by simpa using hcd
        clear hcd
        go_wp2_with fail
        go_ret
        exact ⟨by rw [hb]; rfl, rfl⟩
    | cons x r =>
      obtain ⟨s, p⟩ := x
      obtain ⟨b, u, rfl, hB, hE'⟩ := hE
      obtain ⟨T, x, rfl⟩ := hE'.iface
      go_wp2_with (go_at_call 101; refine (unwrap_any b s p _ _ hB).mono ?_; rintro e w' ⟨rfl, rfl⟩)
      go_roundg r.length
      case measure => simp at hr; omega
      case rel => exact ⟨r, rfl, hE', rfl⟩

set_option maxHeartbeats 1000000 in
theorem Is_code {path : List (ByteArray × Int)} {c d : Int} {v : Value} (w : World) (he : ErrAt w path (.iface 42 (.int .i64 c)) v) :
    Calls Tryd.prog 17 #[v, .iface 42 (.int .i64 d)] w fun e w' => e = .returned (.bool (c == d)) ∧ w = w' := by
  have h31 := @run_callFunc_extern Tryd.prog 40 _ ReflectliteType.typeOf Tryd.func40 (by kernel_rfl) (by kernel_rfl) (by kernel_rfl) (by kernel_rfl)
  have h32 := @run_callFunc_extern Tryd.prog 108 _ (ReflectliteType.method comparableM) Tryd.func108 (by kernel_rfl) (by kernel_rfl) (by kernel_rfl) (by kernel_rfl)
  have tC := typeOfC
  have mC := mComparable
  have cC := compC
  obtain ⟨T, x, rfl⟩ := he.iface
  have HE := Lib.hid he
  clear he
  go_enter Tryd.func17, Tryd.ntmps17
  go_wp2_with (go_at_call 41; refine (is_code _ HE.out).mono ?_; rintro e w' ⟨rfl, rfl⟩)
  go_ret
  exact ⟨rfl, rfl⟩






end Go.Proofs.YtnccebfapihpjaaDoor
