/- errors.Is over a chain of Faults, by Go's own text, at the two targets that the program uses: a code, an error of errors.New's make; errors.Unwrap, errors.New, fault.Is. -/
import Derived.Test.YtjlaljbmcncciaaDoorFault
import Derived.Test.YtjlaljbmcncciaaDoorFaultLaw
namespace Go.Proofs.YtjlaljbmcncciaaDoor
open Go Go.RowKit Go.Extern.Stop Go.Stop Go.Extern

/-! ### '==' between two errors -/
theorem run_equalIn_iface_num {P : Program} (w : World) (d : Nat) {ti tn : TypeId} {ms : Array (String × TypeId)} {i : TypeInfo} {k : IntKind} (a b : Int)
    (hi : P.underlying ti = some (.interface ms)) (hn : P.underlying tn = some (.int k)) (hinfo : P.info? tn = some i) (hcomp : i.comparable = true) :
    (Op.equalIn (d + 2) ti (.iface tn (.int k a)) (.iface tn (.int k b))).run P w = .ok (a == b) w := by
  simp [Op.equalIn, run_underlying hi, run_underlying hn, typeInfo, hinfo, hcomp]
theorem codeComp : (Tryd.prog.info? 23).map (·.comparable) = some true := by kernel_rfl
theorem eqlCC (c d : Int) (w : World) : (binOp .eql 27 (.iface 23 (.int .i64 c)) (.iface 23 (.int .i64 d))).run Tryd.prog w = .ok (.bool (c == d)) w := by
  obtain ⟨i, hi, hc⟩ := Option.map_eq_some_iff.1 codeComp
  simp only [binOp]
  simp [Op.equal, Op.maxDepth, run_equalIn_iface_num w 9998 c d Tryd.underlying27 Tryd.underlying23 hi hc]
theorem eqlFC (x y : Value) (w : World) : (binOp .eql 27 (.iface 36 x) (.iface 23 y)).run Tryd.prog w = .ok (.bool false) w :=
  run_eql_iface_types _ _ x y Tryd.underlying27 (by decide) w
theorem eqlFE (x y : Value) (w : World) : (binOp .eql 27 (.iface 36 x) (.iface 56 y)).run Tryd.prog w = .ok (.bool false) w :=
  run_eql_iface_types _ _ x y Tryd.underlying27 (by decide) w
theorem eqlEC (x y : Value) (w : World) : (binOp .eql 27 (.iface 56 x) (.iface 23 y)).run Tryd.prog w = .ok (.bool false) w :=
  run_eql_iface_types _ _ x y Tryd.underlying27 (by decide) w
theorem esComp : (Tryd.prog.info? 56).map (·.comparable) = some true := by kernel_rfl
theorem esSize : (Tryd.prog.info? 58).map (·.size) = some 1 := by kernel_rfl
theorem eqlEE (a : Addr) (w : World) : (binOp .eql 27 (.iface 56 (.pointer (some a))) (.iface 56 (.pointer (some a)))).run Tryd.prog w = .ok (.bool true) w := by
  obtain ⟨i, hi, hc⟩ := Option.map_eq_some_iff.1 esComp
  obtain ⟨j, hj, hjs⟩ := Option.map_eq_some_iff.1 esSize
  exact run_eql_iface_ptr_same (P := Tryd.prog) w a Tryd.underlying27 Tryd.underlying56 hi hc hj

/-! ### What reflectlite.TypeOf(target).Comparable() gives; what the assertions find -/
/-- The model's entry for reflectlite's Comparable. -/
def comparableM (t : TypeId) : Sem Value := do Rtype.noPackHeld "Comparable" t; pure (.bool (← typeInfo t).comparable)
theorem compC (w : World) : ((ReflectliteType.method comparableM) #[.agg #[.pointer (some ⟨4, 23, none⟩)]]).run Tryd.prog w = .ok (.bool true) w := by kernel_rfl
theorem mComparable (h : Value) (w : World) : (Go.method 236 77 (.agg #[h]) "Comparable").run Tryd.prog w = .ok (73, .agg #[h]) w := by kernel_rfl
theorem noIsFP (v : Value) (x : TypeId) (w : World) : (Instr.typeAssert (.iface 36 v) x 79 true).run Tryd.prog w = .ok (.tuple #[.nilIface, .bool false]) w :=
  run_typeAssert_lacksB Tryd.underlying79 (by kernel_rfl) (by kernel_rfl) v x w
theorem noIsC (v : Value) (x : TypeId) (w : World) : (Instr.typeAssert (.iface 23 v) x 79 true).run Tryd.prog w = .ok (.tuple #[.nilIface, .bool false]) w :=
  run_typeAssert_lacksB Tryd.underlying79 (by kernel_rfl) (by kernel_rfl) v x w
theorem typeOfE (v : Value) (w : World) : (ReflectliteType.typeOf #[.iface 56 v]).run Tryd.prog w = .ok (.iface 77 (.agg #[.pointer (some ⟨4, 56, none⟩)])) w := by kernel_rfl
theorem compE (w : World) : ((ReflectliteType.method comparableM) #[.agg #[.pointer (some ⟨4, 56, none⟩)]]).run Tryd.prog w = .ok (.bool true) w := by kernel_rfl
theorem assEC (w : World) : (ReflectliteType.relation "AssignableTo" ReflectliteType.assignableTo #[.agg #[.pointer (some ⟨4, 56, none⟩)], .iface 77 (.agg #[.pointer (some ⟨4, 23, none⟩)])]).run Tryd.prog w = .ok (.bool false) w := by kernel_rfl
theorem assEFP (w : World) : (ReflectliteType.relation "AssignableTo" ReflectliteType.assignableTo #[.agg #[.pointer (some ⟨4, 56, none⟩)], .iface 77 (.agg #[.pointer (some ⟨4, 36, none⟩)])]).run Tryd.prog w = .ok (.bool false) w := by kernel_rfl
theorem noAsE (v : Value) (x : TypeId) (w : World) : (Instr.typeAssert (.iface 56 v) x 87 true).run Tryd.prog w = .ok (.tuple #[.nilIface, .bool false]) w :=
  run_typeAssert_lacksB Tryd.underlying87 (by kernel_rfl) (by kernel_rfl) v x w
theorem noIsE (v : Value) (x : TypeId) (w : World) : (Instr.typeAssert (.iface 56 v) x 79 true).run Tryd.prog w = .ok (.tuple #[.nilIface, .bool false]) w :=
  run_typeAssert_lacksB Tryd.underlying79 (by kernel_rfl) (by kernel_rfl) v x w
theorem noUnwrapE (v : Value) (x : TypeId) (w : World) : (Instr.typeAssert (.iface 56 v) x 73 true).run Tryd.prog w = .ok (.tuple #[.nilIface, .bool false]) w :=
  run_typeAssert_lacksB Tryd.underlying73 (by kernel_rfl) (by kernel_rfl) v x w
theorem noUnwrapsE (v : Value) (x : TypeId) (w : World) : (Instr.typeAssert (.iface 56 v) x 82 true).run Tryd.prog w = .ok (.tuple #[.nilIface, .bool false]) w :=
  run_typeAssert_lacksB Tryd.underlying82 (by kernel_rfl) (by kernel_rfl) v x w

/-! ### errors.is, errors.Is -/
set_option maxHeartbeats 1000000 in
theorem is_code {path : List (ByteArray × Int)} {c d : Int} {v : Value} (w : World) (he : ErrAt w path (.iface 23 (.int .i64 c)) v) :
    Calls Tryd.prog 28 #[v, .iface 23 (.int .i64 d), .bool true] w fun e w' => e = .returned (.bool (c == d)) ∧ w = w' := by
  have a1 := eqlCC
  have a2 := eqlFC
  have n1 := noIsFP
  have n2 := noIsC
  have n3 := hasUnwrapFP
  have n4 := mUnwrapFP
  have n5 := noUnwrapC
  have n6 := noUnwrapsC
  go_enter Tryd.func28, Tryd.ntmps28
  go_wp2_with fail
  go_loopg [0] path.length (fun k v wr => ∃ r, r.length = k ∧ ErrAt w r (.iface 23 (.int .i64 c)) v ∧ wr = w)
  case atStart => exact ⟨path, rfl, he, rfl⟩
  case round =>
    obtain ⟨r, hr, hE, rfl⟩ := hrel
    cases r with
    | nil =>
      obtain rfl : _ = _ := hE
      by_cases hcd : c = d
      · have hb : (c == d) = true := by simpa using hcd
        clear hcd
        go_wp2_with fail
        go_ret
        exact ⟨by rw [hb]; rfl, rfl⟩
      · have hb : (c == d) = false := by simpa using hcd
        clear hcd
        go_wp2_with fail
        go_ret
        exact ⟨by rw [hb]; rfl, rfl⟩
    | cons x r =>
      obtain ⟨s, p⟩ := x
      obtain ⟨b, u, rfl, hB, hE'⟩ := hE
      obtain ⟨T, x, rfl⟩ := hE'.iface
      go_wp2_with (go_at_call 16; refine (unwrap_any b s p _ _ hB).mono ?_; rintro e w' ⟨rfl, rfl⟩)
      go_roundg r.length
      case measure => simp at hr; omega
      case rel => exact ⟨r, rfl, hE', rfl⟩

set_option maxHeartbeats 1000000 in
theorem Is_code {path : List (ByteArray × Int)} {c d : Int} {v : Value} (w : World) (he : ErrAt w path (.iface 23 (.int .i64 c)) v) :
    Calls Tryd.prog 19 #[v, .iface 23 (.int .i64 d)] w fun e w' => e = .returned (.bool (c == d)) ∧ w = w' := by
  have h31 := @run_callFunc_extern Tryd.prog 27 _ ReflectliteType.typeOf Tryd.func27 (by kernel_rfl) (by kernel_rfl) (by kernel_rfl) (by kernel_rfl)
  have h32 := @run_callFunc_extern Tryd.prog 73 _ (ReflectliteType.method comparableM) Tryd.func73 (by kernel_rfl) (by kernel_rfl) (by kernel_rfl) (by kernel_rfl)
  have tC := typeOfC
  have mC := mComparable
  have cC := compC
  obtain ⟨T, x, rfl⟩ := he.iface
  have HE := Lib.hid he
  clear he
  go_enter Tryd.func19, Tryd.ntmps19
  go_wp2_with (go_at_call 28; refine (is_code _ HE.out).mono ?_; rintro e w' ⟨rfl, rfl⟩)
  go_ret
  exact ⟨rfl, rfl⟩

theorem FIs_code {path : List (ByteArray × Int)} {c d : Int} {v : Value} (w : World) (he : ErrAt w path (.iface 23 (.int .i64 c)) v) :
    Calls Tryd.prog 20 #[v, .int .i64 d] w fun e w' => e = .returned (.bool (c == d)) ∧ w = w' := by
  obtain ⟨T, x, rfl⟩ := he.iface
  have HE := Lib.hid he
  clear he
  go_enter Tryd.func20, Tryd.ntmps20
  go_wp2_with (go_at_call 19; refine (Is_code _ HE.out).mono ?_; rintro e w' ⟨rfl, rfl⟩)
  go_ret
  exact ⟨rfl, rfl⟩

theorem FIs_nil (d : Int) (w : World) : Calls Tryd.prog 20 #[.nilIface, .int .i64 d] w fun e w' => e = .returned (.bool (d == 0)) ∧ w = w' := by
  go_enter Tryd.func20, Tryd.ntmps20
  go_wp2_with fail
  go_ret
  exact ⟨rfl, rfl⟩

theorem Unwrap_fault (b : Nat) (s : ByteArray) (p : Int) (u : Value) (w : World) (hB : Blk w b 38 #[.string s, .int .i64 p, u]) :
    Calls Tryd.prog 22 #[.iface 36 (.pointer (some ⟨b, 0, none⟩))] w fun e w' => e = .returned u ∧ w = w' := by
  have n3 := hasUnwrapFP
  have n4 := mUnwrapFP
  have HB := Lib.hid hB
  clear hB
  go_enter Tryd.func22, Tryd.ntmps22
  go_wp2_with (go_at_call 16; refine (unwrap_any b s p u _ HB.out).mono ?_; rintro e w' ⟨rfl, rfl⟩)
  go_ret
  exact ⟨rfl, rfl⟩

theorem Unwrap_code (c : Int) (w : World) : Calls Tryd.prog 22 #[.iface 23 (.int .i64 c)] w fun e w' => e = .returned .nilIface ∧ w = w' := by
  have n5 := noUnwrapC
  go_enter Tryd.func22, Tryd.ntmps22
  go_wp2_with fail
  go_ret
  exact ⟨rfl, rfl⟩

/-! ### An error of errors.New's make at the chain's end -/
theorem New_any (s : ByteArray) (w : World) : Calls Tryd.prog 17 #[.string s] w fun e w' => e = .returned (.iface 56 (.pointer (some ⟨w.heap.size, 0, none⟩))) ∧ Below w.heap.size w w' := by
  go_enter Tryd.func17, Tryd.ntmps17
  go_wp2_with fail
  go_ret
  exact ⟨rfl, (Below.refl _ _).alloc (Nat.le_refl _) _⟩

set_option maxHeartbeats 1000000 in
theorem is_es {path : List (ByteArray × Int)} {a : Addr} {v : Value} (w : World) (he : ErrAt w path (.iface 56 (.pointer (some a))) v) :
    Calls Tryd.prog 28 #[v, .iface 56 (.pointer (some a)), .bool true] w fun e w' => e = .returned (.bool true) ∧ w = w' := by
  have a1 := eqlEE a
  have a2 := eqlFE
  have n1 := noIsFP
  have n3 := hasUnwrapFP
  have n4 := mUnwrapFP
  go_enter Tryd.func28, Tryd.ntmps28
  go_wp2_with fail
  go_loopg [0] path.length (fun k v wr => ∃ r, r.length = k ∧ ErrAt w r (.iface 56 (.pointer (some a))) v ∧ wr = w)
  case atStart => exact ⟨path, rfl, he, rfl⟩
  case round =>
    obtain ⟨r, hr, hE, rfl⟩ := hrel
    cases r with
    | nil =>
      obtain rfl : _ = _ := hE
      go_wp2_with fail
      go_ret
      exact ⟨rfl, rfl⟩
    | cons x r =>
      obtain ⟨s, p⟩ := x
      obtain ⟨b, u, rfl, hB, hE'⟩ := hE
      obtain ⟨T, x, rfl⟩ := hE'.iface
      go_wp2_with (go_at_call 16; refine (unwrap_any b s p _ _ hB).mono ?_; rintro e w' ⟨rfl, rfl⟩)
      go_roundg r.length
      case measure => simp at hr; omega
      case rel => exact ⟨r, rfl, hE', rfl⟩

set_option maxHeartbeats 1000000 in
theorem is_es_code {path : List (ByteArray × Int)} {a : Value} {d : Int} {v : Value} (w : World) (he : ErrAt w path (.iface 56 a) v) :
    Calls Tryd.prog 28 #[v, .iface 23 (.int .i64 d), .bool true] w fun e w' => e = .returned (.bool false) ∧ w = w' := by
  have a1 := eqlEC
  have a2 := eqlFC
  have n1 := noIsFP
  have n2 := noIsE
  have n3 := hasUnwrapFP
  have n4 := mUnwrapFP
  have n5 := noUnwrapE
  have n6 := noUnwrapsE
  go_enter Tryd.func28, Tryd.ntmps28
  go_wp2_with fail
  go_loopg [0] path.length (fun k v wr => ∃ r, r.length = k ∧ ErrAt w r (.iface 56 a) v ∧ wr = w)
  case atStart => exact ⟨path, rfl, he, rfl⟩
  case round =>
    obtain ⟨r, hr, hE, rfl⟩ := hrel
    cases r with
    | nil =>
      obtain rfl : _ = _ := hE
      go_wp2_with fail
      go_ret
      exact ⟨rfl, rfl⟩
    | cons x r =>
      obtain ⟨s, p⟩ := x
      obtain ⟨b, u, rfl, hB, hE'⟩ := hE
      obtain ⟨T, x, rfl⟩ := hE'.iface
      go_wp2_with (go_at_call 16; refine (unwrap_any b s p _ _ hB).mono ?_; rintro e w' ⟨rfl, rfl⟩)
      go_roundg r.length
      case measure => simp at hr; omega
      case rel => exact ⟨r, rfl, hE', rfl⟩

set_option maxHeartbeats 1000000 in
theorem Is_es {path : List (ByteArray × Int)} {a : Addr} {v : Value} (w : World) (he : ErrAt w path (.iface 56 (.pointer (some a))) v) :
    Calls Tryd.prog 19 #[v, .iface 56 (.pointer (some a))] w fun e w' => e = .returned (.bool true) ∧ w = w' := by
  have h31 := @run_callFunc_extern Tryd.prog 27 _ ReflectliteType.typeOf Tryd.func27 (by kernel_rfl) (by kernel_rfl) (by kernel_rfl) (by kernel_rfl)
  have h32 := @run_callFunc_extern Tryd.prog 73 _ (ReflectliteType.method comparableM) Tryd.func73 (by kernel_rfl) (by kernel_rfl) (by kernel_rfl) (by kernel_rfl)
  have tC := typeOfE
  have mC := mComparable
  have cC := compE
  obtain ⟨T, x, rfl⟩ := he.iface
  have HE := Lib.hid he
  clear he
  go_enter Tryd.func19, Tryd.ntmps19
  go_wp2_with (go_at_call 28; refine (is_es _ HE.out).mono ?_; rintro e w' ⟨rfl, rfl⟩)
  go_ret
  exact ⟨rfl, rfl⟩

set_option maxHeartbeats 1000000 in
theorem FIs_es {path : List (ByteArray × Int)} {a : Value} {d : Int} {v : Value} (w : World) (he : ErrAt w path (.iface 56 a) v) :
    Calls Tryd.prog 20 #[v, .int .i64 d] w fun e w' => e = .returned (.bool false) ∧ w = w' := by
  have h31 := @run_callFunc_extern Tryd.prog 27 _ ReflectliteType.typeOf Tryd.func27 (by kernel_rfl) (by kernel_rfl) (by kernel_rfl) (by kernel_rfl)
  have h32 := @run_callFunc_extern Tryd.prog 73 _ (ReflectliteType.method comparableM) Tryd.func73 (by kernel_rfl) (by kernel_rfl) (by kernel_rfl) (by kernel_rfl)
  have tC := typeOfC
  have mC := mComparable
  have cC := compC
  obtain ⟨T, x, rfl⟩ := he.iface
  have HE := Lib.hid he
  clear he
  have H : Calls Tryd.prog 19 #[.iface T x, .iface 23 (.int .i64 d)] w fun e w' => e = .returned (.bool false) ∧ w = w' := by
    go_enter Tryd.func19, Tryd.ntmps19
    go_wp2_with (go_at_call 28; refine (is_es_code _ HE.out).mono ?_; rintro e w' ⟨rfl, rfl⟩)
    go_ret
    exact ⟨rfl, rfl⟩
  have HH := Lib.hid H
  clear H h31 h32 tC mC cC
  go_enter Tryd.func20, Tryd.ntmps20
  go_wp2_with (go_at_call 19; refine HH.out.mono ?_; rintro e w' ⟨rfl, rfl⟩)
  go_ret
  exact ⟨rfl, rfl⟩

end Go.Proofs.YtjlaljbmcncciaaDoor
