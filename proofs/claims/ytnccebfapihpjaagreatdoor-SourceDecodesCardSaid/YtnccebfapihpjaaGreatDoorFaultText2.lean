/- Contracts of strconv.Itoa, laid off the shelf, of the law's said and of fault.Text: a path and a code as one text. -/
import Derived.Test.YtnccebfapihpjaaGreatDoorFaultText
import Derived.Test.YtnccebfapihpjaaGreatDoorChg
namespace Go.Proofs.YtnccebfapihpjaaGreatDoor
open Go Go.RowKit Go.Shelf Go.Extern.Stop Go.Stop Go.Extern

def laysM171_ren : Go.Shelf.Ren := ⟨fun | 171 => 47 | 243 => 71 | 246 => 81 | 283 => 89 | 284 => 90 | 285 => 91 | 286 => 92 | 129 => 95 | 317 => 94 | 318 => 96 | 319 => 97 | 320 => 98 | 337 => 99 | 338 => 100 | n => n, fun | 3 => 3 | 9 => 9 | 2 => 2 | 4 => 4 | 171 => 148 | 0 => 0 | 53 => 149 | 37 => 26 | 5 => 5 | 173 => 152 | 212 => 156 | 51 => 157 | 20 => 20 | 213 => 158 | 46 => 102 | 232 => 161 | 233 => 162 | n => n, fun | 17 => 1 | 18 => 2 | 19 => 3 | n => n⟩
theorem laysM171 : Go.Proofs.LaysM.n171 Tryz.prog laysM171_ren := {
  mixed := by kernel_rfl
  f129 := Tryz.func95.trans (congrArg some (by kernel_rfl))
  f171 := Tryz.func47.trans (congrArg some (by kernel_rfl))
  f243 := Tryz.func71.trans (congrArg some (by kernel_rfl))
  f246 := Tryz.func81.trans (congrArg some (by kernel_rfl))
  f283 := Tryz.func89.trans (congrArg some (by kernel_rfl))
  f284 := Tryz.func90.trans (congrArg some (by kernel_rfl))
  f285 := Tryz.func91.trans (congrArg some (by kernel_rfl))
  f286 := Tryz.func92.trans (congrArg some (by kernel_rfl))
  f317 := Tryz.func94.trans (congrArg some (by kernel_rfl))
  f318 := Tryz.func96.trans (congrArg some (by kernel_rfl))
  f319 := Tryz.func97.trans (congrArg some (by kernel_rfl))
  f320 := Tryz.func98.trans (congrArg some (by kernel_rfl))
  f337 := Tryz.func99.trans (congrArg some (by kernel_rfl))
  f338 := Tryz.func100.trans (congrArg some (by kernel_rfl))
  t0 := Tryz.underlying0
  a0 := Tryz.isAgg0
  z0 := Tryz.sizeOf0
  v0 := Tryz.zeroValue0
  t2 := Tryz.underlying2
  a2 := Tryz.isAgg2
  z2 := Tryz.sizeOf2
  v2 := Tryz.zeroValue2
  t3 := Tryz.underlying3
  a3 := Tryz.isAgg3
  z3 := Tryz.sizeOf3
  v3 := Tryz.zeroValue3
  t4 := Tryz.underlying4
  a4 := Tryz.isAgg4
  z4 := Tryz.sizeOf4
  v4 := Tryz.zeroValue4
  t5 := Tryz.underlying5
  a5 := Tryz.isAgg5
  z5 := Tryz.sizeOf5
  v5 := Tryz.zeroValue5
  t9 := Tryz.underlying9
  a9 := Tryz.isAgg9
  z9 := Tryz.sizeOf9
  v9 := Tryz.zeroValue9
  t20 := Tryz.underlying20
  a20 := Tryz.isAgg20
  z20 := Tryz.sizeOf20
  v20 := Tryz.zeroValue20
  t37 := Tryz.underlying26
  a37 := Tryz.isAgg26
  z37 := Tryz.sizeOf26
  v37 := Tryz.zeroValue26
  t46 := Tryz.underlying102
  a46 := Tryz.isAgg102
  z46 := Tryz.sizeOf102
  v46 := Tryz.zeroValue102
  t51 := Tryz.underlying157
  a51 := Tryz.isAgg157
  z51 := Tryz.sizeOf157
  v51 := Tryz.zeroValue157
  t53 := Tryz.underlying149
  a53 := Tryz.isAgg149
  z53 := Tryz.sizeOf149
  v53 := Tryz.zeroValue149
  t171 := Tryz.underlying148
  a171 := Tryz.isAgg148
  z171 := Tryz.sizeOf148
  v171 := Tryz.zeroValue148
  t173 := Tryz.underlying152
  a173 := Tryz.isAgg152
  z173 := Tryz.sizeOf152
  v173 := Tryz.zeroValue152
  t212 := Tryz.underlying156
  a212 := Tryz.isAgg156
  z212 := Tryz.sizeOf156
  v212 := Tryz.zeroValue156
  t213 := Tryz.underlying158
  a213 := Tryz.isAgg158
  z213 := Tryz.sizeOf158
  t232 := Tryz.underlying161
  a232 := Tryz.isAgg161
  z232 := Tryz.sizeOf161
  v232 := Tryz.zeroValue161
  t233 := Tryz.underlying162
  a233 := Tryz.isAgg162
  z233 := Tryz.sizeOf162
  v233 := Tryz.zeroValue162
  g17 := by kernel_rfl
  g18 := by kernel_rfl
  g19 := by kernel_rfl
  i0 := by kernel_rfl
  i2 := by kernel_rfl
  i3 := by kernel_rfl
  i4 := by kernel_rfl
  i5 := by kernel_rfl
  i9 := by kernel_rfl
  i20 := by kernel_rfl
  i37 := by kernel_rfl
  i46 := by kernel_rfl
  i51 := by kernel_rfl
  i53 := by kernel_rfl
  i171 := by kernel_rfl
  i173 := by kernel_rfl
  i212 := by kernel_rfl
  i232 := by kernel_rfl
  i233 := by kernel_rfl
  m17 := by kernel_rfl
  m18 := by kernel_rfl
  m19 := by kernel_rfl }


/-- The table that strconv.Itoa reads stands as its text lays it. -/
def Tb (w : World) : Prop := Lib.TabIs Tryz.prog w "internal/strconv.uint64pow10" .u64 Lib.pow10Tab
theorem Tb.keep {w w' : World} (h : Tb w) (hb : Below w.heap.size w w') : Tb w' := Lib.tabBelow_of_tabIs h w' hb

theorem below_grow (w : World) (k : Nat) (os : Array Obj) : Below w.heap.size w (Sort.grow (w.drewN k) os) :=
  ⟨rfl, rfl, rfl, by simp [Sort.grow, World.drewN], fun i hi => by
    show (w.heap ++ os)[i]? = w.heap[i]?
    rw [Array.getElem?_append_left hi]⟩

theorem Itoa_any {n : Int} (hn : Fa.InI n) (w : World) (ht : Tb w) : Calls Tryz.prog 47 #[.int .i64 n] w fun e w' => e = .returned (.string (Fa.S (Lib.itoa n))) ∧ Below w.heap.size w w' := by
  refine (Any.strconv_Itoa laysM171 n hn.1 hn.2 w ht).mono ?_
  rintro e w' ⟨rfl, k, os, rfl⟩
  exact ⟨rfl, below_grow w k os⟩

theorem byteInfo : (Tryz.prog.info? 5).map (fun i => (i.zero, i.size, i.bytes)) = some (some (.int .u8 0), 1, 1) := by kernel_rfl
theorem cells_app (a b : ByteArray) : Lib.strCells a ++ Lib.strCells b = Lib.strCells (a ++ b) := by
  have e : (a ++ b).data.toList = a.data.toList ++ b.data.toList := by simp [ByteArray.data_append]
  unfold Lib.strCells
  rw [e, List.map_append]

/-- string(b) of a row of one's own. -/
theorem own_text {w : World} {base n : Nat} {v : Value} {s : ByteArray} (h : w.ownsRow base 5 1 v n (Lib.strCells s)) : (convert 26 9 v).run Tryz.prog w = .ok (.string s) w := by
  have hl : s.data.toList.length = n := by have := h.1; rw [Lib.strCells_length] at this; rw [Fa.size_list]; omega
  rcases h.2 with ⟨rfl, h0⟩ | ⟨g, cap, cur, rfl, hg, hgg, h1, h2, h3, h4⟩
  · rw [run_convert_bytes_nil w 26 5 Tryz.underlying26 Tryz.underlying5 0 0 9 Tryz.underlying9]
    have : s.data.toList = [] := List.eq_nil_of_length_eq_zero (by omega)
    have e : s = Fa.S [] := by rw [← this, Fa.S_data]
    rw [e]; rfl
  · have hx := run_convert_bytes_arg (P := Tryz.prog) w 26 5 Tryz.underlying26 Tryz.underlying5 g 0 n cap (s.data.toList.map fun b => (b.toNat : Int)) (by rw [List.length_map, hl]) (fun i hi => by
      have hc := h.cells (g := g) rfl i (.int .u8 (s.data.toList[i]'(by omega)).toNat) (by unfold Lib.strCells; rw [List.getElem?_map, List.getElem?_eq_getElem (by omega)]; rfl)
      rw [add_lit] at hc
      rw [hc, List.getD_eq_getElem?_getD, List.getElem?_map, List.getElem?_eq_getElem (by omega)]; rfl) 9 Tryz.underlying9
    rw [hx]
    have e : strOfNums (s.data.toList.map fun b => (b.toNat : Int)) = s := by
      unfold strOfNums
      rw [List.map_map]
      have : (fun n : Int => UInt8.ofNat n.toNat) ∘ (fun b : UInt8 => (b.toNat : Int)) = id := by funext b; simp
      rw [this, List.map_id]
    rw [e]

theorem take_step {l : Fa.Steps} {j : Nat} (h : j < l.length) : Fa.S (Fa.pathL (l.take j)) ++ l[j].1 ++ (Fa.S [32] ++ Fa.S (Lib.itoa l[j].2) ++ Fa.S [58, 32]) = Fa.S (Fa.pathL (l.take (j + 1))) := by
  rw [List.take_succ_eq_append_getElem h, Fa.pathL_app, Fa.pathL_one]
  conv => lhs; rw [← Fa.S_data l[j].1]
  rw [Fa.S_app, Fa.S_app, Fa.S_app, Fa.S_app]
  unfold Fa.stepL
  simp
theorem take_step' {l : Fa.Steps} {j : Nat} (h : j < l.length) : Fa.S (Fa.pathL (l.take j)) ++ (l[j].1 ++ ⟨#[32]⟩ ++ Fa.S (Lib.itoa l[j].2) ++ ⟨#[58, 32]⟩) = Fa.S (Fa.pathL (l.take (j + 1))) := by
  rw [← take_step h]
  show Fa.S (Fa.pathL (l.take j)) ++ (l[j].1 ++ Fa.S [32] ++ Fa.S (Lib.itoa l[j].2) ++ Fa.S [58, 32]) = _
  simp only [ByteArray.append_assoc]
theorem path_take {l : Fa.Steps} (j : Nat) : (Fa.pathL (l.take j)).length ≤ (Fa.pathL l).length := by
  conv => rhs; rw [← List.take_append_drop j l, Fa.pathL_app]
  simp

theorem Text_nil (w : World) : Calls Tryz.prog 16 #[.nilIface] w fun e w' => e = .returned (.string (Fa.S [])) ∧ w = w' := by
  go_enter Tryz.func16, Tryz.ntmps16
  go_wp2_with fail
  go_ret
  exact ⟨rfl, rfl⟩

/-- fault.Of finds the code c. -/
def OfIs (path : Fa.Steps) (t v : Value) (c : Int) : Prop := ∀ W, Gl W → ErrAt W path t v → Calls Tryz.prog 33 #[v] W fun e w' => e = .returned (.int .i64 c) ∧ Below W.heap.size W w'

set_option maxRecDepth 100000 in
set_option maxHeartbeats 1000000 in
theorem Text_any {path : Fa.Steps} {t : Value} {T : TypeId} {x : Value} {c : Int} (hl : (Fa.pathL path).length ≤ 1000000000) (hn : path.length ≤ 1000000000) (hi : ∀ x ∈ path, Fa.InI x.2) (hc : Fa.InI c) (ht : Tail t)
    (w : World) (hg : Gl w) (hT : Tb w) (he : ErrAt w path t (.iface T x)) (hof : OfIs path t (.iface T x) c) :
    Calls Tryz.prog 16 #[.iface T x] w fun e w' => e = .returned (.string (Fa.S (Fa.saidL path c))) ∧ Below w.heap.size w w' := by
  have HI := Lib.hid hi
  have HC := Lib.hid hc
  have HL := Lib.hid hl
  have HT := Lib.hid hT
  have HG := Lib.hid hg
  have HE := Lib.hid he
  have HF := Lib.hid hof
  clear hi hc hl hT hg he hof
  go_enter Tryz.func16, Tryz.ntmps16
  go_wp2_with (go_at_call 34; refine (Path_any (by omega) ht _ HG.out HE.out).mono ?_; unfold PathOut; rintro e w2 ⟨A, cap, rfl, hr2, hb2⟩)
  have HR := Lib.hid hr2
  clear hr2
  go_loopg [3, 11] path.length (fun k s i wr => ∃ j, j + k = path.length ∧ i = .int .i64 j ∧ s = .string (Fa.S (Fa.pathL (path.take j))) ∧ Below w.heap.size w wr ∧ Below w2.heap.size w2 wr)
  case atStart => exact ⟨0, by omega, rfl, rfl, hb2, Below.refl _ _⟩
  case round =>
    obtain ⟨j, hj, rfl, rfl, hb, hb2r⟩ := hrel
    by_cases hlt : j < path.length
    · obtain ⟨b2, o2, rfl, h2⟩ := HR.out.2 (by omega)
      have hp2 := flatP_get path j hlt
      have k1 := cell_keep (h2 _ _ hp2.1) hb2r
      have q1 := cell_keep (h2 _ _ hp2.2) hb2r
      rw [← Nat.add_assoc] at q1
      have hlt' : (j : Int) < (path.length : Int) := by omega
      have HT2 := Lib.hid (take_step hlt)
      have hT : (Fa.S (Fa.pathL (path.take j))).size + path[j].1.size + ((Fa.S [32]).size + (Fa.S (Lib.itoa path[j].2)).size + (Fa.S [58, 32]).size) ≤ 1000000000 := by
        have h1 := congrArg ByteArray.size HT2.out
        rw [ByteArray.size_append, ByteArray.size_append, ByteArray.size_append, ByteArray.size_append] at h1
        rw [h1, Fa.S_size]; have := path_take (l := path) (j + 1); have := HL.out; omega
      have hs1 : ¬ 9223372036854775807 < path[j].1.size + 1 := by omega
      have hs2 : ¬ 9223372036854775807 < path[j].1.size + 1 + (Fa.S (Lib.itoa path[j].2)).size := by omega
      have hs3 : ¬ 9223372036854775807 < path[j].1.size + 1 + (Fa.S (Lib.itoa path[j].2)).size + 2 := by omega
      have hs4 : ¬ 9223372036854775807 < (Fa.S (Fa.pathL (path.take j))).size + (path[j].1.size + 1 + (Fa.S (Lib.itoa path[j].2)).size + 2) := by omega
      have HB := Lib.hid hb
      have HB2 := Lib.hid hb2r
      clear hT h2 hp2 hb hb2r
      go_wp2_with fail
      go_region_held3 (fun W => W.cell? ⟨wr.heap.size, 0, none⟩ = some (.string path[j].1) ∧ W.cell? ⟨wr.heap.size, 1, none⟩ = some (.int .i64 path[j].2))
        (first | go_keep | (go_split_ands; refine ⟨cell_keep (by assumption) hb3, cell_keep (by assumption) hb3⟩))
        ((go_at_call 47; refine (Itoa_any (HI.out _ (List.getElem_mem hlt)) _ (HT.out.keep (HB.out.alloc HB.out.size _).drew)).mono ?_; rintro e w3 ⟨rfl, hb3⟩))
      go_wp2_with fail
      go_roundg (gk - 1)
      case measure => omega
      case rel => exact ⟨j + 1, by omega, by go_num, by rw [take_step' hlt], (HB.out.alloc HB.out.size _).drew.trans (hb3.mono (by have := HB.out.size; simp; omega)), (HB2.out.alloc HB2.out.size _).drew.trans (hb3.mono (by have := HB2.out.size; simp; omega))⟩
    · obtain rfl : j = path.length := by omega
      have ht' : path.take path.length = path := List.take_length
      rw [ht']
      have hs3 : ¬ 9223372036854775807 < (Fa.S (Fa.pathL path)).size + (Fa.S (Fa.codeL c)).size := by
        have := Fa.codeL_length HC.out
        have := HL.out
        rw [Fa.S_size, Fa.S_size]; omega
      clear ht'
      go_wp2_with (first
        | (go_at_call 33; refine (HF.out _ (HG.out.keep hb) (HE.out.below hb)).mono ?_; rintro e w3 ⟨rfl, hb3⟩)
        | (go_at_call 48; refine (code_text HC.out _).mono ?_; rintro e w4 ⟨rfl, hb4⟩))
      go_ret
      refine ⟨?_, (hb.trans (hb3.mono hb.size)).trans (hb4.mono (Nat.le_trans hb.size hb3.size))⟩
      unfold Fa.saidL
      rw [← Fa.S_app]; rfl

end Go.Proofs.YtnccebfapihpjaaGreatDoor
