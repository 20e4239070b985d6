/- Contracts of package kinref2: the document's writer's bytes, the document's reader. -/
import Derived.Test.YtbdabjnmocnfpaaDoorBitsRef
import Derived.OwnWalk
namespace Go.Proofs.YtbdabjnmocnfpaaDoor
open Go Go.RowKit Go.Extern.Stop Go.Stop Go.Extern

/-- N bytes of bits. -/
def packN (N : Nat) (l : List Bool) : List Int := (List.range N).map fun j => Bi.numB l (8 * j) 8
theorem packN_length (N : Nat) (l : List Bool) : (packN N l).length = N := by simp [packN]
theorem packN_get (N : Nat) (l : List Bool) (j : Nat) (h : j < (packN N l).length) : (packN N l)[j] = Bi.numB l (8 * j) 8 := by simp [packN]
theorem packN_nil (N : Nat) : packN N [] = List.replicate N 0 := by
  have h : ∀ j, Bi.numB [] (8 * j) 8 = 0 := fun j => by
    have : Bi.numB [] (8 * j) 8 = Bi.numB [] 0 8 := Bi.numB_congr fun t _ => by rw [Bi.bv_out [] _ (by simp), Bi.bv_out [] _ (by simp)]
    rw [this]; rfl
  apply List.ext_getElem
  · simp [packN]
  · intro j h1 h2; rw [packN_get, h]; simp
theorem packN_all (l : List Bool) : packN ((l.length + 7) / 8) l = Bi.pack l := rfl
theorem packN_false (N : Nat) (m : List Bool) : packN N (m ++ [false]) = packN N m := by
  unfold packN
  apply List.map_congr_left
  intro j _
  exact Bi.numB_congr fun t _ => Bi.bv_pad m 1 _
theorem lastB_num (m : List Bool) : lastB m = Bi.numB m (8 * (m.length / 8)) 8 := by
  unfold lastB
  rw [Bi.grown_getD, if_pos (by omega)]
theorem packN_true (N : Nat) (m : List Bool) : packN N (m ++ [true]) = (packN N m).set (m.length / 8) (lastB m + 2 ^ (7 - m.length % 8)) := by
  apply List.ext_getElem
  · rw [List.length_set, packN_length, packN_length]
  · intro j h1 h2
    rw [packN_get, List.getElem_set]
    split
    · next e =>
      subst e
      rw [lastB_num]
      exact (Bi.numB_snoc m _ rfl).1
    · next e =>
      rw [packN_get]
      refine Bi.numB_congr fun t ht => ?_
      by_cases h3 : 8 * j + t < m.length
      · exact Bi.bv_app_left _ _ _ h3
      · rw [Bi.bv_out m _ (by omega), Bi.bv_out _ _ (by simp; omega)]
theorem packN_last (N : Nat) (m : List Bool) (h : m.length / 8 < N) : (packN N m)[m.length / 8]? = some (lastB m) := by
  rw [List.getElem?_eq_getElem (by rw [packN_length]; exact h), packN_get, lastB_num]
theorem takeB_snoc (l : List Bool) (k : Nat) (h : k < l.length) : l.take (k + 1) = l.take k ++ [l[k]] := List.take_succ_eq_append_getElem h

set_option maxRecDepth 100000 in
set_option maxHeartbeats 1000000 in
theorem RBytes_any {l : List Bool} {B g : Nat} {v : Value} (hl : l.length ≤ 1000000000) (w : World) (h : RWtr w B g v l) :
    Calls Tryd.prog 20 #[.pointer (some ⟨g, 0, none⟩)] w (NewB w (Bi.pack l)) := by
  obtain ⟨i0, hi, hz0, hz1, hz2⟩ := info_parts u8Info
  obtain ⟨hblk, hown⟩ := h
  obtain ⟨A, c, rfl⟩ := own_slice hown
  obtain ⟨N, hN⟩ : ∃ N, (l.length + 7) / 8 = N := ⟨_, rfl⟩
  have hN9 : N ≤ 1000000000 := by omega
  have hNi : ((l.length : Int) + 7) / 8 = (N : Int) := by omega
  have hc0 : w.cell? ⟨g, 0, none⟩ = some (.slice A l.length c) := by rw [hblk.cell]; rfl
  have hrd := Lib.hid (Rd.of_own hown)
  have HB := Lib.hid hblk
  have HN := Lib.hid hN
  clear hown hN hblk
  go_enter Tryd.func20, Tryd.ntmps20
  go_wp2_with (at_make; refine wpList_make_full _ rfl (.tmp 11) (.tmp 11) 43 rfl w.heap.size 5 i0 _ 1 Tryd.underlying43 hi hz0 hz1 .i64 .i64 _ _ N rfl rfl (by first | rfl | exact hNi | omega) (by first | rfl | exact hNi | omega) (by rw [hz2]; omega) (by unfold maxLen; omega) (Nat.le_refl _) ?_; intro w1 hown1 hgrow1)
  have hb1 : Below w.heap.size w w1 := (Below.refl _ _).grown hgrow1 (Nat.le_refl _) (fun k hk => by cases hk)
  have hown2 : w1.ownsRow w.heap.size 5 1 (.slice (some ⟨w.heap.size, 0, none⟩) N N) N ((packN N (l.take 0)).map (Value.int .u8)) := by
    have e : (madeCells (Value.int .u8 0).cells (N * 1)).toList = (packN N (l.take 0)).map (Value.int .u8) := by
      rw [List.take_zero, packN_nil, Nat.mul_one, List.map_replicate]
      exact toList_madeCells_one _ _
    rw [← e]; exact hown1
  have HO := Lib.hid hown2
  clear hown1 hgrow1 hown2 hNi hc0
  go_wp2_with fail
  go_loopg [4] l.length (fun k vi wr => ∃ j : Nat, j + k = l.length ∧ vi = .int .i64 j ∧ wr.ownsRow w.heap.size 5 1 (.slice (some ⟨w.heap.size, 0, none⟩) N N) N ((packN N (l.take j)).map (Value.int .u8)) ∧ Below w.heap.size w wr)
  case atStart => exact ⟨0, by omega, rfl, HO.out, hb1⟩
  case round =>
    obtain ⟨j, hj, rfl, hown, hbel⟩ := hrel
    have hblk := HB.out.keep hbel
    have hc0 : wr.cell? ⟨g, 0, none⟩ = some (.slice A l.length c) := by rw [hblk.cell]; rfl
    by_cases hlt : j < l.length
    · obtain ⟨b2, o2, u, rfl, hu, k2⟩ := (hrd.out.keep hbel).at_ hlt
      have hu' : u = .bool l[j] := by
        rw [List.getElem?_map, List.getElem?_eq_getElem hlt] at hu
        simpa using hu.symm
      subst hu'
      have hlt' : (j : Int) < (l.length : Int) := by omega
      have hsn := takeB_snoc l j hlt
      have htl : (l.take j).length = j := by rw [List.length_take]; omega
      cases hx : l[j] with
      | false =>
        rw [hx] at k2 hsn
        have HF : Hid (packN N (l.take (j + 1)) = packN N (l.take j)) := by rw [hsn]; exact packN_false _ _
        have HO := Lib.hid hown
        clear hx hsn hu hown htl
        go_wp2_with fail
        go_roundg (gk - 1)
        case measure => omega
        case rel => exact ⟨j + 1, by omega, by go_num, by rw [HF.out]; exact HO.out, hbel⟩
      | true =>
        rw [hx] at k2 hsn
        have hjN : j / 8 < N := by have := HN.out; omega
        have hT := packN_true N (l.take j)
        have hq := packN_last N (l.take j) (by rw [htl]; exact hjN)
        have hor := lastB_or (l.take j)
        rw [← hsn, htl] at hT
        rw [htl] at hq hor
        obtain ⟨gb, cap, hv, hgb0, hgb1, hgb2, hcell, hfroz⟩ := own_form hown (by omega)
        obtain ⟨rfl, rfl⟩ : w.heap.size = gb ∧ N = cap := by injection hv with h5 h6 h7; injection h5 with h5; injection h5 with h5; exact ⟨h5, h7⟩
        have k3 := hcell (j / 8) (.int .u8 (lastB (l.take j))) (by rw [List.getElem?_map, hq]; rfl)
        have hf3 := hfroz (j / 8)
        have hst := own_store hown (j / 8) (.int .u8 (lastB (l.take j) + 2 ^ (7 - j % 8)))
        rw [← List.map_set, ← hT, ← hor] at hst
        have HO := Lib.hid hst
        have hjNi : (j : Int) / 8 < (N : Int) := by omega
        obtain ⟨Q, hQ⟩ : ∃ Q, lastB (l.take j) = Q := ⟨_, rfl⟩
        rw [hQ] at k3 HO
        clear hx hsn hu hown htl hT hq hor hv hcell hfroz hst hQ hgb0 hgb2
        go_wp2_with fail
        go_roundg (gk - 1)
        case measure => omega
        case rel => exact ⟨j + 1, by omega, by go_num, HO.out, hbel.setCell (by simp) _⟩
    · obtain rfl : j = l.length := by omega
      rw [List.take_length] at hown
      have HO := Lib.hid hown
      clear hown
      go_wp2_with fail
      go_ret
      have hpk : packN N l = Bi.pack l := by rw [← HN.out]; rfl
      have hlen : N = (Bi.pack l).length := by rw [← hpk, packN_length]
      have h := HO.out
      rw [hpk] at h
      unfold NewB
      rw [← hlen]
      exact ⟨_, _, rfl, h, hbel⟩

/-! ### The document's reader -/
theorem RLeft_any {lo hi g : Nat} {b : List Int} {p : Nat} (hb : b.length ≤ 1000000000) (w : World) (h : RdrT 59 lo hi w g b p) :
    Calls Tryd.prog 30 #[.pointer (some ⟨g, 0, none⟩)] w fun e w' => e = .returned (.int .i64 (8 * (b.length : Int) - p)) ∧ ∃ n, w' = w.drewN n := by
  obtain ⟨h1, _, A, c, hblk, _⟩ := h
  have hc0 : w.cell? ⟨g, 0, none⟩ = some (.slice A b.length c) := by rw [hblk.cell]; rfl
  have hc1 : w.cell? ⟨g, 1, none⟩ = some (.int .i64 p) := by rw [hblk.cell]; rfl
  have hw8 : IntKind.i64.wrap (8 * (b.length : Int)) = 8 * (b.length : Int) := IntWalk.i64_in _ (by omega)
  clear hblk
  go_enter Tryd.func30, Tryd.ntmps30
  go_wp2_with fail
  go_quiet (fail)
  go_wp2_with fail
  go_ret
  exact ⟨rfl, _, rfl⟩

/-- A cell of the call's own that holds an error of the document's. -/
theorem err_store {w : World} {z : Nat} (h : Blk w z 39 #[.int .i64 0, .slice none 0 0]) :
    w.cell? ⟨z, 0, none⟩ = some (.int .i64 0) ∧ w.cell? ⟨z, 1, none⟩ = some (.slice none 0 0) ∧ w.frozen? ⟨z, 0, none⟩ = false ∧ w.frozen? ⟨z, 1, none⟩ = false :=
  ⟨by rw [h.cell]; rfl, by rw [h.cell]; rfl, h.frozen 0, h.frozen 1⟩

set_option maxHeartbeats 1000000 in
theorem RGet_range {n : Int} {p : Value} (w : World) (h : ¬ (0 ≤ n ∧ n ≤ 32)) : Calls Tryd.prog 27 #[p, .int .i64 n] w
    fun e w' => e = .returned (.tuple #[.int .i64 0, .agg #[.int .i64 3, .slice none 0 0]]) ∧ Below w.heap.size w w' := by
  rcases (show n < 0 ∨ (0 ≤ n ∧ 32 < n) by omega) with h1 | ⟨h1, h2⟩
  all_goals
    clear h
    go_enter Tryd.func27, Tryd.ntmps27
    go_wp2_with fail
    refine (Fail_any _ _).mono ?_
    rintro e w1 ⟨rfl, hb1⟩
    obtain ⟨hz0, hz1, hf0, hf1⟩ := err_store ((Blk.new w 39 #[.int .i64 0, .slice none 0 0]).keep hb1)
    go_wp2_with fail
    refine bodyPost_ret (v := .tuple #[.int .i64 0, .agg #[.int .i64 3, .slice none 0 0]]) (by simp [results, Tryd.results27, go_sem, hz0, hz1]) rfl ⟨rfl, ?_⟩
    exact ((((Below.refl _ _).alloc (Nat.le_refl _) _).trans (hb1.mono (by simp))).setCell (by simp) _).setCell (by simp) _

/-- What the document's calls with an error answer. -/
def RErr (w : World) (z : Value) (path : List (ByteArray × Int)) (c : Int) (e : Ending) (w' : World) : Prop :=
  ∃ A cap, e = .returned (.tuple #[z, .agg #[.int .i64 c, .slice A path.length cap]]) ∧ Rd w' 2 A path.length (flatP path) ∧ (∀ a, A = some a → w.heap.size ≤ a.block) ∧ Below w.heap.size w w'

set_option maxHeartbeats 1000000 in
theorem RGet_short {lo hi g : Nat} {b : List Int} {p n : Nat} (hb : b.length ≤ 1000000000) (hn : n ≤ 32) (hs : 8 * b.length < p + n) (w : World) (h : RdrT 59 lo hi w g b p) :
    Calls Tryd.prog 27 #[.pointer (some ⟨g, 0, none⟩), .int .i64 n] w (RErr w (.int .i64 0) [(sBits, (p : Int))] 1) := by
  have hp := h.1
  have hz := Blk.new w 39 #[.int .i64 0, .slice none 0 0]
  have H := Lib.hid (h.keep ((Below.refl _ _).alloc (Nat.le_refl _) (.cells #[.int .i64 0, .slice none 0 0] 39)))
  have hlt : 8 * (b.length : Int) - p < n := by omega
  clear h
  go_enter Tryd.func27, Tryd.ntmps27
  go_wp2_with fail
  refine (RLeft_any hb _ H.out).mono ?_
  rintro e w1 ⟨rfl, nq, rfl⟩
  obtain ⟨_, _, A, c, hblk, _⟩ := H.out
  have hc1 : (w.alloc (.cells #[.int .i64 0, .slice none 0 0] 39)).cell? ⟨g, 1, none⟩ = some (.int .i64 p) := by rw [hblk.cell]; rfl
  clear hblk
  go_wp2_with fail
  refine (Wrap_any sBits _ (c := 1) (by omega) _).mono ?_
  rintro e w2 ⟨A2, c2, rfl, hr2, hfar, hb2⟩
  have hz2 := (hz.drewN nq).keep hb2
  obtain ⟨hz0, hz1, hf0, hf1⟩ := err_store hz2
  have hfar' : ∀ a, A2 = some a → w.heap.size + 1 ≤ a.block := fun a ha => by have := hfar a ha; simpa using this
  have HR := Lib.hid hr2
  have HF := Lib.hid hfar'
  have hbl : Below w.heap.size w w2 := (below_drewN ((Below.refl _ _).alloc (Nat.le_refl _) _) nq).trans (hb2.mono (by simp))
  clear hr2 hfar hfar' hb2
  go_wp2_with fail
  refine bodyPost_ret (v := .tuple #[.int .i64 0, .agg #[.int .i64 1, .slice A2 1 c2]]) (by simp [results, Tryd.results27, go_sem, hz0, hz1]) rfl ?_
  refine ⟨A2, c2, rfl, ?_, fun a ha => by have := HF.out a ha; omega, (hbl.setCell (by simp) _).setCell (by simp) _⟩
  exact (HR.out.far (fun a ha => by have := HF.out a ha; simp; omega) _).far (fun a ha => by have := HF.out a ha; simp; omega) _

theorem get_val2 {x : Int} {k : Nat} (hx0 : 0 ≤ x) (hx1 : x ≤ 255) : wrap64 (bits .and .u8 (x / 2 ^ k) 1) = x / 2 ^ k % 2 := by
  have hd0 : 0 ≤ x / 2 ^ k := Int.ediv_nonneg hx0 (Int.le_of_lt (Int.pow_pos (by omega)))
  have hd1 : x / 2 ^ k ≤ x := Int.ediv_le_self _ hx0
  obtain ⟨y, hy⟩ := Int.eq_ofNat_of_zero_le hd0
  rw [hy] at hd1 ⊢
  rw [and_one8 y (by omega)]
  unfold wrap64; omega

theorem get_val3 {N x : Int} {k : Nat} (h0 : 0 ≤ N) (h1 : N ≤ 2147483648) (hx0 : 0 ≤ x) (hx1 : x ≤ 255) : wrap64 (2 * N + wrap64 (bits .and .u8 (x / 2 ^ k) 1)) = 2 * N + x / 2 ^ k % 2 := by
  rw [get_val2 hx0 hx1]
  unfold wrap64; omega

set_option maxRecDepth 100000 in
set_option maxHeartbeats 1000000 in
theorem RGet_ok {lo hi g : Nat} {b : List Int} {p n : Nat} (hb : b.length ≤ 1000000000) (hn : n ≤ 32) (hs : p + n ≤ 8 * b.length) (w : World) (hhi : hi ≤ w.heap.size) (h : RdrT 59 lo hi w g b p) :
    Calls Tryd.prog 27 #[.pointer (some ⟨g, 0, none⟩), .int .i64 n] w
      fun e w' => e = .returned (.tuple #[.int .i64 (Bi.num b p n), .agg #[.int .i64 0, .slice none 0 0]]) ∧ ROut 59 lo hi w g b (p + n) w' := by
  have hp := h.1
  have hgw := h.lt
  have hz := Blk.new w 39 #[.int .i64 0, .slice none 0 0]
  have hb0 : Below w.heap.size w (w.alloc (.cells #[.int .i64 0, .slice none 0 0] 39)) := (Below.refl _ _).alloc (Nat.le_refl _) _
  have H := Lib.hid (h.keep hb0)
  have hle : (n : Int) ≤ 8 * (b.length : Int) - p := by omega
  clear h
  go_enter Tryd.func27, Tryd.ntmps27
  go_wp2_with fail
  refine (RLeft_any hb _ H.out).mono ?_
  rintro e w1 ⟨rfl, nq, rfl⟩
  have H1 : Hid (ROut 59 lo hi w g b p ((w.alloc (.cells #[.int .i64 0, .slice none 0 0] 39)).drewN nq)) := ⟨H.out, (Chg.of_below hb0).drewN nq⟩
  have HZ := Lib.hid (hz.drewN nq)
  clear hle hz hb0
  go_wp2_with fail
  go_loopg [6, 7] n (fun k vv vi wr => ∃ j : Nat, j + k = n ∧ vi = .int .i64 j ∧ vv = .int .i64 (Bi.num b p j) ∧ ROut 59 lo hi w g b (p + j) wr ∧ Blk wr w.heap.size 39 #[.int .i64 0, .slice none 0 0])
  case atStart => exact ⟨0, by omega, rfl, rfl, H1.out, HZ.out⟩
  case round =>
    obtain ⟨j, hj, rfl, rfl, hout, hcell⟩ := hrel
    have HC := Lib.hid hcell
    clear hcell
    by_cases hlt : j < n
    · have HO := Lib.hid hout
      obtain ⟨⟨_, hbd, A, c, hblk, hrd, hA⟩, _⟩ := hout
      obtain ⟨b2, o2, rfl, k2⟩ := hrd.at_ (show (p + j) / 8 < b.length by omega)
      have hc0 : wr.cell? ⟨g, 0, none⟩ = some (.slice (some ⟨b2, o2, none⟩) b.length c) := by rw [hblk.cell]; rfl
      have hc1 : wr.cell? ⟨g, 1, none⟩ = some (.int .i64 ((p + j : Nat) : Int)) := by rw [hblk.cell]; rfl
      have hf1 := hblk.frozen 1
      obtain ⟨hx0, hx1⟩ := hbd _ (List.getElem_mem (show (p + j) / 8 < b.length by omega))
      have hlt' : (j : Int) < (n : Int) := by omega
      have hbitd : Bi.bit b (p + j) = b[(p + j) / 8]'(by omega) / 2 ^ (7 - (p + j) % 8) % 2 := by
        unfold Bi.bit
        rw [List.getD_eq_getElem?_getD, List.getElem?_eq_getElem (by omega)]; rfl
      obtain ⟨x, hx⟩ : ∃ x, b[(p + j) / 8]'(by omega) = x := ⟨_, rfl⟩
      rw [hx] at k2 hx0 hx1 hbitd
      obtain ⟨q, hq⟩ : ∃ q, p + j = q := ⟨_, rfl⟩
      rw [hq] at k2 hc1 hbitd
      have HQ := Lib.hid hq
      have HBD := Lib.hid hbitd
      obtain ⟨hn0, hn1⟩ := Bi.num_bd b p j
      have hn2 : Bi.num b p j ≤ 2147483648 := by
        have : (2 : Int) ^ j ≤ 2 ^ 31 := by exact_mod_cast Nat.pow_le_pow_right (by omega : 0 < 2) (show j ≤ 31 by omega)
        have e : (2 : Int) ^ 31 = 2147483648 := by decide
        omega
      obtain ⟨N, hN⟩ : ∃ N, Bi.num b p j = N := ⟨_, rfl⟩
      rw [hN] at hn0 hn2
      have HN := Lib.hid hN
      have hqb : (q : Int) / 8 < (b.length : Int) := by omega
      have hql : q ≤ 8000000000 := by omega
      clear hx hq hbitd hn1 hblk hrd hA hbd
      rw [hN]
      clear hN
      go_wp2_with fail
      go_quiet (fail)
      go_wp2_with fail
      rw [get_val3 hn0 hn2 hx0 hx1]
      have hstep := Lib.hid (show ROut 59 lo hi w g b (q + 1) ((wr.drewN nq).setCell ⟨g, 1, none⟩ (.int .i64 ((q : Int) + 1))) by
        have h := HO.out
        rw [HQ.out] at h
        exact h.step (by have := HQ.out; omega) nq _ rfl)
      have hcell2 := Lib.hid ((HC.out.drewN nq).far (p := ⟨g, 1, none⟩) (by simp; omega) (.int .i64 ((q : Int) + 1)))
      go_roundg (gk - 1)
      case measure => omega
      case rel =>
        refine ⟨j + 1, by omega, by go_num, ?_, ?_, hcell2.out⟩
        · rw [num_step, HN.out, HQ.out, HBD.out]
        · rw [show p + (j + 1) = q + 1 by have := HQ.out; omega]; exact hstep.out
    · obtain rfl : j = n := by omega
      have HO := Lib.hid hout
      obtain ⟨hz0, hz1, hf0, hf1⟩ := err_store HC.out
      obtain ⟨N, hN⟩ : ∃ N, Bi.num b p j = N := ⟨_, rfl⟩
      have HNN := Lib.hid hN
      rw [hN]
      clear hout hN
      go_wp2_with fail
      refine bodyPost_ret (v := .tuple #[.int .i64 N, .agg #[.int .i64 0, .slice none 0 0]]) (by simp [results, Tryd.results27, go_sem, hz0, hz1]) rfl ⟨by rw [HNN.out], ?_⟩
      have hc2 : Chg (fun i => i = w.heap.size) wr ((wr.setCell ⟨w.heap.size, 0, none⟩ (.int .i64 0)).setCell ⟨w.heap.size, 1, none⟩ (.slice none 0 0)) :=
        ((Chg.refl (fun i => i = w.heap.size) wr).setCell (p := ⟨w.heap.size, 0, none⟩) (fun _ => rfl) _).setCell (p := ⟨w.heap.size, 1, none⟩) (fun _ => rfl) _
      obtain ⟨⟨r1, r2, A, c, r3, r4, r5⟩, r6⟩ := HO.out
      exact ⟨⟨r1, r2, A, c, r3.chg hc2 (by omega), r4.chg0 hc2 (fun a ha h0 e => by have := (r5 a ha h0).2.1; omega), r5⟩, r6.step hc2 (fun i hi e => by omega)⟩

end Go.Proofs.YtbdabjnmocnfpaaDoor
