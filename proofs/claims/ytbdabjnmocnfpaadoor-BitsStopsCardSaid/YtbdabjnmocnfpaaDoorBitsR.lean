/- Contracts of package bits: the reader. -/
import Derived.Test.YtbdabjnmocnfpaaDoorBitsW
import Derived.Test.YtbdabjnmocnfpaaDoorSameE
namespace Go.Proofs.YtbdabjnmocnfpaaDoor
open Go Go.RowKit Go.Extern.Stop Go.Stop Go.Extern

def sBits : ByteArray := ⟨#[98, 105, 116, 115]⟩

/-- At g there is a reader (of type t) of these bytes, at place n. -/
def RdrT (t : TypeId) (lo hi : Nat) (w : World) (g : Nat) (b : List Int) (n : Nat) : Prop :=
  n ≤ 8 * b.length ∧ (∀ x ∈ b, 0 ≤ x ∧ x ≤ 255) ∧ ∃ A c, Blk w g t #[.slice A b.length c, .int .i64 n] ∧ RdI .u8 w A b ∧ ∀ p, A = some p → 0 < b.length → lo ≤ p.block ∧ p.block < hi ∧ p.block ≠ g

theorem RdI.chg0 {k : IntKind} {S : Nat → Prop} {w w' : World} {A : Option Addr} {l : List Int} (h : RdI k w A l) (hb : Chg S w w') (hA : ∀ p, A = some p → 0 < l.length → ¬ S p.block) : RdI k w' A l := by
  rcases Nat.eq_zero_or_pos l.length with h0 | h0
  · exact ⟨h.1, fun hn => absurd hn (by omega)⟩
  · exact h.chg hb (fun p hp => hA p hp h0)
theorem RdrT.chg {t : TypeId} {S : Nat → Prop} {w w' : World} {lo hi g : Nat} {b : List Int} {n : Nat} (h : RdrT t lo hi w g b n) (hc : Chg S w w') (hg : ¬ S g) (hS : ∀ i, lo ≤ i → i < hi → ¬ S i) : RdrT t lo hi w' g b n := by
  obtain ⟨h1, h2, A, c, h3, h4, h5⟩ := h
  exact ⟨h1, h2, A, c, h3.chg hc hg, h4.chg0 hc (fun p hp h0 => hS _ (h5 p hp h0).1 (h5 p hp h0).2.1), h5⟩
theorem RdrT.keep {t : TypeId} {w w' : World} {lo hi g : Nat} {b : List Int} {n : Nat} (h : RdrT t lo hi w g b n) (hb : Below w.heap.size w w') : RdrT t lo hi w' g b n := by
  obtain ⟨h1, h2, A, c, h3, h4, h5⟩ := h
  exact ⟨h1, h2, A, c, h3.keep hb, h4.keep hb, h5⟩
theorem RdrT.lt {t : TypeId} {w : World} {lo hi g : Nat} {b : List Int} {n : Nat} (h : RdrT t lo hi w g b n) : g < w.heap.size := by
  obtain ⟨_, _, A, c, h3, _⟩ := h; exact h3.lt

theorem and_one8 : ∀ x : Nat, x < 256 → bits .and .u8 (x : Int) 1 = (x : Int) % 2 := by decide +kernel
theorem or_low {v b : Int} (h0 : 0 ≤ v) (h1 : v ≤ 4294967296) (hb0 : 0 ≤ b) (hb1 : b ≤ 1) : bits .or .i64 (2 * v) b = 2 * v + b := by
  obtain ⟨n, rfl⟩ := Int.eq_ofNat_of_zero_le h0
  obtain ⟨m, rfl⟩ := Int.eq_ofNat_of_zero_le hb0
  have hn : 2 * n < 2 ^ 64 := by omega
  have e : (BitVec.ofInt 64 (2 * (n : Int)) ||| BitVec.ofInt 64 (m : Int)).toNat = 2 * n + m := by
    have e1 : BitVec.ofInt 64 (2 * (n : Int)) = BitVec.ofNat 64 (2 * n) := by rw [← BitVec.ofInt_natCast]; rfl
    have e2 : BitVec.ofInt 64 (m : Int) = BitVec.ofNat 64 m := by rw [← BitVec.ofInt_natCast]
    rw [e1, e2, BitVec.toNat_or, BitVec.toNat_ofNat, BitVec.toNat_ofNat, Nat.mod_eq_of_lt hn, Nat.mod_eq_of_lt (by omega)]
    have hm : m = 0 ∨ m = 1 := by omega
    rcases hm with rfl | rfl
    · simp
    · have := Nat.two_pow_add_eq_or_of_lt (i := 1) (b := 1) (by omega) n
      simp only [Nat.pow_one] at this
      omega
  show IntKind.i64.wrap (((BitVec.ofInt 64 (2 * (n : Int)) ||| BitVec.ofInt 64 (m : Int)).toNat : Nat) : Int) = _
  rw [e, IntWalk.i64_in _ (by omega)]
  omega

theorem Left_any {lo hi g : Nat} {b : List Int} {p : Nat} (hb : b.length ≤ 1000000000) (w : World) (h : RdrT 75 lo hi w g b p) :
    Calls Tryd.prog 22 #[.pointer (some ⟨g, 0, none⟩)] w fun e w' => e = .returned (.int .i64 (8 * (b.length : Int) - p)) ∧ ∃ n, w' = w.drewN n := by
  obtain ⟨h1, _, A, c, hblk, _⟩ := h
  have hc0 : w.cell? ⟨g, 0, none⟩ = some (.slice A b.length c) := by rw [hblk.cell]; rfl
  have hc1 : w.cell? ⟨g, 1, none⟩ = some (.int .i64 p) := by rw [hblk.cell]; rfl
  have hw8 : IntKind.i64.wrap (8 * (b.length : Int)) = 8 * (b.length : Int) := IntWalk.i64_in _ (by omega)
  clear hblk
  go_enter Tryd.func22, Tryd.ntmps22
  go_wp2_with fail
  go_quiet (fail)
  go_wp2_with fail
  go_ret
  exact ⟨rfl, _, rfl⟩

theorem Place_any {lo hi g : Nat} {b : List Int} {p : Nat} (w : World) (h : RdrT 75 lo hi w g b p) :
    Calls Tryd.prog 24 #[.pointer (some ⟨g, 0, none⟩)] w fun e w' => e = .returned (.int .i64 p) ∧ w = w' := by
  obtain ⟨h1, _, A, c, hblk, _⟩ := h
  have hc1 : w.cell? ⟨g, 1, none⟩ = some (.int .i64 p) := by rw [hblk.cell]; rfl
  clear hblk
  go_enter Tryd.func24, Tryd.ntmps24
  go_wp2_with fail
  go_ret
  exact ⟨rfl, rfl⟩

set_option maxHeartbeats 1000000 in
theorem Get_range {n : Int} {p : Value} (w : World) (h : ¬ (0 ≤ n ∧ n ≤ 32)) : Calls Tryd.prog 23 #[p, .int .i64 n] w
    fun e w' => e = .returned (.tuple #[.int .i64 0, .iface 36 (.int .i64 3)]) ∧ w = w' := by
  rcases (show n < 0 ∨ (0 ≤ n ∧ 32 < n) by omega) with h1 | ⟨h1, h2⟩
  · clear h
    go_enter Tryd.func23, Tryd.ntmps23
    go_wp2_with fail
    go_ret2
    exact ⟨rfl, rfl⟩
  · clear h
    go_enter Tryd.func23, Tryd.ntmps23
    go_wp2_with fail
    go_ret2
    exact ⟨rfl, rfl⟩

set_option maxHeartbeats 1000000 in
theorem Get_short {lo hi g : Nat} {b : List Int} {p n : Nat} (hb : b.length ≤ 1000000000) (hn : n ≤ 32) (hs : 8 * b.length < p + n) (w : World) (h : RdrT 75 lo hi w g b p) :
    Calls Tryd.prog 23 #[.pointer (some ⟨g, 0, none⟩), .int .i64 n] w
      fun e w' => ∃ v, e = .returned (.tuple #[.int .i64 0, v]) ∧ ErrAt w' [(sBits, (p : Int))] (.iface 36 (.int .i64 1)) v ∧ Below w.heap.size w w' := by
  have hp := h.1
  have H := Lib.hid h
  have hgt : decide (8 * (b.length : Int) - p < n) = true := by simp; omega
  have hlt : 8 * (b.length : Int) - p < n := by omega
  clear h hgt
  go_enter Tryd.func23, Tryd.ntmps23
  go_wp2_with fail
  refine (Left_any hb _ H.out).mono ?_
  rintro e w1 ⟨rfl, nq, rfl⟩
  obtain ⟨_, _, A, c, hblk, _⟩ := H.out
  have hc1 : w.cell? ⟨g, 1, none⟩ = some (.int .i64 p) := by rw [hblk.cell]; rfl
  clear hblk
  go_wp2_with fail
  refine (In_some _ _ _ _ _).mono ?_
  rintro e w2 ⟨rfl, hB, hb2⟩
  go_wp2_with fail
  go_ret2
  exact ⟨_, rfl, ⟨_, _, rfl, hB, rfl⟩, (below_drewN (Below.refl _ _) nq).trans hb2⟩

/-- A reader's call that reads: it is at q now; only it has turned. -/
def ROut (t : TypeId) (lo hi : Nat) (w : World) (g : Nat) (b : List Int) (q : Nat) (w' : World) : Prop := RdrT t lo hi w' g b q ∧ Chg (fun i => i = g) w w'

theorem get_val {N x : Int} {k : Nat} (h0 : 0 ≤ N) (h1 : N ≤ 2147483648) (hx0 : 0 ≤ x) (hx1 : x ≤ 255) : bits .or .i64 (N * 2) (wrap64 (bits .and .u8 (x / 2 ^ k) 1)) = 2 * N + x / 2 ^ k % 2 := by
  have hd0 : 0 ≤ x / 2 ^ k := Int.ediv_nonneg hx0 (Int.le_of_lt (Int.pow_pos (by omega)))
  have hd1 : x / 2 ^ k ≤ x := Int.ediv_le_self _ hx0
  obtain ⟨y, hy⟩ := Int.eq_ofNat_of_zero_le hd0
  rw [hy] at hd1 ⊢
  rw [and_one8 y (by omega)]
  have hw : wrap64 ((y : Int) % 2) = (y : Int) % 2 := by unfold wrap64; omega
  rw [hw, Int.mul_comm, or_low h0 (by omega) (by omega) (by omega)]
theorem ROut.step {t : TypeId} {w wr : World} {lo hi g : Nat} {b : List Int} {q : Nat} (h : ROut t lo hi w g b q wr) (hq : q < 8 * b.length) (nq : Nat) (v : Int) (hv : v = (q : Int) + 1) : ROut t lo hi w g b (q + 1) ((wr.drewN nq).setCell ⟨g, 1, none⟩ (.int .i64 v)) := by
  obtain ⟨⟨h1, h2, A, c, h3, h4, h5⟩, h6⟩ := h
  refine ⟨⟨by omega, h2, A, c, ?_, ?_, h5⟩, (h6.drewN nq).setCell (fun _ => rfl) _⟩
  · have := (h3.drewN nq).store 1 (.int .i64 v)
    have e : v = ((q + 1 : Nat) : Int) := by omega
    rw [← e]
    simpa using this
  · exact RdI.chg0 (S := fun i => i = g) h4 (((Chg.refl (fun i => i = g) wr).drewN nq).setCell (p := ⟨g, 1, none⟩) (fun _ => rfl) _) (fun p hp h0 e => (h5 p hp h0).2.2 e)

theorem num_step (b : List Int) (p j : Nat) : Bi.num b p (j + 1) = 2 * Bi.num b p j + Bi.bit b (p + j) := rfl

set_option maxRecDepth 100000 in
set_option maxHeartbeats 1000000 in
theorem Get_ok {lo hi g : Nat} {b : List Int} {p n : Nat} (hb : b.length ≤ 1000000000) (hn : n ≤ 32) (hs : p + n ≤ 8 * b.length) (w : World) (h : RdrT 75 lo hi w g b p) :
    Calls Tryd.prog 23 #[.pointer (some ⟨g, 0, none⟩), .int .i64 n] w
      fun e w' => e = .returned (.tuple #[.int .i64 (Bi.num b p n), .nilIface]) ∧ ROut 75 lo hi w g b (p + n) w' := by
  have hp := h.1
  have H := Lib.hid h
  have hgt : decide (8 * (b.length : Int) - p < n) = false := by simp; omega
  clear h
  go_enter Tryd.func23, Tryd.ntmps23
  go_wp2_with fail
  refine (Left_any hb _ H.out).mono ?_
  rintro e w1 ⟨rfl, nq, rfl⟩
  have H1 : Hid (ROut 75 lo hi w g b p (w.drewN nq)) := ⟨H.out, (Chg.refl _ _).drewN nq⟩
  clear hgt
  go_wp2_with fail
  go_loopg [6, 27] n (fun k vv vi wr => ∃ j : Nat, j + k = n ∧ vi = .int .i64 j ∧ vv = .int .i64 (Bi.num b p j) ∧ ROut 75 lo hi w g b (p + j) wr)
  case atStart => exact ⟨0, by omega, rfl, rfl, H1.out⟩
  case round =>
    obtain ⟨j, hj, rfl, rfl, hout⟩ := hrel
    by_cases hlt : j < n
    · have HO := Lib.hid hout
      obtain ⟨⟨_, hbd, A, c, hblk, hrd, hA⟩, _⟩ := hout
      obtain ⟨b2, o2, rfl, k2⟩ := hrd.at_ (show (p + j) / 8 < b.length by omega)
      have hc0 : wr.cell? ⟨g, 0, none⟩ = some (.slice (some ⟨b2, o2, none⟩) b.length c) := by rw [hblk.cell]; rfl
      have hc1 : wr.cell? ⟨g, 1, none⟩ = some (.int .i64 ((p + j : Nat) : Int)) := by rw [hblk.cell]; rfl
      have hf1 := hblk.frozen 1
      obtain ⟨hx0, hx1⟩ := hbd _ (List.getElem_mem (show (p + j) / 8 < b.length by omega))
      have hlt' : (j : Int) < (n : Int) := by omega
      have hbitd : Bi.bit b (p + j) = b[(p + j) / 8]'(by omega) / 2 ^ (7 - (p + j) % 8) % 2 := by
        unfold Bi.bit
        rw [List.getD_eq_getElem?_getD, List.getElem?_eq_getElem (by omega)]; rfl
      obtain ⟨x, hx⟩ : ∃ x, b[(p + j) / 8]'(by omega) = x := ⟨_, rfl⟩
      rw [hx] at k2 hx0 hx1 hbitd
      obtain ⟨q, hq⟩ : ∃ q, p + j = q := ⟨_, rfl⟩
      rw [hq] at k2 hc1 hbitd
      have HQ := Lib.hid hq
      have HBD := Lib.hid hbitd
      obtain ⟨hn0, hn1⟩ := Bi.num_bd b p j
      have hn2 : Bi.num b p j ≤ 2147483648 := by
        have : (2 : Int) ^ j ≤ 2 ^ 31 := by exact_mod_cast Nat.pow_le_pow_right (by omega : 0 < 2) (show j ≤ 31 by omega)
        have e : (2 : Int) ^ 31 = 2147483648 := by decide
        omega
      obtain ⟨N, hN⟩ : ∃ N, Bi.num b p j = N := ⟨_, rfl⟩
      rw [hN] at hn0 hn2
      have HN := Lib.hid hN
      have hqb : (q : Int) / 8 < (b.length : Int) := by omega
      have hql : q ≤ 8000000000 := by omega
      clear hx hq hbitd hn1 hblk hrd hA hbd
      rw [hN]
      clear hN
      go_wp2_with fail
      go_quiet (fail)
      go_wp2_with fail
      rw [get_val hn0 hn2 hx0 hx1]
      have hstep := Lib.hid (show ROut 75 lo hi w g b (q + 1) ((wr.drewN nq).setCell ⟨g, 1, none⟩ (.int .i64 ((q : Int) + 1))) by
        have h := HO.out
        rw [HQ.out] at h
        exact h.step (by have := HQ.out; omega) nq _ rfl)
      go_roundg (gk - 1)
      case measure => omega
      case rel =>
        refine ⟨j + 1, by omega, by go_num, ?_, ?_⟩
        · rw [num_step, HN.out, HQ.out, HBD.out]
        · rw [show p + (j + 1) = q + 1 by have := HQ.out; omega]; exact hstep.out
    · obtain rfl : j = n := by omega
      have HO := Lib.hid hout
      clear hout
      go_wp2_with fail
      go_ret2
      exact ⟨rfl, HO.out⟩

/-! ### Flag, Align, a new one -/
theorem num_one (b : List Int) (p : Nat) : Bi.num b p 1 = Bi.bit b p := by simp [Bi.num]

theorem Flag_ok {lo hi g : Nat} {b : List Int} {p : Nat} (hb : b.length ≤ 1000000000) (hs : p + 1 ≤ 8 * b.length) (w : World) (h : RdrT 75 lo hi w g b p) :
    Calls Tryd.prog 28 #[.pointer (some ⟨g, 0, none⟩)] w
      fun e w' => e = .returned (.tuple #[.bool (Bi.bit b p == 1), .nilIface]) ∧ ROut 75 lo hi w g b (p + 1) w' := by
  have H := Lib.hid (Get_ok (n := 1) hb (by omega) hs w h)
  rw [num_one] at H
  clear h
  go_enter Tryd.func28, Tryd.ntmps28
  go_wp2_with fail
  refine H.out.mono ?_
  rintro e w1 ⟨rfl, ho⟩
  go_wp2_with fail
  go_ret2
  exact ⟨rfl, ho⟩
theorem Flag_short {lo hi g : Nat} {b : List Int} {p : Nat} (hb : b.length ≤ 1000000000) (hs : 8 * b.length < p + 1) (w : World) (h : RdrT 75 lo hi w g b p) :
    Calls Tryd.prog 28 #[.pointer (some ⟨g, 0, none⟩)] w
      fun e w' => ∃ v, e = .returned (.tuple #[.bool false, v]) ∧ ErrAt w' [(sBits, (p : Int))] (.iface 36 (.int .i64 1)) v ∧ Below w.heap.size w w' := by
  have H := Lib.hid (Get_short (n := 1) hb (by omega) hs w h)
  clear h
  go_enter Tryd.func28, Tryd.ntmps28
  go_wp2_with fail
  refine H.out.mono ?_
  rintro e w1 ⟨v, rfl, he, hb1⟩
  go_wp2_with fail
  go_ret2
  exact ⟨v, rfl, he, hb1⟩

/-- The first place of k from p on that is one. -/
def firstOne (b : List Int) (p : Nat) : Nat → Option Nat
  | 0 => none
  | k + 1 => match firstOne b p k with
    | some a => some a
    | none => if Bi.bit b (p + k) = 1 then some (p + k) else none
/-- How many places there are up to a whole byte. -/
def padTo (p : Nat) : Nat := (8 - p % 8) % 8
def oneP : Option Nat → List (ByteArray × Int)
  | none => []
  | some a => [(sBits, (a : Int))]
def oneC : Option Nat → Int
  | none => 0
  | some _ => 2
theorem oneP_le (o : Option Nat) : (oneP o).length ≤ 1000000000000 := by cases o <;> simp [oneP]

theorem ErrR.chg {S : Nat → Prop} {w w' : World} {p : List (ByteArray × Int)} {c : Int} {v : Value} (h : ErrR w p c v) (hc : Chg S w w') (hS : ∀ g cs, Blk w g 83 cs → ¬ S g) : ErrR w' p c v := by
  rcases h with h | ⟨h1, h2⟩
  · exact .inl h
  · exact .inr ⟨h1, ErrAt.keep (fun g cs hB => hB.chg hc (hS g cs hB)) h2⟩

set_option maxRecDepth 100000 in
set_option maxHeartbeats 1000000 in
theorem Align_any {lo hi g : Nat} {b : List Int} {p : Nat} (hb : b.length ≤ 1000000000) (w : World) (h : RdrT 75 lo hi w g b p) :
    Calls Tryd.prog 25 #[.pointer (some ⟨g, 0, none⟩)] w
      fun e w' => ∃ v, e = .returned v ∧ ErrR w' (oneP (firstOne b p (padTo p))) (oneC (firstOne b p (padTo p))) v ∧ ROut 75 lo hi w g b (p + padTo p) w' := by
  have hp := h.1
  have H : Hid (ROut 75 lo hi w g b p w) := ⟨h, Chg.refl _ _⟩
  clear h
  obtain ⟨n, hn⟩ : ∃ n, padTo p = n := ⟨_, rfl⟩
  have hn8 : (p + n) % 8 = 0 ∧ n < 8 := by rw [← hn]; unfold padTo; omega
  obtain ⟨hn8, hn7⟩ := hn8
  rw [hn]
  clear hn
  have hpn : p + n ≤ 8 * b.length := by omega
  go_enter Tryd.func25, Tryd.ntmps25
  go_wp2_with fail
  go_loopg [3] n (fun k ve wr => ∃ j : Nat, j + k = n ∧ ROut 75 lo hi w g b (p + j) wr ∧ ErrR wr (oneP (firstOne b p j)) (oneC (firstOne b p j)) ve)
  case atStart => exact ⟨0, by omega, H.out, .inl ⟨rfl, rfl, rfl⟩⟩
  case round =>
    obtain ⟨j, hj, hout, herr⟩ := hrel
    have HE := Lib.hid herr
    have HO := Lib.hid hout
    obtain ⟨⟨_, hbd, A, c, hblk, hrd, hA⟩, _⟩ := hout
    have hc1 : wr.cell? ⟨g, 1, none⟩ = some (.int .i64 ((p + j : Nat) : Int)) := by rw [hblk.cell]; rfl
    have HB := Lib.hid hblk
    clear hblk hrd hA hbd herr
    by_cases hlt : j < n
    · have hgt : decide (0 < ((p + j : Nat) : Int) % 8) = true := by simp; omega
      obtain ⟨q, hq⟩ : ∃ q, p + j = q := ⟨_, rfl⟩
      rw [hq] at hc1 hgt
      have HQ := Lib.hid hq
      have hrq : RdrT 75 lo hi wr g b q := by rw [← hq]; exact HO.out.1
      have HG := Lib.hid (Get_ok (n := 1) hb (by omega) (by omega) _ hrq)
      rw [num_one] at HG
      have hbb := Bi.bit_bd b q
      obtain ⟨x, hx⟩ : ∃ x, Bi.bit b q = x := ⟨_, rfl⟩
      rw [hx] at HG hbb
      have HX := Lib.hid hx
      clear hq hx hrq
      go_wp2_with fail
      refine HG.out.mono ?_
      rintro e w1 ⟨rfl, ho1, hch1⟩
      have he1 : ErrR w1 (oneP (firstOne b p j)) (oneC (firstOne b p j)) u3 := HE.out.chg hch1 (fun g' cs hB' => Blk.apart hB' HB.out (by decide))
      have ho2 : ROut 75 lo hi w g b (q + 1) w1 := ⟨ho1, HO.out.2.trans hch1⟩
      have hq1 : p + (j + 1) = q + 1 := by have := HQ.out; omega
      rw [← hq1] at ho2
      have HO2 := Lib.hid ho2
      clear hq1 ho2 ho1 hc1
      by_cases hx0 : x = 0
      · have hne : (x != 0) = false := by rw [hx0]; rfl
        have hf : firstOne b p (j + 1) = firstOne b p j := by
          simp only [firstOne]
          rw [HQ.out, HX.out, if_neg (by omega)]
          split <;> simp_all
        have HE1 := Lib.hid he1
        rw [← hf] at HE1
        clear hx0 hf he1 hgt
        go_wp2_with fail
        go_roundg (gk - 1)
        case measure => omega
        case rel => exact ⟨j + 1, by omega, HO2.out, HE1.out⟩
      · have hx1 : x = 1 := by omega
        have hne : (x != 0) = true := by rw [hx1]; rfl
        cases hfo : firstOne b p j with
        | some a =>
          have hf : firstOne b p (j + 1) = firstOne b p j := by
            simp only [firstOne]
            rw [hfo]
          rw [hfo] at he1
          rcases he1 with ⟨h0, _⟩ | ⟨_, he1⟩
          · cases h0
          obtain ⟨T, y, rfl⟩ := he1.iface
          have HE1 : Hid (ErrR w1 (oneP (firstOne b p (j + 1))) (oneC (firstOne b p (j + 1))) (.iface T y)) := by rw [hf, hfo]; exact .inr ⟨by simp [oneC], he1⟩
          clear hx0 hx1 hf hfo he1 hgt HE
          go_wp2_with fail
          go_roundg (gk - 1)
          case measure => omega
          case rel => exact ⟨j + 1, by omega, HO2.out, HE1.out⟩
        | none =>
          have hf : firstOne b p (j + 1) = some q := by
            simp only [firstOne]
            rw [hfo, HQ.out, HX.out, if_pos hx1]
          rw [hfo] at he1
          rcases he1 with ⟨_, _, rfl⟩ | ⟨h0, _⟩
          rotate_left 1
          · exact absurd rfl h0
          have HF := Lib.hid hf
          clear hx0 hx1 hf hfo hgt HE
          go_wp2_with fail
          refine (In_some _ _ _ _ _).mono ?_
          rintro e w2 ⟨rfl, hB, hb2⟩
          have HE1 : Hid (ErrR w2 (oneP (firstOne b p (j + 1))) (oneC (firstOne b p (j + 1))) (.iface 80 (.pointer (some ⟨w1.heap.size, 0, none⟩)))) := by
            rw [HF.out]; exact .inr ⟨by simp [oneC], _, _, rfl, hB, rfl⟩
          have HO3 : Hid (ROut 75 lo hi w g b (p + (j + 1)) w2) := ⟨HO2.out.1.keep hb2, HO2.out.2.trans (Chg.of_below hb2)⟩
          clear hB hb2 HO2
          go_wp2_with fail
          go_roundg (gk - 1)
          case measure => omega
          case rel => exact ⟨j + 1, by omega, HO3.out, HE1.out⟩
    · obtain rfl : j = n := by omega
      have hgt : decide (0 < ((p + j : Nat) : Int) % 8) = false := by simp; omega
      go_wp2_with fail
      go_ret
      exact ⟨_, rfl, HE.out, HO.out⟩

theorem own_lit {n a c k : Nat} (h : (Value.slice (some ⟨n, 0, none⟩) a c).ownBlock = some k) : n = k := by simpa [Value.ownBlock] using h

set_option maxHeartbeats 1000000 in
theorem NewReader_any {b : List Int} {A : Option Addr} {c : Nat} (hb : b.length ≤ 1000000000) (hbd : ∀ x ∈ b, 0 ≤ x ∧ x ≤ 255) (w : World) (ha : RdI .u8 w A b) :
    Calls Tryd.prog 21 #[.slice A b.length c] w
      fun e w' => ∃ g, e = .returned (.pointer (some ⟨g, 0, none⟩)) ∧ RdrT 75 w.heap.size g w' g b 0 ∧ w.heap.size ≤ g ∧ Below w.heap.size w w' := by
  obtain ⟨i0, hi, hz0, hz1, hz2⟩ := info_parts u8Info
  have HA := Lib.hid ha
  clear ha
  go_enter Tryd.func21, Tryd.ntmps21
  go_wp2_with (at_builtin; refine wpList_append_rd _ rfl (.tmp 3) (.tmp 4) _ rfl w.heap.size 5 i0 _ 1 1 Tryd.underlying43 hi hz0 hz1 hz2 rfl (by omega) (.slice (some ⟨w.heap.size, 0, none⟩) 0 0) 0 [] rfl (own_empty w _ _ _ (Nat.le_refl _)) A b.length c _ rfl (HA.out.alloc _) (ints_one _ _) (by unfold maxLen; omega) (by omega) (by simp) ?_; intro B cap w1 hown1 hg1 hat1; simp only [Nat.zero_add, List.nil_append] at hown1)
  go_ret
  have hbl : Below w.heap.size w w1 := ((Below.refl _ _).alloc (Nat.le_refl _) _).grown hg1 (by simp) (fun k hk => Nat.le_of_eq (own_lit hk))
  refine ⟨w1.heap.size, rfl, ⟨by omega, hbd, B, cap, ?_, ?_, ?_⟩, hbl.size, hbl.alloc hbl.size _⟩
  · simpa using Blk.new w1 75 #[.slice B (0 + b.length) cap, .int .i64 0]
  · exact ((RdI.of_own hown1).1).alloc _
  · rintro a rfl _
    have h := hown1.lt a.block rfl
    exact ⟨h.1, h.2, Nat.ne_of_lt h.2⟩

end Go.Proofs.YtbdabjnmocnfpaaDoor
