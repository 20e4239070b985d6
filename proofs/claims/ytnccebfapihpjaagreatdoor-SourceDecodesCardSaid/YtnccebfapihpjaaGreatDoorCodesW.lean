/- Contracts of package codes: the codes put; and the document's. -/
import Derived.Test.YtnccebfapihpjaaGreatDoorCodesA
import Derived.Test.YtnccebfapihpjaaGreatDoorBitsCom
namespace Go.Proofs.YtnccebfapihpjaaGreatDoor
open Go Go.RowKit Go.Extern.Stop Go.Stop Go.Extern

theorem bitsOf_zero : ∀ n, Bi.bitsOf 0 n = List.replicate n false := by
  intro n
  induction n with
  | zero => rfl
  | succ n ih => simp [Bi.bitsOf, ih, List.replicate_succ]
theorem and_mask {x : Int} {k : Nat} (h0 : 0 ≤ x) (h1 : x ≤ 4294967296) (hk : k ≤ 31) : bits .and .i64 x (2 ^ k - 1) = x % 2 ^ k := by
  obtain ⟨n, rfl⟩ := Int.eq_ofNat_of_zero_le h0
  have hn : n < 2 ^ 64 := by omega
  have hp := Nat.two_pow_pos k
  have hp2 : 2 ^ k ≤ 2 ^ 31 := Nat.pow_le_pow_right (by omega) hk
  have e0 : ((2 : Int) ^ k - 1) = ((2 ^ k - 1 : Nat) : Int) := by
    have : ((2 ^ k : Nat) : Int) = 2 ^ k := by norm_cast
    omega
  have e : (BitVec.ofInt 64 (n : Int) &&& BitVec.ofInt 64 ((2 ^ k - 1 : Nat) : Int)).toNat = n % 2 ^ k := by
    rw [BitVec.toNat_and]
    simp only [BitVec.ofInt_natCast, BitVec.toNat_ofNat]
    rw [Nat.mod_eq_of_lt hn, Nat.mod_eq_of_lt (by omega), Nat.and_two_pow_sub_one_eq_mod]
  rw [e0]
  show IntKind.i64.wrap (((BitVec.ofInt 64 (n : Int) &&& BitVec.ofInt 64 ((2 ^ k - 1 : Nat) : Int)).toNat : Nat) : Int) = _
  have hm : n % 2 ^ k < 2 ^ k := Nat.mod_lt _ hp
  rw [e, IntWalk.i64_in _ (by omega)]
  exact_mod_cast rfl

theorem RWOut.then_ {w w' w'' : World} {B g : Nat} {v : Value} {m m' : List Bool} (h : RWOut w B g v m w') (k : ∀ v', RWtr w' B g v' m → RWOut w' B g v' m' w'') : RWOut w B g v m' w'' := by
  obtain ⟨v', h1, h2, h3⟩ := h
  exact RWOut.trans h2 h3 (k v' h1)
/-- The document's answer's cell, while its writer is at work. -/
theorem RWOut.errcell {w w1 : World} {B g : Nat} {v : Value} {l m : List Bool} (hw : RWtr w B g v l) (h : RWOut (w.alloc (.cells #[.int .i64 0, .slice none 0 0] 34)) B g v m w1) : Blk w1 w.heap.size 34 #[.int .i64 0, .slice none 0 0] := by
  obtain ⟨v', h1, h2, h3⟩ := h
  refine (Blk.new w _ _).chg h2 (fun hS => ?_)
  rcases hS with e | e
  · have := hw.1.lt; omega
  · have := (hw.2.lt _ e).2; omega
theorem RWOut.errset {w w1 : World} {B g : Nat} {v : Value} {l m : List Bool} (hw : RWtr w B g v l) (h : RWOut (w.alloc (.cells #[.int .i64 0, .slice none 0 0] 34)) B g v m w1) (x y : Value) : RWOut w B g v m ((w1.setCell ⟨w.heap.size, 0, none⟩ x).setCell ⟨w.heap.size, 1, none⟩ y) := by
  have hcell := h.errcell hw
  obtain ⟨v', ⟨hblk, hown⟩, h2, h3⟩ := h
  have hnz := own_notBlk hown hcell (by decide)
  have hne : g ≠ w.heap.size := by have := hw.1.lt; omega
  have hc2 : Chg (fun i => i = w.heap.size) w1 ((w1.setCell ⟨w.heap.size, 0, none⟩ x).setCell ⟨w.heap.size, 1, none⟩ y) :=
    ((Chg.refl (fun i => i = w.heap.size) w1).setCell (p := ⟨w.heap.size, 0, none⟩) (fun _ => rfl) _).setCell (p := ⟨w.heap.size, 1, none⟩) (fun _ => rfl) _
  have hc1 : Chg (WS g v) w (w.alloc (.cells #[.int .i64 0, .slice none 0 0] 34)) := (Chg.refl _ _).alloc _
  refine ⟨v', ⟨hblk.chg hc2 hne, own_chg hown hc2 (fun i hi e => hnz (by rw [hi, e]))⟩, (hc1.trans h2).step hc2 (fun i hi e => by omega), fun i hi => ?_⟩
  rcases h3 i hi with h4 | h4
  · exact .inl h4
  · right; simp at h4; omega
theorem RWtr.alloc {w : World} {B g : Nat} {v : Value} {l : List Bool} (h : RWtr w B g v l) (o : _) : RWtr (w.alloc o) B g v l := h.keep ((Below.refl _ _).alloc (Nat.le_refl _) _)

/-- A number with a sign that may be is folded to one that may be. -/
theorem fold_may {x : Int} (h : Co.seMay x = true) : Co.ueMay (Co.fold x) = true := by
  obtain ⟨h0, h1⟩ := of_decide_eq_true h
  refine decide_eq_true ?_
  by_cases hx : 0 < x
  · rw [Co.fold_pos (by omega) hx]; omega
  · rw [Co.fold_neg (by omega) (by omega)]; omega
set_option maxHeartbeats 1000000 in
theorem PutRice_no {x k : Int} (hx : -9223372036854775808 ≤ x ∧ x ≤ 9223372036854775807) (hk : -9223372036854775808 ≤ k ∧ k ≤ 9223372036854775807) {p : Value} (w : World) (h : Co.riceMay x k = false) : Calls Tryz.prog 23 #[p, .int .i64 x, .int .i64 k] w
    fun e w' => e = .returned (.iface 31 (.int .i64 3)) ∧ w = w' := by
  go_enter Tryz.func23, Tryz.ntmps23
  go_wp2_with fail
  refine (rice_any _ _ hx hk _).mono ?_
  rintro e w1 ⟨rfl, rfl⟩
  rw [h]
  go_wp2_with fail
  go_ret
  exact ⟨rfl, rfl⟩

set_option maxHeartbeats 2000000 in
theorem PutRice_yes {l : List Bool} {x : Int} {k : Nat} {B g : Nat} {v : Value} (hl : l.length ≤ 999990000) (w : World) (hB : B ≤ w.heap.size) (h : Co.riceMay x k = true) (hw : Wtr w B g v l) :
    Calls Tryz.prog 23 #[.pointer (some ⟨g, 0, none⟩), .int .i64 x, .int .i64 k] w
      fun e w' => e = .returned .nilIface ∧ WOut w B g v (l ++ Co.riceBits x k) w' := by
  obtain ⟨h0, h1, _, h3⟩ := of_decide_eq_true h
  have hk : k ≤ 15 := by omega
  have hd0 := Co.div_pow_nonneg h0 k
  have hd1 : x / 2 ^ k ≤ x := Int.ediv_le_self _ h0
  have hmask := Lib.hid (and_mask (x := x) (k := k) h0 (by omega) (by omega))
  have hp0 : (0 : Int) < 2 ^ k := Int.pow_pos (by omega)
  have hm0 := Lib.hid (Int.emod_nonneg x (show (2 : Int) ^ k ≠ 0 by omega))
  have hm1 := Lib.hid (Int.emod_lt_of_pos x hp0)
  have hp1 : (2 : Int) ^ k ≤ 32768 := by
    have : (2 : Int) ^ k ≤ 2 ^ 15 := Co.pow_mono hk
    have e : (2 : Int) ^ 15 = 32768 := by decide
    omega
  unfold Co.riceBits
  obtain ⟨q, hq⟩ := Int.eq_ofNat_of_zero_le hd0
  have HQ := Lib.hid hq
  have H := Lib.hid hw
  have HR := Lib.hid h
  clear h hw
  by_cases hlt : x / 2 ^ k < 24
  · rw [if_pos hlt]
    clear hq
    go_enter Tryz.func23, Tryz.ntmps23
    go_wp2_with fail
    refine (rice_any _ _ ⟨by omega, by omega⟩ ⟨by omega, by omega⟩ _).mono ?_
    rintro e w1 ⟨rfl, rfl⟩
    rw [HR.out]
    have hq24 : q < 24 := by have := HQ.out; omega
    go_wp2_with fail
    go_loopg [18] q (fun m vi wr => ∃ i : Nat, i + m = q ∧ vi = .int .i64 i ∧ WOut w B g v (l ++ List.replicate i true) wr)
    case atStart => exact ⟨0, by omega, rfl, by simpa using WOut.refl H.out⟩
    case round =>
      obtain ⟨i, hi, rfl, v1, hw1, hc1, hv1⟩ := hrel
      have hl1 : (l ++ List.replicate i true).length ≤ 999999000 := by simp; omega
      have hs1 := hc1.size
      have HW1 := Lib.hid hw1
      have HC1 := Lib.hid hc1
      have HV1 := Lib.hid hv1
      clear hw1 hc1 hv1
      by_cases hm : i < q
      · have hm' : (i : Int) < x / 2 ^ k := by have := HQ.out; omega
        go_wp2_with fail
        refine (WFlag_any (by omega) _ (by omega) HW1.out).mono ?_
        rintro e w2 ⟨rfl, ho2⟩
        have HO := Lib.hid (WOut.trans HC1.out HV1.out ho2)
        clear ho2
        go_wp2_with fail
        go_roundg (gk - 1)
        case measure => omega
        case rel => exact ⟨i + 1, by omega, by go_num, by rw [List.replicate_succ', ← List.append_assoc]; exact HO.out⟩
      · obtain rfl : i = q := by omega
        have hm' : ¬ (i : Int) < x / 2 ^ k := by have := HQ.out; omega
        go_wp2_with fail
        refine (WFlag_any (by omega) _ (by omega) HW1.out).mono ?_
        rintro e w2 ⟨rfl, ho2⟩
        obtain ⟨v2, hw2, hc2, hv2⟩ := WOut.trans HC1.out HV1.out ho2
        have hl2 : (l ++ List.replicate i true ++ [false]).length ≤ 999999000 := by simp; omega
        have hs2 := hc2.size
        have HW2 := Lib.hid hw2
        have HC2 := Lib.hid hc2
        have HV2 := Lib.hid hv2
        clear ho2 hw2 hc2 hv2
        go_wp2_with fail
        rw [hmask.out]
        refine (Put_yes (x := x % 2 ^ k) (n := k) hl2 _ (by omega) (by omega) hm0.out hm1.out HW2.out).mono ?_
        rintro e w3 ⟨rfl, ho3⟩
        go_wp2_with fail
        go_ret
        refine ⟨rfl, ?_⟩
        have := WOut.trans HC2.out HV2.out ho3
        rw [HQ.out]
        simpa using this
  · rw [if_neg hlt]
    clear hq
    go_enter Tryz.func23, Tryz.ntmps23
    go_wp2_with fail
    refine (rice_any _ _ ⟨by omega, by omega⟩ ⟨by omega, by omega⟩ _).mono ?_
    rintro e w1 ⟨rfl, rfl⟩
    rw [HR.out]
    go_wp2_with fail
    go_loopg [18] 24 (fun m vi wr => ∃ i : Nat, i + m = 24 ∧ vi = .int .i64 i ∧ WOut w B g v (l ++ List.replicate i true) wr)
    case atStart => exact ⟨0, by omega, rfl, by simpa using WOut.refl H.out⟩
    case round =>
      obtain ⟨i, hi, rfl, v1, hw1, hc1, hv1⟩ := hrel
      have hl1 : (l ++ List.replicate i true).length ≤ 999999000 := by simp; omega
      have hs1 := hc1.size
      have HW1 := Lib.hid hw1
      have HC1 := Lib.hid hc1
      have HV1 := Lib.hid hv1
      clear hw1 hc1 hv1
      by_cases hm : i < 24
      · go_wp2_with fail
        refine (WFlag_any (by omega) _ (by omega) HW1.out).mono ?_
        rintro e w2 ⟨rfl, ho2⟩
        have HO := Lib.hid (WOut.trans HC1.out HV1.out ho2)
        clear ho2
        go_wp2_with fail
        go_roundg (gk - 1)
        case measure => omega
        case rel => exact ⟨i + 1, by omega, by go_num, by rw [List.replicate_succ', ← List.append_assoc]; exact HO.out⟩
      · obtain rfl : i = 24 := by omega
        go_wp2_with fail
        refine (Put_yes (x := x) (n := 31) hl1 _ (by omega) (by omega) h0 (by omega) HW1.out).mono ?_
        rintro e w3 ⟨rfl, ho3⟩
        go_wp2_with fail
        go_ret
        refine ⟨rfl, ?_⟩
        have := WOut.trans HC1.out HV1.out ho3
        rwa [List.append_assoc] at this

end Go.Proofs.YtnccebfapihpjaaGreatDoor
