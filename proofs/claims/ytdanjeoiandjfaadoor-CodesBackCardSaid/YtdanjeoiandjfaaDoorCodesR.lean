/- Contracts of package codes: the codes read. -/
import Derived.Test.YtdanjeoiandjfaaDoorCodesRW
namespace Go.Proofs.YtdanjeoiandjfaaDoor
open Go Go.RowKit Go.Extern.Stop Go.Stop Go.Extern

def sCodes : ByteArray := ⟨#[99, 111, 100, 101, 115]⟩
/-- What a reading answers: its number, its path, its code. -/
def gotV : Co.Got → Int
  | .num v => v
  | _ => 0
def gotP : Co.Got → List (ByteArray × Int)
  | .num _ => []
  | .short a => [(sBits, (a : Int))]
  | .range a => [(sCodes, (a : Int))]
def gotC : Co.Got → Int
  | .num _ => 0
  | .short _ => 1
  | .range _ => 3
theorem gotP_le (r : Co.Got) : (gotP r).length ≤ 1000000000000 := by cases r <;> simp [gotP]

/-- A code that is read: what is answered, and where one stands. -/
def GOut (lo hi : Nat) (w : World) (g : Nat) (b : List Int) (r : Co.Got × Nat) (e : Ending) (w' : World) : Prop :=
  ∃ v, e = .returned (.tuple #[.int .i64 (gotV r.1), v]) ∧ ErrR w' (gotP r.1) (gotC r.1) v ∧ ROut 74 lo hi w g b r.2 w'

theorem refuse_any {lo hi g : Nat} {b : List Int} {p : Nat} (w : World) (h : RdrT 74 lo hi w g b p) :
    Calls Tryd.prog 53 #[.pointer (some ⟨g, 0, none⟩)] w
      fun e w' => ∃ v, e = .returned v ∧ ErrAt w' [(sCodes, (p : Int))] (.iface 57 (.int .i64 3)) v ∧ Below w.heap.size w w' := by
  have H := Lib.hid h
  clear h
  go_enter Tryd.func53, Tryd.ntmps53
  go_wp2_with fail
  refine (Place_any _ H.out).mono ?_
  rintro e w1 ⟨rfl, rfl⟩
  go_wp2_with fail
  refine (In_some _ _ _ _ _).mono ?_
  rintro e w2 ⟨rfl, hB, hb2⟩
  go_wp2_with fail
  go_ret
  exact ⟨_, rfl, ⟨_, _, rfl, hB, rfl⟩, hb2⟩

/-- Bounds of a code's number, whatever the bits are. -/
theorem pow_bd {n : Nat} (h : n ≤ 31) : (0 : Int) < 2 ^ n ∧ (2 : Int) ^ n ≤ 2147483648 := by
  refine ⟨Int.pow_pos (by omega), ?_⟩
  have : (2 : Int) ^ n ≤ 2 ^ 31 := Co.pow_mono h
  have e : (2 : Int) ^ 31 = 2147483648 := by decide
  omega
theorem zeros_le {b : List Int} {T p m : Nat} {k n : Nat} (h : Co.zeros b T p k n = .ok m) : m < n + k := (Co.zeros_ok.1 h).2.1
theorem unfold_bd {u : Int} (h0 : 0 ≤ u) (h1 : u ≤ 4294967296) : -4294967296 ≤ Co.unfold' u ∧ Co.unfold' u ≤ 4294967296 := by
  unfold Co.unfold'
  split
  · omega
  · split <;> omega
theorem ue_bd {b : List Int} {T p q : Nat} {v : Int} (h : Co.ue b T p = (.num v, q)) : 0 ≤ v ∧ v ≤ 4294967296 := by
  unfold Co.ue at h
  split at h
  · next e he =>
    have h1 := congrArg Prod.fst h
    simp only at h1
    subst h1
    exfalso
    revert he
    generalize 31 = k
    generalize 0 = n
    induction k generalizing n with
    | zero => intro he; simp [Co.zeros] at he
    | succ k ih =>
      intro he
      simp only [Co.zeros] at he
      split at he
      · simp at he
      · split at he
        · simp at he
        · exact ih _ he
  · next n hn =>
    have h1 := zeros_le hn
    split at h
    · simp at h
    · have h2 := Bi.num_bd b (p + n + 1) n
      have h3 := pow_bd (n := n) (by omega)
      have h4 := congrArg Prod.fst h
      simp only [Co.Got.num.injEq] at h4
      omega

set_option maxRecDepth 100000 in
set_option maxHeartbeats 2000000 in
theorem ue_any {lo hi g : Nat} {b : List Int} {p : Nat} (hb : b.length ≤ 1000000000) (w : World) (h : RdrT 74 lo hi w g b p) :
    Calls Tryd.prog 52 #[.pointer (some ⟨g, 0, none⟩)] w (GOut lo hi w g b (Co.ue b (8 * b.length) p)) := by
  have H := Lib.hid h
  clear h
  unfold GOut Co.ue
  obtain ⟨Z, hZ⟩ : ∃ Z, Co.zeros b (8 * b.length) p 31 0 = Z := ⟨_, rfl⟩
  obtain ⟨E, hE⟩ : ∃ E, Co.zerosEnd b (8 * b.length) p 31 0 = E := ⟨_, rfl⟩
  rw [hZ, hE]
  go_enter Tryd.func52, Tryd.ntmps52
  go_wp2_with fail
  go_loopg [4] 31 (fun m vn wr => ∃ n : Nat, n + m = 31 ∧ 1 ≤ m ∧ vn = .int .i64 n ∧ Hid (Co.zeros b (8 * b.length) p m n = Z) ∧ Hid (Co.zerosEnd b (8 * b.length) p m n = E) ∧ ROut 74 lo hi w g b (p + n) wr)
  case atStart => exact ⟨0, by omega, by omega, rfl, hZ, hE, H.out, Chg.refl _ _⟩
  case round =>
    clear hZ hE
    obtain ⟨n, hn, hm1, rfl, HZ, HE, hout⟩ := hrel
    obtain ⟨m, rfl⟩ : ∃ m, gk = m + 1 := ⟨gk - 1, by omega⟩
    have HO := Lib.hid hout
    clear hout
    rcases (show 8 * b.length ≤ p + n ∨ (p + n < 8 * b.length) by omega) with hT | hT
    · have hz := HZ.out
      have he := HE.out
      simp only [Co.zeros, Co.zerosEnd] at hz he
      rw [if_pos hT] at hz he
      subst hz he
      go_wp2_with fail
      refine (Flag_short hb (by omega) _ HO.out.1).mono ?_
      rintro e w1 ⟨v, rfl, he1, hb1⟩
      obtain ⟨T, y, rfl⟩ := he1.iface
      have HE1 := Lib.hid he1
      have HB1 := Lib.hid hb1
      clear he1 hb1
      go_wp2_with fail
      go_ret2
      refine ⟨_, rfl, .inr ⟨by simp [gotC], HE1.out⟩, HO.out.1.keep HB1.out, HO.out.2.trans (Chg.of_below HB1.out)⟩
    · have HF := Lib.hid (Flag_ok hb (by omega) _ HO.out.1)
      have hbb := Bi.bit_bd b (p + n)
      obtain ⟨x, hx⟩ : ∃ x, Bi.bit b (p + n) = x := ⟨_, rfl⟩
      rw [hx] at HF hbb
      have hz := HZ.out
      have he := HE.out
      simp only [Co.zeros, Co.zerosEnd] at hz he
      rw [if_neg (by omega), hx] at hz he
      clear hx HZ HE
      rcases (show x = 0 ∨ x = 1 by omega) with rfl | rfl
      · rw [if_neg (by omega)] at hz he
        have HZ := Lib.hid hz
        have HE := Lib.hid he
        clear hz he hbb
        cases m with
        | zero =>
          have hz := HZ.out
          have he := HE.out
          simp only [Co.zeros, Co.zerosEnd] at hz he
          subst hz he
          obtain rfl : n = 30 := by omega
          go_wp2_with fail
          refine HF.out.mono ?_
          rintro e w1 ⟨rfl, ho1⟩
          have HO1 := Lib.hid ho1
          clear ho1
          go_wp2_with fail
          refine (refuse_any _ HO1.out.1).mono ?_
          rintro e w2 ⟨v, rfl, he2, hb2⟩
          have HE2 := Lib.hid he2
          have HB2 := Lib.hid hb2
          clear he2 hb2
          go_wp2_with fail
          go_ret2
          exact ⟨_, rfl, .inr ⟨by simp [gotC], HE2.out⟩, HO1.out.1.keep HB2.out, HO.out.2.trans (HO1.out.2.trans (Chg.of_below HB2.out))⟩
        | succ m =>
          go_wp2_with fail
          refine HF.out.mono ?_
          rintro e w1 ⟨rfl, ho1⟩
          have HO1 := Lib.hid ho1
          clear ho1
          go_wp2_with fail
          go_roundg (m + 1)
          case measure => omega
          case rel => exact ⟨n + 1, by omega, by omega, by go_num, HZ.out, HE.out, HO1.out.1, HO.out.2.trans HO1.out.2⟩
      · rw [if_pos rfl] at hz he
        subst hz
        clear he hbb
        obtain ⟨hp0, hp1⟩ := pow_bd (n := n) (by omega)
        go_wp2_with fail
        refine HF.out.mono ?_
        rintro e w1 ⟨rfl, ho1⟩
        have HO1 := Lib.hid ho1
        clear ho1
        go_wp2_with fail
        rcases (show 8 * b.length < p + n + 1 + n ∨ p + n + 1 + n ≤ 8 * b.length by omega) with hs | hs
        · refine (Get_short (n := n) hb (by omega) hs _ HO1.out.1).mono ?_
          rintro e w2 ⟨v, rfl, he2, hb2⟩
          obtain ⟨T, y, rfl⟩ := he2.iface
          have HE2 := Lib.hid he2
          have HB2 := Lib.hid hb2
          clear he2 hb2
          go_wp2_with fail
          go_ret2
          simp only
          exact ⟨_, rfl, .inr ⟨by simp [gotC], HE2.out⟩, HO1.out.1.keep HB2.out, HO.out.2.trans (HO1.out.2.trans (Chg.of_below HB2.out))⟩
        · have hnb := Bi.num_bd b (p + n + 1) n
          refine (Get_ok (n := n) hb (by omega) hs _ HO1.out.1).mono ?_
          obtain ⟨N, hN⟩ : ∃ N, Bi.num b (p + n + 1) n = N := ⟨_, rfl⟩
          rw [hN] at hnb ⊢
          have HN := Lib.hid hN
          clear hN
          rintro e w2 ⟨rfl, ho2⟩
          have HO2 := Lib.hid ho2
          clear ho2
          go_wp2_with fail
          go_ret2
          simp only
          rw [HN.out]
          exact ⟨_, rfl, .inl ⟨rfl, rfl, rfl⟩, HO2.out.1, HO.out.2.trans (HO1.out.2.trans HO2.out.2)⟩

theorem zeros_num {b : List Int} {T p : Nat} {v : Int} : ∀ {k n : Nat}, Co.zeros b T p k n ≠ .error (.num v) := by
  intro k
  induction k with
  | zero => intro n; simp [Co.zeros]
  | succ k ih =>
    intro n
    simp only [Co.zeros]
    split
    · simp
    · split
      · simp
      · exact ih

set_option maxHeartbeats 1000000 in
theorem GetUe_any {lo hi g : Nat} {b : List Int} {p : Nat} (most : Int) (hb : b.length ≤ 1000000000) (w : World) (h : RdrT 74 lo hi w g b p) :
    Calls Tryd.prog 30 #[.pointer (some ⟨g, 0, none⟩), .int .i64 most] w (GOut lo hi w g b (Co.getUe b (8 * b.length) p most)) := by
  have HU := Lib.hid (ue_any hb w h)
  clear h
  unfold Co.getUe
  obtain ⟨U, hU⟩ : ∃ U, Co.ue b (8 * b.length) p = U := ⟨_, rfl⟩
  rw [hU] at HU ⊢
  obtain ⟨r, q⟩ := U
  cases r with
  | num v =>
    obtain ⟨hv0, hv1⟩ := ue_bd hU
    clear hU
    by_cases hm : v > most
    · simp only
      rw [if_pos (.inl hm)]
      go_enter Tryd.func30, Tryd.ntmps30
      go_wp2_with fail
      refine HU.out.mono ?_
      rintro e w1 ⟨y, rfl, he1, ho1⟩
      rcases he1 with ⟨_, _, rfl⟩ | ⟨h0, _⟩
      rotate_left 1
      · exact absurd rfl h0
      have HO := Lib.hid ho1
      clear ho1
      simp only [gotV]
      go_wp2_with fail
      refine (refuse_any _ HO.out.1).mono ?_
      rintro e w2 ⟨v2, rfl, he2, hb2⟩
      have HE2 := Lib.hid he2
      have HB2 := Lib.hid hb2
      clear he2 hb2
      go_wp2_with fail
      go_ret2
      exact ⟨_, rfl, .inr ⟨by simp [gotC], HE2.out⟩, HO.out.1.keep HB2.out, HO.out.2.trans (Chg.of_below HB2.out)⟩
    · by_cases ht : v > 1073741824
      · simp only
        rw [if_pos (.inr ht)]
        go_enter Tryd.func30, Tryd.ntmps30
        go_wp2_with fail
        refine HU.out.mono ?_
        rintro e w1 ⟨y, rfl, he1, ho1⟩
        rcases he1 with ⟨_, _, rfl⟩ | ⟨h0, _⟩
        rotate_left 1
        · exact absurd rfl h0
        have HO := Lib.hid ho1
        clear ho1
        simp only [gotV]
        go_wp2_with fail
        refine (refuse_any _ HO.out.1).mono ?_
        rintro e w2 ⟨v2, rfl, he2, hb2⟩
        have HE2 := Lib.hid he2
        have HB2 := Lib.hid hb2
        clear he2 hb2
        go_wp2_with fail
        go_ret2
        exact ⟨_, rfl, .inr ⟨by simp [gotC], HE2.out⟩, HO.out.1.keep HB2.out, HO.out.2.trans (Chg.of_below HB2.out)⟩
      · simp only
        rw [if_neg (by omega)]
        go_enter Tryd.func30, Tryd.ntmps30
        go_wp2_with fail
        refine HU.out.mono ?_
        rintro e w1 ⟨y, rfl, he1, ho1⟩
        rcases he1 with ⟨_, _, rfl⟩ | ⟨h0, _⟩
        rotate_left 1
        · exact absurd rfl h0
        have HO := Lib.hid ho1
        clear ho1
        simp only [gotV]
        go_wp2_with fail
        go_ret2
        exact ⟨_, rfl, .inl ⟨rfl, rfl, rfl⟩, HO.out⟩
  | short a =>
    clear hU
    simp only
    go_enter Tryd.func30, Tryd.ntmps30
    go_wp2_with fail
    refine HU.out.mono ?_
    rintro e w1 ⟨y, rfl, he1, ho1⟩
    rcases he1 with ⟨h0, _⟩ | ⟨_, he1⟩
    · cases h0
    obtain ⟨T, y, rfl⟩ := he1.iface
    have HE := Lib.hid he1
    have HO := Lib.hid ho1
    clear he1 ho1
    simp only [gotV]
    go_wp2_with fail
    go_ret2
    exact ⟨_, rfl, .inr ⟨by simp [gotC], HE.out⟩, HO.out⟩
  | range a =>
    clear hU
    simp only
    go_enter Tryd.func30, Tryd.ntmps30
    go_wp2_with fail
    refine HU.out.mono ?_
    rintro e w1 ⟨y, rfl, he1, ho1⟩
    rcases he1 with ⟨h0, _⟩ | ⟨_, he1⟩
    · cases h0
    obtain ⟨T, y, rfl⟩ := he1.iface
    have HE := Lib.hid he1
    have HO := Lib.hid ho1
    clear he1 ho1
    simp only [gotV]
    go_wp2_with fail
    go_ret2
    exact ⟨_, rfl, .inr ⟨by simp [gotC], HE.out⟩, HO.out⟩

set_option maxHeartbeats 2000000 in
theorem GetSe_any {lo hi g : Nat} {b : List Int} {p : Nat} (most : Int) (hb : b.length ≤ 1000000000) (w : World) (h : RdrT 74 lo hi w g b p) :
    Calls Tryd.prog 31 #[.pointer (some ⟨g, 0, none⟩), .int .i64 most] w (GOut lo hi w g b (Co.getSe b (8 * b.length) p most)) := by
  have HU := Lib.hid (ue_any hb w h)
  clear h
  unfold Co.getSe
  obtain ⟨U, hU⟩ : ∃ U, Co.ue b (8 * b.length) p = U := ⟨_, rfl⟩
  rw [hU] at HU ⊢
  obtain ⟨r, q⟩ := U
  cases r with
  | num u =>
    obtain ⟨hv0, hv1⟩ := ue_bd hU
    clear hU
    have hub := unfold_bd hv0 hv1
    obtain ⟨v, hv⟩ : ∃ v, Co.unfold' u = v := ⟨_, rfl⟩
    simp only
    rw [hv] at hub ⊢
    obtain ⟨z, hz⟩ : ∃ z, max v (-v) = z := ⟨_, rfl⟩
    rw [hz]
    have HV := Lib.hid hv
    have HZ := Lib.hid hz
    have hz1 : v ≤ z ∧ -v ≤ z := by omega
    clear hv
    by_cases hm : z > most
    · rw [if_pos (.inl hm)]
      go_enter Tryd.func31, Tryd.ntmps31
      go_wp2_with fail
      refine HU.out.mono ?_
      rintro e w1 ⟨y, rfl, he1, ho1⟩
      rcases he1 with ⟨_, _, rfl⟩ | ⟨h0, _⟩
      rotate_left 1
      · exact absurd rfl h0
      have HO := Lib.hid ho1
      clear ho1
      simp only [gotV]
      go_wp2_with fail
      refine (Unfold_any _ ⟨by omega, by omega⟩ _).mono ?_
      rintro e w2 ⟨rfl, rfl⟩
      rw [HV.out]
      go_wp2_with fail
      refine (refuse_any _ HO.out.1).mono ?_
      rintro e w2 ⟨v2, rfl, he2, hb2⟩
      have HE2 := Lib.hid he2
      have HB2 := Lib.hid hb2
      clear he2 hb2
      go_wp2_with fail
      go_ret2
      exact ⟨_, rfl, .inr ⟨by simp [gotC], HE2.out⟩, HO.out.1.keep HB2.out, HO.out.2.trans (Chg.of_below HB2.out)⟩
    · by_cases ht : z > 536870912
      · rw [if_pos (.inr ht)]
        go_enter Tryd.func31, Tryd.ntmps31
        go_wp2_with fail
        refine HU.out.mono ?_
        rintro e w1 ⟨y, rfl, he1, ho1⟩
        rcases he1 with ⟨_, _, rfl⟩ | ⟨h0, _⟩
        rotate_left 1
        · exact absurd rfl h0
        have HO := Lib.hid ho1
        clear ho1
        simp only [gotV]
        go_wp2_with fail
        refine (Unfold_any _ ⟨by omega, by omega⟩ _).mono ?_
        rintro e w2 ⟨rfl, rfl⟩
        rw [HV.out]
        go_wp2_with fail
        refine (refuse_any _ HO.out.1).mono ?_
        rintro e w2 ⟨v2, rfl, he2, hb2⟩
        have HE2 := Lib.hid he2
        have HB2 := Lib.hid hb2
        clear he2 hb2
        go_wp2_with fail
        go_ret2
        exact ⟨_, rfl, .inr ⟨by simp [gotC], HE2.out⟩, HO.out.1.keep HB2.out, HO.out.2.trans (Chg.of_below HB2.out)⟩
      · rw [if_neg (by omega)]
        go_enter Tryd.func31, Tryd.ntmps31
        go_wp2_with fail
        refine HU.out.mono ?_
        rintro e w1 ⟨y, rfl, he1, ho1⟩
        rcases he1 with ⟨_, _, rfl⟩ | ⟨h0, _⟩
        rotate_left 1
        · exact absurd rfl h0
        have HO := Lib.hid ho1
        clear ho1
        simp only [gotV]
        go_wp2_with fail
        refine (Unfold_any _ ⟨by omega, by omega⟩ _).mono ?_
        rintro e w2 ⟨rfl, rfl⟩
        rw [HV.out]
        go_wp2_with fail
        go_ret2
        exact ⟨_, rfl, .inl ⟨rfl, rfl, rfl⟩, HO.out⟩
  | short a =>
    clear hU
    simp only
    go_enter Tryd.func31, Tryd.ntmps31
    go_wp2_with fail
    refine HU.out.mono ?_
    rintro e w1 ⟨y, rfl, he1, ho1⟩
    rcases he1 with ⟨h0, _⟩ | ⟨_, he1⟩
    · cases h0
    obtain ⟨T, y, rfl⟩ := he1.iface
    have HE := Lib.hid he1
    have HO := Lib.hid ho1
    clear he1 ho1
    simp only [gotV]
    go_wp2_with fail
    go_ret2
    exact ⟨_, rfl, .inr ⟨by simp [gotC], HE.out⟩, HO.out⟩
  | range a =>
    clear hU
    simp only
    go_enter Tryd.func31, Tryd.ntmps31
    go_wp2_with fail
    refine HU.out.mono ?_
    rintro e w1 ⟨y, rfl, he1, ho1⟩
    rcases he1 with ⟨h0, _⟩ | ⟨_, he1⟩
    · cases h0
    obtain ⟨T, y, rfl⟩ := he1.iface
    have HE := Lib.hid he1
    have HO := Lib.hid ho1
    clear he1 ho1
    simp only [gotV]
    go_wp2_with fail
    go_ret2
    exact ⟨_, rfl, .inr ⟨by simp [gotC], HE.out⟩, HO.out⟩

end Go.Proofs.YtdanjeoiandjfaaDoor
