/- A slice of kinlaw2's operations as cells; the walk of kinlaw2.BitsStops: it returns true, whatever the input. -/
import Derived.Test.YtbdabjnmocnfpaaDoorBitsFirst
namespace Go.Proofs.YtbdabjnmocnfpaaDoor
open Go Go.RowKit Go.Extern.Stop Go.Stop Go.Extern

/-- An operation: its kind, number, width, bit. -/
structure Op2 where
  k : Int
  v : Int
  n : Int
  b : Bool

def flat2 (l : List Op2) : List Value := l.flatMap fun o => [.int .i64 o.k, .int .i64 o.v, .int .i64 o.n, .bool o.b]
theorem flat2_length (l : List Op2) : (flat2 l).length = l.length * 4 := by
  induction l with
  | nil => rfl
  | cons a r ih => simp only [flat2, List.flatMap_cons, List.length_append, List.length_cons, List.length_nil] at *; omega
theorem flat2_app (l m : List Op2) : flat2 (l ++ m) = flat2 l ++ flat2 m := by simp [flat2]
theorem flat2_get (l : List Op2) (i : Nat) (h : i < l.length) :
    (flat2 l)[i * 4]? = some (.int .i64 l[i].k) ∧ (flat2 l)[i * 4 + 1]? = some (.int .i64 l[i].v) ∧ (flat2 l)[i * 4 + 2]? = some (.int .i64 l[i].n) ∧ (flat2 l)[i * 4 + 3]? = some (.bool l[i].b) := by
  induction l generalizing i with
  | nil => simp at h
  | cons a r ih =>
    cases i with
    | zero => simp [flat2]
    | succ i =>
      have := ih i (by simpa using h)
      simp only [flat2, List.flatMap_cons, List.getElem_cons_succ] at *
      rw [show (i + 1) * 4 = 4 + i * 4 by omega, List.getElem?_append_right (by simp), show 4 + i * 4 + 1 = 4 + (i * 4 + 1) by omega, List.getElem?_append_right (by simp),
        show 4 + i * 4 + 2 = 4 + (i * 4 + 2) by omega, List.getElem?_append_right (by simp), show 4 + i * 4 + 3 = 4 + (i * 4 + 3) by omega, List.getElem?_append_right (by simp)]
      simpa using this

/-- The slice holds these operations. -/
def RdO (w : World) (A : Option Addr) (l : List Op2) : Prop := Rd w 4 A l.length (flat2 l)
theorem RdO.keep {w w' : World} {A : Option Addr} {l : List Op2} (h : RdO w A l) (hb : Below w.heap.size w w') : RdO w' A l := Rd.keep h hb
theorem RdO.at_ {w : World} {A : Option Addr} {l : List Op2} (h : RdO w A l) {i : Nat} (hi : i < l.length) :
    ∃ b o, A = some ⟨b, o, none⟩ ∧ w.cell? ⟨b, o + i * 4, none⟩ = some (.int .i64 l[i].k) ∧ w.cell? ⟨b, o + i * 4 + 1, none⟩ = some (.int .i64 l[i].v) ∧
      w.cell? ⟨b, o + i * 4 + 2, none⟩ = some (.int .i64 l[i].n) ∧ w.cell? ⟨b, o + i * 4 + 3, none⟩ = some (.bool l[i].b) := by
  obtain ⟨b, o, hA, hc⟩ := h.2 (by omega)
  obtain ⟨h0, h1, h2, h3⟩ := flat2_get l i hi
  exact ⟨b, o, hA, hc _ _ h0, hc _ _ h1, hc _ _ h2, hc _ _ h3⟩

theorem two_pow_bd {n : Nat} (hn : n ≤ 32) : (0 : Int) < 2 ^ n ∧ (2 : Int) ^ n ≤ 4294967296 := by
  refine ⟨Int.pow_pos (by omega), ?_⟩
  have : (2 : Int) ^ n ≤ 2 ^ 32 := by exact_mod_cast Nat.pow_le_pow_right (by omega : 0 < 2) hn
  have e : (2 : Int) ^ 32 = 4294967296 := by decide
  omega
theorem wrap_small {n : Int} (h0 : 0 ≤ n) (h1 : n ≤ 4611686018427387904) : wrap64 n = n := by unfold wrap64; omega

set_option maxRecDepth 100000 in
set_option maxHeartbeats 2000000 in
theorem BitsStops_walk {A B : Option Addr} {b : List Int} {l : List Op2} {c d : Nat} (hb : b.length ≤ 9223372036854775807) (hbd : ∀ x ∈ b, 0 ≤ x ∧ x ≤ 255) (w : World) (hg : Gl w) (ha : RdI .u8 w A b) (ho : RdO w B l) :
    Calls Tryd.prog 5 #[.slice A b.length c, .slice B l.length d] w fun e w' => e = .returned (.bool true) ∧ Below w.heap.size w w' := by
  have HG := Lib.hid hg
  have HA := Lib.hid ha
  have HB := Lib.hid ho
  have HBD := Lib.hid hbd
  clear hg ha ho hbd
  by_cases h5 : b.length ≤ 20000
  · go_enter Tryd.func5, Tryd.ntmps5
    go_wp2_with fail
    refine (first_true _ HG.out).mono ?_
    rintro e w1 ⟨rfl, hb1⟩
    go_wp2_with fail
    refine (NewReader_any (by omega) HBD.out _ (HA.out.keep hb1)).mono ?_
    rintro e w2 ⟨g, rfl, hr2, hlo, hb2⟩
    have hbA := hb1.trans (hb2.mono hb1.size)
    have hgw : w.heap.size ≤ g := by have := hb1.size; omega
    have HR2 := Lib.hid hr2
    clear hr2 hb2
    go_wp2_with fail
    go_loopg [6] l.length (fun k vi wr => ∃ (j p : Nat), j + k = l.length ∧ vi = .int .i64 j ∧ RdrT 75 w1.heap.size g wr g b p ∧ Below w.heap.size w wr)
    case atStart => exact ⟨0, 0, by omega, rfl, HR2.out, hbA⟩
    case round =>
      obtain ⟨j, p, hj, rfl, hr, hbel⟩ := hrel
      have HR := Lib.hid hr
      have hp := hr.1
      clear hr
      rcases (show (j < l.length ∧ j < 2000) ∨ (j < l.length ∧ 2000 ≤ j) ∨ ¬ j < l.length by omega) with ⟨hlt, hj2⟩ | ⟨hlt, hj2⟩ | hlt
      · obtain ⟨b3, o3, rfl, k0, k1, k2, k3⟩ := (HB.out.keep hbel).at_ hlt
        obtain ⟨n, hn⟩ : ∃ n, l[j].n = n := ⟨_, rfl⟩
        rw [hn] at k2
        have hlt' : (j : Int) < (l.length : Int) := by omega
        have hj2' : (j : Int) < 2000 := by omega
        have hsum : ((p : Int) + (8 * (b.length : Int) - p) != 8 * (b.length : Int)) = false := by rw [bne_eq_false_iff_eq]; omega
        clear hn k0 k1 k3 hj2
        go_wp2_with fail
        refine (Place_any _ HR.out).mono ?_
        rintro e w3 ⟨rfl, rfl⟩
        go_wp2_with fail
        refine (Left_any (by omega) _ HR.out).mono ?_
        rintro e w4 ⟨rfl, nq, rfl⟩
        have hr4 : RdrT 75 w1.heap.size g (wr.drewN nq) g b p := HR.out
        have hb4 := below_drewN hbel nq
        have k2' : (wr.drewN nq).cell? ⟨b3, o3 + j * 4 + 2, none⟩ = some (.int .i64 n) := k2
        have HR4 := Lib.hid hr4
        clear hr4 k2
        generalize wr.drewN nq = w4 at *
        rcases (show ¬ (0 ≤ n ∧ n ≤ 32) ∨ (0 ≤ n ∧ n ≤ 32 ∧ 8 * (b.length : Int) < p + n) ∨ (0 ≤ n ∧ n ≤ 32 ∧ p + n ≤ 8 * (b.length : Int)) by omega) with h6 | ⟨h6, h7, h8⟩ | ⟨h6, h7, h8⟩
        · rcases (show n < 0 ∨ (0 ≤ n ∧ 32 < n) by omega) with h7 | ⟨h7, h8⟩
          all_goals
            go_wp2_with fail
            refine (Get_range _ h6).mono ?_
            rintro e w5 ⟨rfl, rfl⟩
            go_wp2_with fail
            refine (Place_any _ HR4.out).mono ?_
            rintro e w6 ⟨rfl, rfl⟩
            go_wp2_with fail
            go_roundg (gk - 1)
            case measure => omega
            case rel => exact ⟨j + 1, p, by omega, by go_num, HR4.out, hb4⟩
        · obtain ⟨m, rfl⟩ := Int.eq_ofNat_of_zero_le h6
          go_wp2_with fail
          refine (Get_short (by omega) (by omega) (by omega) _ HR4.out).mono ?_
          rintro e w5 ⟨v5, rfl, he5, hb5⟩
          obtain ⟨T5, x5, rfl⟩ := he5.iface
          have hd : decide ((m : Int) ≤ 8 * (b.length : Int) - p) = false := by simp; omega
          have HR5 := Lib.hid (HR4.out.keep hb5)
          clear he5
          go_wp2_with fail
          refine (Place_any _ HR5.out).mono ?_
          rintro e w6 ⟨rfl, rfl⟩
          go_wp2_with fail
          go_roundg (gk - 1)
          case measure => omega
          case rel => exact ⟨j + 1, p, by omega, by go_num, HR5.out, hb4.trans (hb5.mono hb4.size)⟩
        · obtain ⟨m, rfl⟩ := Int.eq_ofNat_of_zero_le h6
          obtain ⟨hN0, hN1⟩ := Bi.num_bd b p m
          obtain ⟨hP0, hP1⟩ := two_pow_bd (n := m) (by omega)
          have hwp : IntKind.i64.wrap ((2 : Int) ^ m) = 2 ^ m := IntWalk.i64_in _ (by omega)
          have HGT := Lib.hid (Get_ok (n := m) (by omega) (by omega) (by omega) _ HR4.out)
          obtain ⟨N, hN⟩ : ∃ N, Bi.num b p m = N := ⟨_, rfl⟩
          rw [hN] at hN0 hN1 HGT
          have hsh : decide ((2 : Int) ^ m ≤ N) = false := by simp; omega
          clear hN hN1 hP0 hP1
          have hd : decide ((m : Int) ≤ 8 * (b.length : Int) - p) = true := by simp; omega
          go_wp2_with fail
          refine HGT.out.mono ?_
          rintro e w5 ⟨rfl, ho5⟩
          have HR5 := Lib.hid ho5.1
          have hb5 := below_chg hb4 ho5.2 hb4.size (fun i hi => by omega)
          have hne : (((p + m : Nat) : Int) != (p : Int) + (m : Int)) = false := by rw [bne_eq_false_iff_eq]; omega
          clear ho5
          go_wp2_with fail
          refine (Place_any _ HR5.out).mono ?_
          rintro e w6 ⟨rfl, rfl⟩
          go_wp2_with fail
          go_roundg (gk - 1)
          case measure => omega
          case rel => exact ⟨j + 1, p + m, by omega, by go_num, HR5.out, hb5⟩
      · have hj2' : (2000 : Int) ≤ (j : Int) := by omega
        have hlt' : (j : Int) < (l.length : Int) := by omega
        go_wp2_with fail
        refine (first_true _ (HG.out.keep hbel)).mono ?_
        rintro e w3 ⟨rfl, hb3⟩
        go_wp2_with fail
        go_ret
        exact ⟨rfl, hbel.trans (hb3.mono hbel.size)⟩
      · go_wp2_with fail
        refine (first_true _ (HG.out.keep hbel)).mono ?_
        rintro e w3 ⟨rfl, hb3⟩
        go_wp2_with fail
        go_ret
        exact ⟨rfl, hbel.trans (hb3.mono hbel.size)⟩
  · go_enter Tryd.func5, Tryd.ntmps5
    go_wp2_with fail
    refine (first_true _ HG.out).mono ?_
    rintro e w1 ⟨rfl, hb1⟩
    go_wp2_with fail
    refine (first_true _ (HG.out.keep hb1)).mono ?_
    rintro e w2 ⟨rfl, hb2⟩
    go_wp2_with fail
    go_ret
    exact ⟨rfl, hb1.trans (hb2.mono hb1.size)⟩

end Go.Proofs.YtbdabjnmocnfpaaDoor
