/- Contracts of package bits: the writer's exported methods, and a new one. -/
import Derived.Test.YtnccebfapihpjaaGreatDoorBits
import Derived.Deep.LoopGhost
import Derived.Outline
namespace Go.Proofs.YtnccebfapihpjaaGreatDoor
open Go Go.RowKit

theorem and_one {x : Int} (h0 : 0 ≤ x) (h1 : x ≤ 9223372036854775807) : bits .and .i64 x 1 = x % 2 := by
  obtain ⟨n, rfl⟩ := Int.eq_ofNat_of_zero_le h0
  have hn : n < 2 ^ 64 := by omega
  have e : (BitVec.ofInt 64 (n : Int) &&& BitVec.ofInt 64 1).toNat = n % 2 := by
    rw [BitVec.toNat_and]
    simp [Nat.mod_eq_of_lt hn, Nat.and_one_is_mod]
  show IntKind.i64.wrap (((BitVec.ofInt 64 (n : Int) &&& BitVec.ofInt 64 1).toNat : Nat) : Int) = _
  rw [e, IntWalk.i64_in _ (by omega)]
  omega

theorem bitsOf_get (v : Int) : ∀ (n k : Nat) (h : k < (Bi.bitsOf v n).length), (Bi.bitsOf v n)[k] = decide (v / 2 ^ (n - 1 - k) % 2 = 1) := by
  intro n
  induction n with
  | zero => intro k h; simp [Bi.bitsOf] at h
  | succ n ih =>
    intro k h
    cases k with
    | zero => simp [Bi.bitsOf]
    | succ k =>
      simp only [Bi.bitsOf, List.getElem_cons_succ]
      rw [ih k (by simpa [Bi.bitsOf] using h)]
      rw [show n + 1 - 1 - (k + 1) = n - 1 - k by omega]

theorem WOut.refl {w : World} {B g : Nat} {v : Value} {m : List Bool} (h : Wtr w B g v m) : WOut w B g v m w := ⟨v, h, Chg.refl _ _, fun _ hi => .inl hi⟩
theorem WOut.then_ {w w' w'' : World} {B g : Nat} {v : Value} {m m' : List Bool} (h : WOut w B g v m w') (k : ∀ v', Wtr w' B g v' m → WOut w' B g v' m' w'') : WOut w B g v m' w'' := by
  obtain ⟨v', h1, h2, h3⟩ := h
  exact WOut.trans h2 h3 (k v' h1)

/-- May a number be written so? -/
def putMay (v n : Int) : Bool := decide (0 ≤ n ∧ n ≤ 32 ∧ 0 ≤ v ∧ v < 2 ^ n.toNat)

theorem div_pow_zero {v : Int} {n : Nat} (h0 : 0 ≤ v) (h1 : v < 2 ^ n) : v / 2 ^ n = 0 := Int.ediv_eq_zero_of_lt h0 h1
theorem div_pow_pos {v : Int} {n : Nat} (h1 : 2 ^ n ≤ v) : 1 ≤ v / 2 ^ n := by
  have hp : (0 : Int) < 2 ^ n := Int.pow_pos (by omega)
  rw [Int.le_ediv_iff_mul_le hp]; omega

set_option maxHeartbeats 1000000 in
theorem Put_no {x n : Int} {p : Value} (w : World) (h : putMay x n = false) : Calls Tryz.prog 22 #[p, .int .i64 x, .int .i64 n] w
    fun e w' => e = .returned (.iface 31 (.int .i64 3)) ∧ w = w' := by
  have h' : ¬ (0 ≤ n ∧ n ≤ 32 ∧ 0 ≤ x ∧ x < 2 ^ n.toNat) := of_decide_eq_false h
  rcases (show n < 0 ∨ (0 ≤ n ∧ 32 < n) ∨ (0 ≤ n ∧ n ≤ 32 ∧ x < 0) ∨ (0 ≤ n ∧ n ≤ 32 ∧ 0 ≤ x ∧ 2 ^ n.toNat ≤ x) by
    by_cases h1 : 0 ≤ n
    · by_cases h2 : n ≤ 32
      · by_cases h3 : 0 ≤ x
        · have : ¬ x < 2 ^ n.toNat := fun h4 => h' ⟨h1, h2, h3, h4⟩
          exact .inr (.inr (.inr ⟨h1, h2, h3, by omega⟩))
        · omega
      · omega
    · omega) with h1 | ⟨h1, h2⟩ | ⟨h1, h2, h3⟩ | ⟨h1, h2, h3, h4⟩
  · clear h h'
    go_enter Tryz.func22, Tryz.ntmps22
    go_wp2_with fail
    go_ret
    exact ⟨rfl, rfl⟩
  · clear h h'
    go_enter Tryz.func22, Tryz.ntmps22
    go_wp2_with fail
    go_ret
    exact ⟨rfl, rfl⟩
  · clear h h'
    go_enter Tryz.func22, Tryz.ntmps22
    go_wp2_with fail
    go_ret
    exact ⟨rfl, rfl⟩
  · have h5 := div_pow_pos h4
    have h6 : (x / 2 ^ n.toNat != 0) = true := by rw [bne_iff_ne]; omega
    clear h h' h4 h5
    go_enter Tryz.func22, Tryz.ntmps22
    go_wp2_with fail
    go_ret
    exact ⟨rfl, rfl⟩

set_option maxRecDepth 100000 in
set_option maxHeartbeats 1000000 in
theorem Put_yes {l : List Bool} {x : Int} {n : Nat} {B g : Nat} {v : Value} (hl : l.length ≤ 999999000) (w : World) (hB : B ≤ w.heap.size) (hn : n ≤ 32) (hx0 : 0 ≤ x) (hx1 : x < 2 ^ n) (h : Wtr w B g v l) :
    Calls Tryz.prog 22 #[.pointer (some ⟨g, 0, none⟩), .int .i64 x, .int .i64 n] w
      fun e w' => e = .returned .nilIface ∧ WOut w B g v (l ++ Bi.bitsOf x n) w' := by
  have H := Lib.hid h
  have hz : (x / 2 ^ n != 0) = false := by rw [div_pow_zero hx0 hx1]; rfl
  have hxb : x ≤ 4294967296 := by
    have : (2 : Int) ^ n ≤ 2 ^ 32 := by exact_mod_cast Nat.pow_le_pow_right (by omega : 0 < 2) hn
    have e : (2 : Int) ^ 32 = 4294967296 := by decide
    omega
  have HX := Lib.hid hx1
  clear h hx1
  go_enter Tryz.func22, Tryz.ntmps22
  go_wp2_with fail
  go_loopg [7] n (fun m vi wr => ∃ j : Nat, j + m = n ∧ vi = .int .i64 ((m : Int) - 1) ∧ WOut w B g v (l ++ (Bi.bitsOf x n).take j) wr)
  case atStart => exact ⟨0, by omega, rfl, by simpa using WOut.refl H.out⟩
  case round =>
    obtain ⟨j, hj, rfl, hout⟩ := hrel
    by_cases hm : 1 ≤ gk
    · obtain ⟨m, rfl⟩ : ∃ m, gk = m + 1 := ⟨gk - 1, by omega⟩
      have em : ((m + 1 : Nat) : Int) - 1 = (m : Int) := by omega
      rw [em]
      have HO := Lib.hid hout
      clear hout hm em
      have hjn : j < (Bi.bitsOf x n).length := by rw [Bi.bitsOf_length]; omega
      have hgt := bitsOf_get x n j hjn
      rw [show n - 1 - j = m by omega] at hgt
      have hdv0 : 0 ≤ x / 2 ^ m := Int.ediv_nonneg hx0 (Int.le_of_lt (Int.pow_pos (by omega)))
      have hdv1 : x / 2 ^ m ≤ x := Int.ediv_le_self _ hx0
      have hbit : (bits .and .i64 (x / 2 ^ m) 1 == 1) = (Bi.bitsOf x n)[j] := by
        rw [and_one hdv0 (by omega), hgt]
        by_cases h1 : x / 2 ^ m % 2 = 1 <;> simp [h1]
      have htk : (Bi.bitsOf x n).take (j + 1) = (Bi.bitsOf x n).take j ++ [(Bi.bitsOf x n)[j]] := List.take_succ_eq_append_getElem hjn
      obtain ⟨b, hb⟩ : ∃ b, (Bi.bitsOf x n)[j] = b := ⟨_, rfl⟩
      rw [hb] at hbit htk
      have HTK := Lib.hid htk
      have HBT := Lib.hid hbit
      clear hgt hdv0 hdv1 hbit htk hb hz
      go_wp2_with fail
      rw [HBT.out]
      obtain ⟨v', hw1, hch, hrow⟩ := HO.out
      have hlen : (l ++ (Bi.bitsOf x n).take j).length ≤ 1000000000 := by simp [Bi.bitsOf_length]; omega
      refine (bit_any hlen _ (by have := hch.size; omega) hw1).mono ?_
      rintro e w2 ⟨rfl, ho2⟩
      have hfin := Lib.hid (WOut.trans hch hrow ho2)
      clear hw1 hch hrow ho2 hlen
      go_wp2_with fail
      go_roundg m
      case measure => omega
      case rel => exact ⟨j + 1, by omega, by go_num, by rw [HTK.out, ← List.append_assoc]; exact hfin.out⟩
    · obtain rfl : gk = 0 := by omega
      obtain rfl : j = n := by omega
      have HO := Lib.hid hout
      clear hout hm
      go_wp2_with fail
      go_ret
      refine ⟨rfl, ?_⟩
      have h := HO.out
      rwa [List.take_of_length_le (by rw [Bi.bitsOf_length]; omega)] at h

theorem WFlag_any {l : List Bool} {x : Bool} {B g : Nat} {v : Value} (hl : l.length ≤ 1000000000) (w : World) (hB : B ≤ w.heap.size) (h : Wtr w B g v l) :
    Calls Tryz.prog 56 #[.pointer (some ⟨g, 0, none⟩), .bool x] w fun e w' => e = .returned (.tuple #[]) ∧ WOut w B g v (l ++ [x]) w' := by
  have H := Lib.hid h
  clear h
  go_enter Tryz.func56, Tryz.ntmps56
  go_wp2_with (go_at_call 54; refine (bit_any hl _ hB H.out).mono ?_; rintro e w' ⟨rfl, ho⟩)
  go_end0
  exact ⟨rfl, ho⟩


/-- New bytes: a row of one's own, begun behind w. -/
def NewB (w : World) (b : List Int) (e : Ending) (w' : World) : Prop :=
  ∃ A c, e = .returned (.slice A b.length c) ∧ w'.ownsRow w.heap.size 5 1 (.slice A b.length c) b.length (b.map (Value.int .u8)) ∧ Below w.heap.size w w'

theorem WBytes_any {l : List Bool} {B g : Nat} {v : Value} (hl : l.length ≤ 1000000000) (w : World) (h : Wtr w B g v l) :
    Calls Tryz.prog 24 #[.pointer (some ⟨g, 0, none⟩)] w (NewB w (Bi.pack l)) := by
  obtain ⟨i0, hi, hz0, hz1, hz2⟩ := info_parts u8Info
  obtain ⟨hblk, hown⟩ := h
  obtain ⟨A, c, rfl⟩ := own_slice hown
  have hpl : (Bi.pack l).length ≤ 1000000000 := by rw [Bi.pack_length]; omega
  have hc0 : w.cell? ⟨g, 0, none⟩ = some (.slice A (Bi.pack l).length c) := by rw [hblk.cell]; rfl
  have hrd := Lib.hid (RdI.of_own (k := .u8) (l := Bi.pack l) hown).1
  obtain ⟨b, hb⟩ : ∃ b, Bi.pack l = b := ⟨_, rfl⟩
  rw [hb] at hc0 hrd hpl
  rw [hb]
  have hc0' := hblk.alloc (.cells #[] 5)
  have hc1 : (w.alloc (.cells #[] 5)).cell? ⟨g, 0, none⟩ = some (.slice A b.length c) := by rw [hc0'.cell, ← hb]; rfl
  clear hblk hown hc0'
  go_enter Tryz.func24, Tryz.ntmps24
  go_wp2_with (at_builtin; refine wpList_append_rd _ rfl (.tmp 3) (.tmp 7) _ rfl w.heap.size 5 i0 _ 1 1 Tryz.underlying26 hi hz0 hz1 hz2 rfl (by omega) (.slice (some ⟨w.heap.size, 0, none⟩) 0 0) 0 [] rfl (own_empty w _ _ _ (Nat.le_refl _)) A b.length c _ rfl (hrd.out.alloc _) (ints_one _ _) (by unfold maxLen; omega) (by omega) (by simp) ?_; intro B cap w1 hown1 hg1 hat1; simp only [Nat.zero_add, List.nil_append] at hown1)
  go_ret
  refine ⟨B, cap, by simp, hown1, ?_⟩
  exact ((Below.refl _ _).alloc (Nat.le_refl _) _).grown hg1 (by simp) (fun k hk => by have : w.heap.size = k := by simpa [Value.ownBlock] using hk
                                                                                       omega)

theorem NewWriter_any (w : World) : Calls Tryz.prog 19 #[] w
    fun e w' => e = .returned (.pointer (some ⟨w.heap.size, 0, none⟩)) ∧ w' = w.alloc (.cells #[.slice none 0 0, .int .i64 0] 94) := by
  go_enter Tryz.func19, Tryz.ntmps19
  go_wp2_with fail
  go_ret
  exact ⟨rfl, rfl⟩
theorem Wtr.new (w : World) (B : Nat) : Wtr (w.alloc (.cells #[.slice none 0 0, .int .i64 0] 94)) B w.heap.size (.slice none 0 0) [] :=
  ⟨Blk.new _ _ _, World.ownsRow_nil _ _ _ _⟩

end Go.Proofs.YtnccebfapihpjaaGreatDoor
