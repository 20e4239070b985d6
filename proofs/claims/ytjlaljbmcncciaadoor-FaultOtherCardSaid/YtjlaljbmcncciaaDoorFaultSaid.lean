/- Contracts of the law's digits and said. -/
import Derived.Test.YtjlaljbmcncciaaDoorFaultText2
namespace Go.Proofs.YtjlaljbmcncciaaDoor
open Go Go.RowKit Go.Shelf Go.Extern.Stop Go.Stop Go.Extern

/-- string([]byte{x}) where something came between. -/
theorem byte_string_keep {n : Int} {w w1 : World} (hb : Below (w.alloc (.cells #[.int .u8 n] 5)).drew.heap.size (w.alloc (.cells #[.int .u8 n] 5)).drew w1) :
    (convert 55 9 (.slice (some ⟨w.heap.size, 0, none⟩) 1 1)).run Tryd.prog w1 = .ok (.string (Fa.S [UInt8.ofNat n.toNat])) w1 := by
  refine run_convert_bytes_arg _ 55 5 Tryd.underlying55 Tryd.underlying5 w.heap.size 0 1 1 [n] rfl ?_ 9 Tryd.underlying9
  intro i hi
  obtain rfl : i = 0 := by omega
  refine cell_keep ?_ hb
  show (w.alloc (.cells #[.int .u8 n] 5)).cell? _ = _
  rw [World.cell?_alloc_at _ _ _ _ (by simp)]; rfl

/-- .. behind a draw. -/
theorem byte_string_drew (n : Int) (w : World) : (convert 55 9 (.slice (some ⟨w.heap.size, 0, none⟩) 1 1)).run Tryd.prog (w.alloc (.cells #[.int .u8 n] 5)).drew
    = .ok (.string (Fa.S [UInt8.ofNat n.toNat])) (w.alloc (.cells #[.int .u8 n] 5)).drew :=
  byte_string_keep (Below.refl _ _)

set_option maxHeartbeats 1000000 in
theorem digits_pos : ∀ (N m : Nat), m ≤ N → m ≤ 9223372036854775807 → ∀ (w : World), Calls Tryd.prog 26 #[.int .i64 m] w fun e w' => e = .returned (.string (Fa.S (Lib.decDigits m))) ∧ Below w.heap.size w w' := by
  have step : ∀ (m : Nat), m ≤ 9223372036854775807 → (¬ m < 10 → ∀ (w : World), Calls Tryd.prog 26 #[.int .i64 (m / 10 : Nat)] w fun e w' => e = .returned (.string (Fa.S (Lib.decDigits (m / 10)))) ∧ Below w.heap.size w w') →
      ∀ (w : World), Calls Tryd.prog 26 #[.int .i64 m] w fun e w' => e = .returned (.string (Fa.S (Lib.decDigits m))) ∧ Below w.heap.size w w' := by
    intro m hm ih w
    have hcv := byte_string
    have hcvd := byte_string_drew
    by_cases h9 : (m : Int) < 10
    · have hd1 := Lib.hid (Fa.dec_small (u := m) (by omega))
      clear ih
      go_enter Tryd.func26, Tryd.ntmps26
      go_wp2_with fail
      go_ret
      exact ⟨by rw [hd1.out]; rfl, (Below.refl _ _).alloc (Nat.le_refl _) _⟩
    · have hd0 := Lib.hid (Fa.dec_big (u := m) (by omega))
      have IH := Lib.hid (ih (by omega))
      rw [show ((m / 10 : Nat) : Int) = (m : Int) / 10 by omega] at IH
      have hz : ¬ 9223372036854775807 < (Fa.S (Lib.decDigits (m / 10))).size + (Fa.S [48 + UInt8.ofNat (m % 10)]).size := by
        have := Fa.decDigits_length_le (m / 10) (by omega)
        rw [Fa.S_size, Fa.S_size]; simp; omega
      clear ih
      go_enter Tryd.func26, Tryd.ntmps26
      go_wp2_with fail
      have e1 : IntKind.i64.wrap ((m : Int) / 10) = (m : Int) / 10 := IntWalk.i64_in _ (by omega)
      have e2 : Int.tmod (m : Int) 10 = (m : Int) % 10 := Int.tmod_eq_emod_of_nonneg (by omega)
      have e3 : IntKind.i64.wrap (48 + (m : Int) % 10) = 48 + (m : Int) % 10 := IntWalk.i64_in _ (by omega)
      have e4 : IntKind.u8.wrap (48 + (m : Int) % 10) = 48 + (m : Int) % 10 := by unfold IntKind.wrap; simp [IntKind.bits, IntKind.signed]; omega
      have e5 : UInt8.ofNat (48 + (m : Int) % 10).toNat = 48 + UInt8.ofNat (m % 10) := by rw [show (48 + (m : Int) % 10).toNat = 48 + m % 10 by omega, b48]
      go_region_law (first
        | (go_simp; go_at_call 26; refine (IH.out _).mono ?_; rintro e w1 ⟨rfl, hb1⟩; first | (with_reducible have hcv1 := byte_string_keep hb1) | skip))
      all_goals go_wp2_with fail
      all_goals
        go_ret
        refine ⟨?_, ?_⟩
        · have e : Fa.S (Lib.decDigits (m / 10)) ++ Fa.S [48 + UInt8.ofNat (m % 10)] = Fa.S (Lib.decDigits m) := by rw [hd0.out, Fa.S_app, b48]
          rw [← e]; rfl
        first
          | exact ((Below.refl w.heap.size w).drew.trans hb1).alloc (by have := hb1.size; simpa using this) _
          | exact ((Below.refl w.heap.size w).alloc (Nat.le_refl _) _).drew.trans (hb1.mono (by simp))
  intro N
  induction N with
  | zero => intro m h0 hm w; exact step m hm (fun h => absurd h (by omega)) w
  | succ N ih => intro m h0 hm w; exact step m hm (fun _ => ih (m / 10) (by omega) (by omega)) w

set_option maxHeartbeats 1000000 in
theorem digits_any {n : Int} (hn : Fa.InI n) (w : World) : Calls Tryd.prog 26 #[.int .i64 n] w fun e w' => e = .returned (.string (Fa.S (Lib.itoa n))) ∧ Below w.heap.size w w' := by
  by_cases h0 : n < 0
  · obtain ⟨m, rfl⟩ : ∃ m : Nat, n = -(m : Int) := ⟨n.natAbs, by omega⟩
    have hcv := byte_string
    have hl := Fa.itoa_neg (n := -(m : Int)) (by omega)
    have HL := Lib.hid hl
    clear hl
    have hm : m ≤ 9223372036854775808 := by have := hn.1; omega
    clear hn
    have hab : (-(m : Int)).natAbs = m := by omega
    rw [hab] at HL
    clear hab
    have e45 : (⟨#[45]⟩ : ByteArray) = Fa.S [45] := rfl
    have e0 : (⟨#[]⟩ : ByteArray) = Fa.S [] := rfl
    have E45 := Lib.hid e45
    have E0 := Lib.hid e0
    clear e45 e0
    by_cases h9 : m < 10
    · have hd := Lib.hid (Fa.dec_small (u := m) h9)
      have hm9 := Lib.hid h9
      have ht : (-((m : Int) / 10) != 0) = false := by rw [show (m : Int) / 10 = 0 by omega]; rfl
      have hz : ¬ 9223372036854775807 < 1 + (Fa.S [48 + UInt8.ofNat (m % 10)]).size := by rw [Fa.S_size]; simp
      go_enter Tryd.func26, Tryd.ntmps26
      go_wp2_with fail
      go_ret
      refine ⟨?_, (Below.refl _ _).alloc (Nat.le_refl _) _⟩
      have e : Fa.S [45] ++ Fa.S [] ++ Fa.S [48 + UInt8.ofNat (m % 10)] = Fa.S (Lib.itoa (-(m : Int))) := by
        rw [HL.out, hd.out, Fa.S_app, Fa.S_app, b48, Nat.mod_eq_of_lt hm9.out]; rfl
      rw [← e]; rfl
    · have hd := Lib.hid (Fa.dec_big (u := m) h9)
      have IH := Lib.hid (fun w => digits_pos _ (m / 10) (Nat.le_refl _) (by omega) w)
      rw [show ((m / 10 : Nat) : Int) = (m : Int) / 10 by omega] at IH
      have ht : (-((m : Int) / 10) != 0) = true := by
        have : -((m : Int) / 10) ≠ 0 := by omega
        simpa using this
      have hl2 := Fa.decDigits_length_le (m / 10) (by omega)
      have hz1 : ¬ 9223372036854775807 < 1 + (Fa.S (Lib.decDigits (m / 10))).size := by rw [Fa.S_size]; omega
      have hz2 : ¬ 9223372036854775807 < 1 + (Fa.S (Lib.decDigits (m / 10))).size + (Fa.S [48 + UInt8.ofNat (m % 10)]).size := by rw [Fa.S_size, Fa.S_size]; simp; omega
      clear hl2
      go_enter Tryd.func26, Tryd.ntmps26
      go_wp2_with (go_at_call 26; refine (IH.out _).mono ?_; rintro e w1 ⟨rfl, hb1⟩)
      go_ret
      refine ⟨?_, hb1.alloc hb1.size _⟩
      have e : Fa.S [45] ++ Fa.S (Lib.decDigits (m / 10)) ++ Fa.S [48 + UInt8.ofNat (m % 10)] = Fa.S (Lib.itoa (-(m : Int))) := by
        rw [HL.out, hd.out, Fa.S_app, Fa.S_app, b48]; rfl
      rw [← e]; rfl
  · obtain ⟨m, rfl⟩ : ∃ m : Nat, n = (m : Int) := ⟨n.toNat, by omega⟩
    have := digits_pos m m (Nat.le_refl _) (by have := hn.2; omega) w
    rw [Fa.itoa_pos h0]
    simpa using this

set_option maxRecDepth 100000 in
set_option maxHeartbeats 1000000 in
theorem said_any {l : Fa.Steps} {c : Int} {A : Option Addr} {cap : Nat} (hl : (Fa.pathL l).length ≤ 1000000000) (hn : l.length ≤ 1000000000) (hi : ∀ x ∈ l, Fa.InI x.2) (hc : Fa.InI c) (w : World) (hr : Rd w 2 A l.length (flatP l)) :
    Calls Tryd.prog 15 #[.slice A l.length cap, .int .i64 c] w fun e w' => e = .returned (.string (Fa.S (Fa.saidL l c))) ∧ Below w.heap.size w w' := by
  obtain ⟨i0, hi0, hz0, hz1, hz2⟩ := info_parts byteInfo
  have HR := Lib.hid hr
  have HI := Lib.hid hi
  have HC := Lib.hid hc
  have HL := Lib.hid hl
  clear hr hi hc hl
  go_enter Tryd.func15, Tryd.ntmps15
  go_wp2_with fail
  go_loopg [5, 6] l.length (fun k v i wr => ∃ j n, j + k = l.length ∧ i = .int .i64 j ∧ wr.ownsRow w.heap.size 5 1 v n (Lib.strCells (Fa.S (Fa.pathL (l.take j)))) ∧ Below w.heap.size w wr)
  case atStart => exact ⟨0, 0, by omega, rfl, World.ownsRow_nil _ _ _ _, Below.refl _ _⟩
  case round =>
    obtain ⟨j, n, hj, rfl, hown, hb⟩ := hrel
    by_cases hlt : j < l.length
    · obtain ⟨b2, o2, rfl, h2⟩ := HR.out.2 (by omega)
      have hp2 := flatP_get l j hlt
      have k1 := cell_keep (h2 _ _ hp2.1) hb
      have q0 := h2 _ _ hp2.2
      rw [← Nat.add_assoc] at q0
      have Q0 := Lib.hid q0
      clear q0
      have hlt' : (j : Int) < (l.length : Int) := by omega
      have HN := Lib.hid hown.1
      have hsz : (Fa.S (Fa.pathL (l.take j))).size ≤ 1000000000 := by rw [Fa.S_size]; have := path_take (l := l) j; have := HL.out; omega
      have hn : n ≤ 1000000000 := by have := HN.out; rw [Lib.strCells_length] at this; omega
      have HT := Lib.hid (take_step hlt)
      have hT : (Fa.S (Fa.pathL (l.take j))).size + l[j].1.size + ((Fa.S [32]).size + (Fa.S (Lib.itoa l[j].2)).size + (Fa.S [58, 32]).size) ≤ 1000000000 := by
        have h1 := congrArg ByteArray.size HT.out
        rw [ByteArray.size_append, ByteArray.size_append, ByteArray.size_append, ByteArray.size_append] at h1
        rw [h1, Fa.S_size]; have := path_take (l := l) (j + 1); have := HL.out; omega
      have hwsz : l[j].1.size ≤ 1000000000 := by omega
      have HTT := Lib.hid hT
      clear hT h2 hp2
      have hs1 : ¬ 9223372036854775807 < 1 + (Fa.S (Lib.itoa l[j].2)).size := by have := HTT.out; omega
      have hs2 : ¬ 9223372036854775807 < 1 + (Fa.S (Lib.itoa l[j].2)).size + 2 := by have := HTT.out; omega
      have hA : n + l[j].1.size + (Fa.S [32] ++ Fa.S (Lib.itoa l[j].2) ++ Fa.S [58, 32]).size ≤ 2000000000 := by have := HTT.out; rw [ByteArray.size_append, ByteArray.size_append]; omega
      have HA := Lib.hid hA
      have HB := Lib.hid hb
      clear hb hA
      go_wp2_with (first
        | (go_at_call 26; refine (digits_any (HI.out _ (List.getElem_mem hlt)) _).mono ?_; rintro e w2 ⟨rfl, hb2⟩)
        | (at_builtin; refine Lib.wpList_append_own_string (P := Tryd.prog) _ rfl (.tmp 13) (.tmp 18) _ _ rfl w.heap.size 5 i0 Tryd.underlying55 Tryd.underlying9 hi0 hz0 hz1 hz2 _ n _ rfl hown _ rfl (by unfold maxLen; omega) (by omega) (by have := HB.out.size; omega) ?_; intro v1 w1 hown1 hg1 hnil1; have hb1 : Below w.heap.size w w1 := HB.out.grown (row := u5.ownBlock) hg1 HB.out.size (fun k hk => (hown.lt k hk).1); have hq := cell_keep Q0.out hb1; clear hnil1 hg1; have HO1 := Lib.hid hown1; clear hown1)
        | (at_builtin; refine Lib.wpList_append_own_string (P := Tryd.prog) _ rfl (.tmp 20) (.tmp 28) _ _ rfl w.heap.size 5 i0 Tryd.underlying55 Tryd.underlying9 hi0 hz0 hz1 hz2 _ (n + l[j].1.size) _ rfl (own_keep HO1.out hb2) _ rfl (Nat.le_trans HA.out (by unfold maxLen; omega)) (Nat.le_trans HA.out (by omega)) (by have := hb1.size; have := hb2.size; omega) ?_; intro v3 w3 hown3 hg3 hnil3; have hb2' : Below w.heap.size w w2 := hb1.trans (hb2.mono hb1.size); have hb3 : Below w.heap.size w w3 := hb2'.grown (row := v1.ownBlock) hg3 hb2'.size (fun k hk => (HO1.out.lt k hk).1); clear hnil3 hg3; have HO3 := Lib.hid hown3; clear hown3))
      have hO : w3.ownsRow w.heap.size 5 1 v3 (n + l[j].1.size + (Fa.S [32] ++ Fa.S (Lib.itoa l[j].2) ++ Fa.S [58, 32]).size) (Lib.strCells (Fa.S (Fa.pathL (l.take (j + 1))))) := by
        rw [← HT.out]
        have := HO3.out
        rw [cells_app, cells_app] at this
        exact this
      have HOO := Lib.hid hO
      clear hO HO3
      go_roundg (gk - 1)
      case measure => omega
      case rel => exact ⟨j + 1, _, by omega, by go_num, HOO.out, hb3⟩
    · obtain rfl : j = l.length := by omega
      have ht : l.take l.length = l := List.take_length
      rw [ht] at hown
      have HO := Lib.hid hown
      clear hown ht
      have HB := Lib.hid hb
      clear hb
      have hs3 : ¬ 9223372036854775807 < (Fa.S (Fa.pathL l)).size + (Fa.S (Fa.codeL c)).size := by
        have := Fa.codeL_length HC.out
        have := HL.out
        rw [Fa.S_size, Fa.S_size]; omega
      go_wp2_with fail
      go_region_held3 (fun W => (convert 55 9 u5).run Tryd.prog W = .ok (.string (Fa.S (Fa.pathL l))) W)
        (first | exact own_text HO.out.drew | exact own_text (own_keep HO.out.drew hb1))
        ((go_at_call 25; refine (code_text HC.out _).mono ?_; rintro e w1 ⟨rfl, hb1⟩))
      go_wp2_with fail
      go_ret
      refine ⟨?_, HB.out.drew.trans (hb1.mono HB.out.size)⟩
      unfold Fa.saidL
      rw [← Fa.S_app]; rfl

end Go.Proofs.YtjlaljbmcncciaaDoor
