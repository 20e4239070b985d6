/- Contract of source.Decode: bytes as frames. -/
import Derived.Test.YtnccebfapihpjaaGreatDoorSourceFr
import Derived.Test.YtnccebfapihpjaaGreatDoorDecL
namespace Go.Proofs.YtnccebfapihpjaaGreatDoor
open Go Go.RowKit Go.Extern.Stop Go.Stop Go.Extern

/-- May a byte be a side? -/
def sideU (x : Int) : Bool := decide (1 ≤ x ∧ x ≤ 4)
theorem sideU_any (x : Int) (hx : 0 ≤ x ∧ x ≤ 255) (w : World) : Calls Tryz.prog 36 #[.int .u8 x] w fun e w' => e = .returned (.bool (sideU x)) ∧ w = w' := by
  by_cases h1 : 1 ≤ x
  · by_cases h2 : x ≤ 4
    · have hs := Lib.hid (show sideU x = true from decide_eq_true ⟨h1, h2⟩)
      go_enter Tryz.func36, Tryz.ntmps36
      go_wp2_with fail
      go_ret
      exact ⟨by rw [hs.out]; rfl, rfl⟩
    · have hs := Lib.hid (show sideU x = false from decide_eq_false fun h => h2 h.2)
      go_enter Tryz.func36, Tryz.ntmps36
      go_wp2_with fail
      go_ret
      exact ⟨by rw [hs.out]; rfl, rfl⟩
  · have hs := Lib.hid (show sideU x = false from decide_eq_false fun h => h1 h.1)
    go_enter Tryz.func36, Tryz.ntmps36
    go_wp2_with fail
    go_ret
    exact ⟨by rw [hs.out]; rfl, rfl⟩

/-- What source.Decode answers. -/
def DecOut (w : World) (b : List Int) (e : Ending) (w' : World) : Prop :=
  (match decF b with
   | .ok fs => ∃ A c l, e = .returned (.tuple #[.slice A l.length c, .nilIface]) ∧ RdF w' A l ∧ l.map Frm.pix = fs ∧ ∀ f ∈ l, f.w = wOf b ∧ f.h = hOf b
   | .error pc => ∃ v, e = .returned (.tuple #[.slice none 0 0, v]) ∧ ErrAt w' pc.1 (.iface 31 (.int .i64 pc.2)) v) ∧
  Below w.heap.size w w'

theorem DecOut.head {w w' : World} {b : List Int} {z : Nat} {c : Int} (hd : decF b = .error ([(sSource, -1)], c)) (hB : Blk w' z 108 #[.string sSource, .int .i64 (-1), .iface 31 (.int .i64 c)]) (hb : Below w.heap.size w w') :
    DecOut w b (.returned (.tuple #[.slice none 0 0, .iface 105 (.pointer (some ⟨z, 0, none⟩))])) w' := by
  unfold DecOut
  rw [hd]
  exact ⟨⟨_, rfl, _, _, rfl, hB, rfl⟩, hb⟩

theorem dec_headed {b : List Int} {c : Int} (h : headF b = c) (h0 : c ≠ 0) : decF b = .error ([(sSource, -1)], c) := by
  unfold decF
  rw [if_neg (by rw [h]; exact h0), h]

theorem Decode_1 {b : List Int} {A : Option Addr} {c : Nat} (h5 : b.length < 5) (w : World) :
    Calls Tryz.prog 14 #[.slice A b.length c] w (DecOut w b) := by
  have hd := Lib.hid (dec_headed (b := b) (c := 1) (by unfold headF; rw [if_pos h5]) (by decide))
  go_enter Tryz.func14, Tryz.ntmps14
  go_wp2_with fail
  refine (In_some _ _ _ _ _).mono ?_
  rintro e w1 ⟨rfl, hB1, hb1⟩
  go_wp2_with fail
  go_ret2
  exact DecOut.head hd.out hB1 hb1

/-- The cells of the head. -/
theorem head_cells {w : World} {b : List Int} {A : Option Addr} (ha : RdI .u8 w A b) (h5 : 5 ≤ b.length) (hbd : ∀ x ∈ b, 0 ≤ x ∧ x ≤ 255) : ∃ (q o n0 n1 n2 n3 n4 : Nat), A = some ⟨q, o, none⟩ ∧
    Hid (b.getD 0 0 = n0 ∧ b.getD 1 0 = n1 ∧ b.getD 2 0 = n2 ∧ b.getD 3 0 = n3 ∧ b.getD 4 0 = n4) ∧ (n0 ≤ 255 ∧ n1 ≤ 255 ∧ n2 ≤ 255 ∧ n3 ≤ 255 ∧ n4 ≤ 255) ∧
    w.cell? ⟨q, o, none⟩ = some (.int .u8 n0) ∧ w.cell? ⟨q, o + 1, none⟩ = some (.int .u8 n1) ∧ w.cell? ⟨q, o + 2, none⟩ = some (.int .u8 n2) ∧ w.cell? ⟨q, o + 3, none⟩ = some (.int .u8 n3) ∧ w.cell? ⟨q, o + 4, none⟩ = some (.int .u8 n4) := by
  obtain ⟨q, o, hA, h0⟩ := ha.2 (by omega)
  have H : ∀ i, i < 5 → ∃ n : Nat, b.getD i 0 = n ∧ n ≤ 255 ∧ w.cell? ⟨q, o + i, none⟩ = some (.int .u8 n) := fun i hi => by
    have hl : i < b.length := by omega
    have hx := hbd _ (List.getElem_mem hl)
    refine ⟨b[i].toNat, ?_, by omega, ?_⟩
    · rw [List.getD_eq_getElem?_getD, List.getElem?_eq_getElem hl]; simp; omega
    · rw [h0 i (.int .u8 b[i]) (by rw [List.getElem?_map, List.getElem?_eq_getElem hl]; rfl), Int.toNat_of_nonneg hx.1]
  obtain ⟨n0, a0, b0, c0⟩ := H 0 (by omega)
  obtain ⟨n1, a1, b1, c1⟩ := H 1 (by omega)
  obtain ⟨n2, a2, b2, c2⟩ := H 2 (by omega)
  obtain ⟨n3, a3, b3, c3⟩ := H 3 (by omega)
  obtain ⟨n4, a4, b4, c4⟩ := H 4 (by omega)
  exact ⟨q, o, n0, n1, n2, n3, n4, hA, Lib.hid ⟨a0, a1, a2, a3, a4⟩, ⟨b0, b1, b2, b3, b4⟩, c0, c1, c2, c3, c4⟩

set_option maxRecDepth 100000 in
theorem Decode_2 {b : List Int} {A : Option Addr} {c : Nat} (h5 : 5 ≤ b.length) (hbd : ∀ x ∈ b, 0 ≤ x ∧ x ≤ 255) (h2 : ¬ (b.getD 0 0 = 75 ∧ b.getD 1 0 = 83)) (w : World) (ha : RdI .u8 w A b) :
    Calls Tryz.prog 14 #[.slice A b.length c] w (DecOut w b) := by
  have hd := Lib.hid (dec_headed (b := b) (c := 2) (by unfold headF; rw [if_neg (by omega), if_pos h2]) (by decide))
  obtain ⟨q, o, n0, n1, n2, n3, n4, rfl, HN, ⟨hn0, hn1, -⟩, k0, k1, -⟩ := head_cells ha h5 hbd
  rw [HN.out.1, HN.out.2.1] at h2
  by_cases h75 : n0 = 75
  · subst h75
    have h83 : ¬ n1 = 83 := fun h => h2 ⟨rfl, by rw [h]; rfl⟩
    have hne : ((n1 : Int) != 83) = true := by rw [bne_iff_ne]; omega
    clear h2 hbd ha h83
    go_enter Tryz.func14, Tryz.ntmps14
    go_wp2_with fail
    refine (In_some _ _ _ _ _).mono ?_
    rintro e w1 ⟨rfl, hB1, hb1⟩
    go_wp2_with fail
    go_ret2
    exact DecOut.head hd.out hB1 hb1
  · have hne : ((n0 : Int) != 75) = true := by rw [bne_iff_ne]; omega
    clear h2 hbd ha h75
    go_enter Tryz.func14, Tryz.ntmps14
    go_wp2_with fail
    refine (In_some _ _ _ _ _).mono ?_
    rintro e w1 ⟨rfl, hB1, hb1⟩
    go_wp2_with fail
    go_ret2
    exact DecOut.head hd.out hB1 hb1

set_option maxRecDepth 100000 in
set_option maxHeartbeats 1000000 in
theorem Decode_3 {b : List Int} {A : Option Addr} {c : Nat} (h5 : 5 ≤ b.length) (hbd : ∀ x ∈ b, 0 ≤ x ∧ x ≤ 255) (h2 : b.getD 0 0 = 75 ∧ b.getD 1 0 = 83)
    (h3 : ¬ ((1 ≤ b.getD 2 0 ∧ b.getD 2 0 ≤ 4) ∧ (1 ≤ b.getD 3 0 ∧ b.getD 3 0 ≤ 4) ∧ 1 ≤ b.getD 4 0 ∧ b.getD 4 0 ≤ 16)) (w : World) (ha : RdI .u8 w A b) :
    Calls Tryz.prog 14 #[.slice A b.length c] w (DecOut w b) := by
  have hd := Lib.hid (dec_headed (b := b) (c := 3) (by unfold headF; rw [if_neg (by omega), if_neg (by simp only [h2, and_self, not_true_eq_false, not_false_eq_true]), if_pos h3]) (by decide))
  obtain ⟨q, o, n0, n1, n2, n3, n4, rfl, HN, ⟨hn0, hn1, hn2, hn3, hn4⟩, k0, k1, k2, k3, k4⟩ := head_cells ha h5 hbd
  obtain ⟨e0, e1, e2, e3, e4⟩ := HN.out
  rw [e0, e1] at h2
  rw [e2, e3, e4] at h3
  obtain rfl : n0 = 75 := by omega
  obtain rfl : n1 = 83 := by omega
  have C2 := Lib.hid (sideU_any n2 (by omega))
  have C3 := Lib.hid (sideU_any n3 (by omega))
  clear h2 hbd ha e0 e1 e2 e3 e4
  have hc : (sideU n2 = false) ∨ (sideU n2 = true ∧ sideU n3 = false) ∨ (sideU n2 = true ∧ sideU n3 = true ∧ ¬ 1 ≤ n4) ∨ (sideU n2 = true ∧ sideU n3 = true ∧ 1 ≤ n4 ∧ ¬ n4 ≤ 16) := by
    unfold sideU
    simp only [decide_eq_true_eq, decide_eq_false_iff_not]
    omega
  clear h3
  rcases hc with h | ⟨h, h'⟩ | ⟨h, h', h''⟩ | ⟨h, h', h'', h'''⟩
  · rw [h] at C2
    clear h
    go_enter Tryz.func14, Tryz.ntmps14
    go_wp2_with fail
    refine (C2.out _).mono ?_
    rintro e w' ⟨rfl, rfl⟩
    go_wp2_with fail
    refine (In_some _ _ _ _ _).mono ?_
    rintro e w1 ⟨rfl, hB1, hb1⟩
    go_wp2_with fail
    go_ret2
    exact DecOut.head hd.out hB1 hb1
  · rw [h] at C2
    rw [h'] at C3
    clear h h'
    go_enter Tryz.func14, Tryz.ntmps14
    go_wp2_with fail
    refine (C2.out _).mono ?_
    rintro e w' ⟨rfl, rfl⟩
    go_wp2_with fail
    refine (C3.out _).mono ?_
    rintro e w' ⟨rfl, rfl⟩
    go_wp2_with fail
    refine (In_some _ _ _ _ _).mono ?_
    rintro e w1 ⟨rfl, hB1, hb1⟩
    go_wp2_with fail
    go_ret2
    exact DecOut.head hd.out hB1 hb1
  · rw [h] at C2
    rw [h'] at C3
    have hlt : (n4 : Int) < 1 := by omega
    clear h h' h''
    go_enter Tryz.func14, Tryz.ntmps14
    go_wp2_with fail
    refine (C2.out _).mono ?_
    rintro e w' ⟨rfl, rfl⟩
    go_wp2_with fail
    refine (C3.out _).mono ?_
    rintro e w' ⟨rfl, rfl⟩
    go_wp2_with fail
    refine (In_some _ _ _ _ _).mono ?_
    rintro e w1 ⟨rfl, hB1, hb1⟩
    go_wp2_with fail
    go_ret2
    exact DecOut.head hd.out hB1 hb1
  · rw [h] at C2
    rw [h'] at C3
    have hlt : ¬ (n4 : Int) < 1 := by omega
    have hgt : 16 < (n4 : Int) := by omega
    clear h h' h'' h'''
    go_enter Tryz.func14, Tryz.ntmps14
    go_wp2_with fail
    refine (C2.out _).mono ?_
    rintro e w' ⟨rfl, rfl⟩
    go_wp2_with fail
    refine (C3.out _).mono ?_
    rintro e w' ⟨rfl, rfl⟩
    go_wp2_with fail
    refine (In_some _ _ _ _ _).mono ?_
    rintro e w1 ⟨rfl, hB1, hb1⟩
    go_wp2_with fail
    go_ret2
    exact DecOut.head hd.out hB1 hb1

end Go.Proofs.YtnccebfapihpjaaGreatDoor
