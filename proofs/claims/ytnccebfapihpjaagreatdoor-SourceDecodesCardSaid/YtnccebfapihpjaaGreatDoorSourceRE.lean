/- Contracts of kinref15.folds and kinref15.least. -/
import Derived.Test.YtnccebfapihpjaaGreatDoorSourceB
import Derived.Deep.RegionLaw
namespace Go.Proofs.YtnccebfapihpjaaGreatDoor
open Go Go.RowKit Go.Extern.Stop Go.Stop Go.Extern

set_option maxRecDepth 100000 in
set_option maxHeartbeats 2000000 in
theorem rfolds_any {L : List Int} {A : Option Addr} {c fw fh : Nat} (hw : 1 ≤ fw) (hLn : L.length = fw * fh) (hL : L.length ≤ 1000000) (hb : ∀ v ∈ L, 0 ≤ v ∧ v ≤ 255) (hwb : fw ≤ 1000000) (W : World) (ha : RdI .i64 W A L) :
    Calls Tryz.prog 27 #[.agg #[.int .i64 fw, .int .i64 fh, .slice A L.length c]] W (NewI W (So.folds L fw)) := by
  obtain ⟨i0, hi, hz0, hz1, hz2⟩ := info_parts intInfo
  have HA := Lib.hid ha
  have HBD := Lib.hid hb
  clear ha hb
  have HN := Lib.hid (folds_length L fw)
  have hbx : Below W.heap.size W (W.alloc (.cells #[.int .i64 fw, .int .i64 fh, .slice A L.length c] 48)) := (Below.refl _ _).alloc (Nat.le_refl _) _
  obtain ⟨n, hn⟩ : ∃ n, L.length = n := ⟨_, rfl⟩
  have hNn := Lib.hid hn
  have hfz := Blk.new W 48 #[.int .i64 fw, .int .i64 fh, .slice A L.length c]
  rw [hn] at hfz hbx ⊢
  have HFZ := Lib.hid hfz
  have HBX := Lib.hid hbx
  have hn9 : n ≤ 1000000 := by omega
  have hmi : (fw : Int) * (fh : Int) = (n : Int) := by rw [← hn, hLn]; simp
  have HMW : Hid (IntKind.i64.wrap ((fw : Int) * (fh : Int)) = n) := Lib.hid (by rw [hmi]; exact IntWalk.i64_in _ (by omega))
  clear hn hL hfz hbx hLn hmi
  go_enter Tryz.func27, Tryz.ntmps27
  go_wp2_with fail
  go_loopg [3, 4] n (fun k v3 v4 wr => ∃ (j : Nat) (AO : Option Addr) (cO : Nat), j + k = n ∧ v4 = .int .i64 j ∧ v3 = .slice AO j cO ∧
    wr.ownsRow (W.heap.size + 1) 3 1 (.slice AO j cO) j (((So.folds L fw).take j).map (Value.int .i64)) ∧ Blk wr W.heap.size 48 #[.int .i64 fw, .int .i64 fh, .slice A n c] ∧ Below W.heap.size W wr)
  case atStart => exact ⟨0, none, 0, by omega, rfl, rfl, ⟨rfl, .inl ⟨rfl, rfl⟩⟩, HFZ.out, HBX.out⟩
  case round =>
    obtain ⟨j, AO, cO, hj, rfl, rfl, hown, hblk, hbel⟩ := hrel
    have hc0 : wr.cell? ⟨W.heap.size, 0, none⟩ = some (.int .i64 fw) := by rw [hblk.cell]; rfl
    have hc1 : wr.cell? ⟨W.heap.size, 1, none⟩ = some (.int .i64 fh) := by rw [hblk.cell]; rfl
    have hc2 : wr.cell? ⟨W.heap.size, 2, none⟩ = some (.slice A n c) := by rw [hblk.cell]; rfl
    have hmw := HMW.out
    by_cases hlt : j < n
    · obtain ⟨m, rfl⟩ : ∃ m, gk = m + 1 := ⟨gk - 1, by omega⟩
      have hltL : j < L.length := by have := hNn.out; omega
      obtain ⟨b2, o2, rfl, k2⟩ := (HA.out.keep hbel).at_ hltL
      have hlt' : (j : Int) < (n : Int) := by omega
      have hj0 : (0 : Int) ≤ (j : Int) := by omega
      have hx := HBD.out _ (List.getElem_mem hltL)
      have hg := So.guess_bd HBD.out fw j
      obtain ⟨R, hR⟩ : ∃ R, j % fw = R := ⟨_, rfl⟩
      obtain ⟨Q, hQ⟩ : ∃ Q, j / fw = Q := ⟨_, rfl⟩
      have hQR : Q * fw + R = j := by rw [← hQ, ← hR]; exact Nat.div_add_mod' j fw
      have hRl : R < fw := by rw [← hR]; exact Nat.mod_lt _ (by omega)
      have hQl : Q ≤ j := by rw [← hQ]; exact Nat.div_le_self _ _
      have CG : ∀ w', Below wr.heap.size wr w' → Calls Tryz.prog 60 #[.slice (some ⟨b2, o2, none⟩) n c, .int .i64 fw, .int .i64 R, .int .i64 Q] w' fun e w'' => e = .returned (.int .i64 (So.guess L fw j)) ∧ Below w'.heap.size w' w'' := fun w' hb => by
        have h := rguess_any (L := L) (w := fw) (x := R) (y := Q) (c := c) hw hRl (by rw [hQR]; omega) (by have := hNn.out; omega) HBD.out hwb (by omega) w' (HA.out.keep (hbel.trans (hb.mono hbel.size)))
        rw [hQR, hNn.out] at h
        exact h.mono fun e w'' ⟨he, m, hm⟩ => ⟨he, hm ▸ below_drewN (Below.refl _ _) m⟩
      have hz3' : ¬ fw = 0 := by omega
      have hz1' : ¬ (fw : Int) = 0 := by omega
      have hz2' : ((fw : Int) == 0) = false := by simpa using hz1'
      have hrem : Int.tmod (j : Int) (fw : Int) = (R : Int) := by rw [← hR]; rfl
      have hrem' : (j : Int) % (fw : Int) = (R : Int) := by rw [← hR]; rfl
      have hquo' : (j : Int) / (fw : Int) = (Q : Int) := by rw [← hQ]; rfl
      have hquo : IntKind.i64.wrap ((j : Int) / (fw : Int)) = (Q : Int) := by rw [hquo']; exact IntWalk.i64_in _ (by omega)
      have hwQ : IntKind.i64.wrap (Q : Int) = (Q : Int) := IntWalk.i64_in _ (by omega)
      have hfold := Lib.hid (folds_snoc (w := fw) hltL)
      have hfa : So.foldAt L fw j = Co.fold (L[j] - So.guess L fw j) := by unfold So.foldAt; rw [getD_at hltL]
      rw [hfa] at hfold
      obtain ⟨x, hxe⟩ : ∃ x, L[j] = x := ⟨_, rfl⟩
      obtain ⟨g, hge⟩ : ∃ g, So.guess L fw j = g := ⟨_, rfl⟩
      rw [hxe] at k2 hx hfold
      rw [hge] at hg CG hfold
      have hsub : IntKind.i64.wrap (x - g) = x - g := IntWalk.i64_in _ (by omega)
      obtain ⟨y, hy⟩ : ∃ y, Co.fold (x - g) = y := ⟨_, rfl⟩
      have CF : Hid (∀ w', Calls Tryz.prog 59 #[.int .i64 (x - g)] w' fun e w'' => e = .returned (.int .i64 y) ∧ w' = w'') := Lib.hid fun w' => by rw [← hy]; exact RFold_any (x - g) (by omega) w'
      rw [hy] at hfold
      have HOW := Lib.hid hown
      have HBK := Lib.hid hblk
      have HBEL := Lib.hid hbel
      have CG' := Lib.hid CG
      have B1 : Below wr.heap.size wr wr.drew := (Below.refl _ _).drew
      have hsr : W.heap.size < wr.heap.size := hblk.lt
      have hb2 : b2 < W.heap.size := by
        obtain ⟨b9, o9, hA9, k9⟩ := HA.out.at_ hltL
        have h9 := lt_of_cell k9
        injection hA9 with h
        injection h with h1 h2
        subst h1
        exact h9
      have hlow : Hid (∀ i, (Value.slice AO j cO).ownBlock = some i → W.heap.size + 1 ≤ i) := Lib.hid fun i hi => (hown.lt i hi).1
      clear hR hQ hQR hRl hfa hown hxe hge hQl CG hblk hbel hy
      go_wp2_with fail
      clear hc1 hmw
      go_region_held3 (fun W' => W'.cell? ⟨W.heap.size, 0, none⟩ = some (.int .i64 fw) ∧ W'.cell? ⟨W.heap.size, 2, none⟩ = some (.slice (some ⟨b2, o2, none⟩) n c) ∧ W'.cell? ⟨b2, o2 + j, none⟩ = some (.int .i64 x))
        (first | go_keep | exact hs8 | exact hs9 | exact ⟨cell_keep hs8.1 ((Below.refl w8.heap.size w8).alloc (Nat.le_refl _) _), cell_keep hs8.2.1 ((Below.refl w8.heap.size w8).alloc (Nat.le_refl _) _), cell_keep hs8.2.2 ((Below.refl w8.heap.size w8).alloc (Nat.le_refl _) _)⟩ | fail)
        (first
          | (go_at_call 60; refine (CG'.out _ B1).mono ?_; rintro e w8 ⟨rfl, hb8⟩; have hs8 := And.intro (cell_keep (cell_keep hc0 B1) hb8) (And.intro (cell_keep (cell_keep hc2 B1) hb8) (cell_keep (cell_keep k2 B1) hb8)); have hb8' := B1.trans (hb8.mono B1.size))
          | (go_at_call 59; refine (CF.out _).mono ?_; rintro e w' ⟨rfl, rfl⟩)
          | (refine step_append_rd _ (by rfl) (.tmp 14) (.tmp 35) _ (by rfl) (W.heap.size + 1) 3 i0 _ 1 8 Tryz.underlying46 hi hz0 hz1 hz2 rfl (by omega) (.slice AO j cO) j _ (by rfl) ((own_keep HOW.out hb8').alloc (.cells #[.int .i64 y] 3)) (some ⟨w8.heap.size, 0, none⟩) 1 1 [.int .i64 y] (by rfl) (RdI.of_blk (l := [y]) (Blk.new w8 3 #[.int .i64 y]) rfl) (by simp [Value.oneCell']) (by unfold maxLen; omega) (by omega) (by have := hb8'.size; simp; omega) ?_; intro B cap w9 hown9 hgrow9 hB9
             have hc9 : Chg (fun i => (Value.slice AO j cO).ownBlock = some i) (w8.alloc (.cells #[.int .i64 y] 3)) w9 := Chg.of_grown hgrow9 (fun i _ e => e.symm)
             have al : Below w8.heap.size w8 (w8.alloc (.cells #[.int .i64 y] 3)) := (Below.refl _ _).alloc (Nat.le_refl _) _
             have hs9 := And.intro (cell_chg (cell_keep hs8.1 al) hc9 (fun e => by have := hlow.out _ e; simp at this; omega)) (And.intro (cell_chg (cell_keep hs8.2.1 al) hc9 (fun e => by have := hlow.out _ e; simp at this; omega)) (cell_chg (cell_keep hs8.2.2 al) hc9 (fun e => by have := hlow.out _ e; simp at this; omega)))
             have HK9 := Lib.hid ((((HBK.out.keep hb8').alloc (.cells #[.int .i64 y] 3))).chg hc9 (fun e => by have := hlow.out _ e; omega))
             have hB8 := HBEL.out.trans (hb8'.mono HBEL.out.size)
             have HB9 := Lib.hid ((hB8.trans (al.mono hB8.size)).trans (hc9.below (by have := hB8.size; simp; omega) (fun i e => by have := hlow.out _ e; omega)))
             have HO9 := Lib.hid hown9)
          | fail)
      all_goals
        have hrow : List.map (Value.int IntKind.i64) ((So.folds L fw).take j) ++ [Value.int IntKind.i64 y] = ((So.folds L fw).take (j + 1)).map (Value.int .i64) := by rw [hfold.out]; simp
        have HROW := Lib.hid hrow
        clear hrow hown9 hgrow9 hB9 hc9 al hs9 hs8 hb8 hb8' hB8 hrem hrem' hquo hquo' hwQ hsub hc0 hc2 k2 B1
        go_wp2_with fail
        go_roundg m
        case measure => omega
        case rel => exact ⟨j + 1, B, cap, by omega, by go_num, rfl, by rw [← HROW.out]; exact HO9.out, HK9.out, HB9.out⟩
    · obtain rfl : j = n := by omega
      obtain rfl : gk = 0 := by omega
      have HO2 := Lib.hid hown
      clear hown hblk
      go_wp2_with fail
      go_ret
      have h := HO2.out
      have hlen : j = (So.folds L fw).length := by have := HN.out; have := hNn.out; omega
      rw [List.take_of_length_le (by omega)] at h
      unfold NewI
      rw [← hlen]
      exact ⟨_, _, rfl, own_base h (by omega), hbel⟩

set_option maxRecDepth 100000 in
set_option maxHeartbeats 1000000 in
theorem least_any {L : List Int} {A : Option Addr} {c : Nat} (hL : L.length ≤ 1000000) (hb : ∀ v ∈ L, 0 ≤ v ∧ v ≤ 510) (W : World) (ha : RdI .i64 W A L) :
    Calls Tryz.prog 28 #[.slice A L.length c] W fun e w' => e = .returned (.int .i64 (So.bestK L)) ∧ W = w' := by
  have HA := Lib.hid ha
  have HB := Lib.hid hb
  clear ha hb
  obtain ⟨n, hn⟩ : ∃ n, L.length = n := ⟨_, rfl⟩
  have HN := Lib.hid hn
  rw [hn] at hL ⊢
  clear hn
  go_enter Tryz.func28, Tryz.ntmps28
  go_wp2_with fail
  go_loopg [3, 4, 5] 8 (fun k v3 v4 v5 wr => ∃ j : Nat, j + k = 8 ∧ v5 = .int .i64 j ∧ ∃ (b m : Int), v4 = .int .i64 b ∧ v3 = .int .i64 m ∧ Hid (So.best L j = (b, m)) ∧ wr = W)
  case atStart => exact ⟨0, by omega, rfl, 0, -1, rfl, rfl, Lib.hid rfl, rfl⟩
  case round =>
    obtain ⟨j, hj, rfl, b, m, rfl, rfl, hbest, rfl⟩ := hrel
    by_cases hlt : j < 8
    · have hlt' : (j : Int) < 8 := by omega
      go_wp2_with fail
      go_loopg [6, 7] n (fun k v6 v7 wx => ∃ (t : Nat) (S : Int), t + k = n ∧ v7 = .int .i64 t ∧ v6 = .int .i64 S ∧ 0 ≤ S ∧ S ≤ 55 * t ∧ Hid (S = So.cost j (L.take t)) ∧ wx = wr)
      case atStart => exact ⟨0, 0, by omega, rfl, rfl, by omega, by omega, Lib.hid rfl, rfl⟩
      case round =>
        obtain ⟨t, S, ht, rfl, rfl, hS0, hS1, hS, rfl⟩ := hrel
        by_cases htl : t < n
        · have htL : t < L.length := by have := HN.out; omega
          obtain ⟨b2, o2, rfl, k2⟩ := HA.out.at_ htL
          have htl' : (t : Int) < (n : Int) := by omega
          have hx := HB.out _ (List.getElem_mem htL)
          have hsn := Lib.hid (cost_snoc j htL)
          obtain ⟨x, hxe⟩ : ∃ x, L[t] = x := ⟨_, rfl⟩
          rw [hxe] at k2 hx hsn
          have hsb := Co.sizeRice_bd x j
          obtain ⟨z, hz⟩ : ∃ z, Co.sizeRice x j = z := ⟨_, rfl⟩
          rw [hz] at hsb hsn
          have CS : Hid (∀ w, Calls Tryz.prog 61 #[.int .i64 x, .int .i64 j] w fun e w' => e = .returned (.int .i64 z) ∧ w = w') := Lib.hid fun w => by
            rw [← hz]; exact RSizeRice_any x j (by omega) (by omega) w
          clear hxe hz
          go_wp2_with (go_at_call 61; refine (CS.out _).mono ?_; rintro e w' ⟨rfl, rfl⟩)
          go_roundg (gk - 1)
          case measure => omega
          case rel => exact ⟨t + 1, S + z, by omega, by go_num, rfl, by omega, by omega, Lib.hid (by rw [hsn.out, hS.out]), rfl⟩
        · obtain rfl : t = n := by omega
          have hSe : Hid (S = So.cost j L) := Lib.hid (by have h := hS.out; rwa [List.take_of_length_le (by have := HN.out; omega)] at h)
          clear hS
          by_cases h1 : m < 0
          · have hbs : Hid (So.best L (j + 1) = ((j : Int), S)) := Lib.hid (by simp only [So.best]; rw [hbest.out, hSe.out, if_pos (.inl h1)])
            go_wp2_with fail
            go_roundg (7 - j)
            case measure => omega
            case rel => exact ⟨j + 1, by omega, by go_num, j, S, rfl, rfl, hbs, rfl⟩
          · by_cases h2 : S < m
            · have hbs : Hid (So.best L (j + 1) = ((j : Int), S)) := Lib.hid (by simp only [So.best]; rw [hbest.out, hSe.out, if_pos (.inr (by rw [← hSe.out]; exact h2))])
              go_wp2_with fail
              go_roundg (7 - j)
              case measure => omega
              case rel => exact ⟨j + 1, by omega, by go_num, j, S, rfl, rfl, hbs, rfl⟩
            · have hbs : Hid (So.best L (j + 1) = (b, m)) := Lib.hid (by simp only [So.best]; rw [hbest.out, if_neg (by rw [← hSe.out]; simp only; omega)])
              go_wp2_with fail
              go_roundg (7 - j)
              case measure => omega
              case rel => exact ⟨j + 1, by omega, by go_num, b, m, rfl, rfl, hbs, rfl⟩
    · obtain rfl : j = 8 := by omega
      have hbk : Hid (So.bestK L = b) := Lib.hid (by unfold So.bestK; rw [hbest.out])
      go_wp2_with fail
      go_ret
      exact ⟨by rw [hbk.out]; rfl, rfl⟩

end Go.Proofs.YtnccebfapihpjaaGreatDoor
