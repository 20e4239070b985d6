/- Contracts of source.best and kinref15.least: with which k numbers take the fewest bits. -/
import Derived.Test.YtnccebfapihpjaaGreatDoorSourceE
namespace Go.Proofs.YtnccebfapihpjaaGreatDoor
open Go Go.RowKit Go.Extern.Stop Go.Stop Go.Extern

theorem cost_snoc (k : Int) {l : List Int} {t : Nat} (h : t < l.length) : So.cost k (l.take (t + 1)) = So.cost k (l.take t) + Co.sizeRice l[t] k := by
  rw [List.take_succ_eq_append_getElem h, So.cost_app]
  simp [So.cost]

set_option maxRecDepth 100000 in
set_option maxHeartbeats 1000000 in
theorem best_any {L : List Int} {A : Option Addr} {c : Nat} (hL : L.length ≤ 1000000) (hb : ∀ v ∈ L, 0 ≤ v ∧ v ≤ 510) (W : World) (ha : RdI .i64 W A L) :
    Calls Tryz.prog 21 #[.slice A L.length c] W fun e w' => e = .returned (.int .i64 (So.bestK L)) ∧ W = w' := by
  have HA := Lib.hid ha
  have HB := Lib.hid hb
  clear ha hb
  obtain ⟨n, hn⟩ : ∃ n, L.length = n := ⟨_, rfl⟩
  have HN := Lib.hid hn
  rw [hn] at hL ⊢
  clear hn
  go_enter Tryz.func21, Tryz.ntmps21
  go_wp2_with fail
  go_loopg [3, 4, 5, 6, 9] 8 (fun k v3 v4 v5 v6 v9 wr => ∃ j : Nat, j + k = 8 ∧ v9 = .int .i64 j ∧ ∃ (b m : Int), v3 = .int .i64 b ∧ v4 = .int .i64 m ∧ Hid (So.best L j = (b, m)) ∧ wr = W)
  case atStart => exact ⟨0, by omega, rfl, 0, -1, rfl, rfl, Lib.hid rfl, rfl⟩
  case round =>
    obtain ⟨j, hj, rfl, b, m, rfl, rfl, hbest, rfl⟩ := hrel
    by_cases hlt : j < 8
    · have hlt' : (j : Int) < 8 := by omega
      go_wp2_with fail
      go_loopg [6, 8, 14] n (fun k v6 v8 v14 wx => ∃ (t : Nat) (S : Int), t + k = n ∧ v14 = .int .i64 t ∧ v6 = .int .i64 S ∧ 0 ≤ S ∧ S ≤ 55 * t ∧ Hid (S = So.cost j (L.take t)) ∧ wx = wr)
      case atStart => exact ⟨0, 0, by omega, rfl, rfl, by omega, by omega, Lib.hid rfl, rfl⟩
      case round =>
        obtain ⟨t, S, ht, rfl, rfl, hS0, hS1, hS, rfl⟩ := hrel
        by_cases htl : t < n
        · have htL : t < L.length := by have := HN.out; omega
          obtain ⟨b2, o2, rfl, k2⟩ := HA.out.at_ htL
          have htl' : (t : Int) < (n : Int) := by omega
          have hx := HB.out _ (List.getElem_mem htL)
          have hsn := Lib.hid (cost_snoc j htL)
          obtain ⟨x, hxe⟩ : ∃ x, L[t] = x := ⟨_, rfl⟩
          rw [hxe] at k2 hx hsn
          have hsb := Co.sizeRice_bd x j
          obtain ⟨z, hz⟩ : ∃ z, Co.sizeRice x j = z := ⟨_, rfl⟩
          rw [hz] at hsb hsn
          have CS : Hid (∀ w, Calls Tryz.prog 53 #[.int .i64 x, .int .i64 j] w fun e w' => e = .returned (.int .i64 z) ∧ w = w') := Lib.hid fun w => by
            rw [← hz]; exact SizeRice_any x j (by omega) (by omega) w
          clear hxe hz
          go_wp2_with (go_at_call 53; refine (CS.out _).mono ?_; rintro e w' ⟨rfl, rfl⟩)
          go_roundg (gk - 1)
          case measure => omega
          case rel => exact ⟨t + 1, S + z, by omega, by go_num, rfl, by omega, by omega, Lib.hid (by rw [hsn.out, hS.out]), rfl⟩
        · obtain rfl : t = n := by omega
          have hSe : Hid (S = So.cost j L) := Lib.hid (by have h := hS.out; rwa [List.take_of_length_le (by have := HN.out; omega)] at h)
          clear hS
          by_cases h1 : m < 0
          · have hbs : Hid (So.best L (j + 1) = ((j : Int), S)) := Lib.hid (by simp only [So.best]; rw [hbest.out, hSe.out, if_pos (.inl h1)])
            go_wp2_with fail
            go_roundg (7 - j)
            case measure => omega
            case rel => exact ⟨j + 1, by omega, by go_num, j, S, rfl, rfl, hbs, rfl⟩
          · by_cases h2 : S < m
            · have hbs : Hid (So.best L (j + 1) = ((j : Int), S)) := Lib.hid (by simp only [So.best]; rw [hbest.out, hSe.out, if_pos (.inr (by rw [← hSe.out]; exact h2))])
              go_wp2_with fail
              go_roundg (7 - j)
              case measure => omega
              case rel => exact ⟨j + 1, by omega, by go_num, j, S, rfl, rfl, hbs, rfl⟩
            · have hbs : Hid (So.best L (j + 1) = (b, m)) := Lib.hid (by simp only [So.best]; rw [hbest.out, if_neg (by rw [← hSe.out]; simp only; omega)])
              go_wp2_with fail
              go_roundg (7 - j)
              case measure => omega
              case rel => exact ⟨j + 1, by omega, by go_num, b, m, rfl, rfl, hbs, rfl⟩
    · obtain rfl : j = 8 := by omega
      have hbk : Hid (So.bestK L = b) := Lib.hid (by unfold So.bestK; rw [hbest.out])
      go_wp2_with fail
      go_ret
      exact ⟨by rw [hbk.out]; rfl, rfl⟩

end Go.Proofs.YtnccebfapihpjaaGreatDoor
