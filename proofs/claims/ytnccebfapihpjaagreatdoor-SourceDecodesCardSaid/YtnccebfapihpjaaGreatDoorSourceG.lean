/- Contracts of source.guess and kinref15.guess: a sample foretold from those ahead. -/
import Derived.Test.YtnccebfapihpjaaGreatDoorPlane
import Derived.BigQuiet
namespace Go.Proofs.YtnccebfapihpjaaGreatDoor
open Go Go.RowKit Go.Extern.Stop Go.Stop Go.Extern

theorem getD_at {L : List Int} {i : Nat} (h : i < L.length) : L.getD i 0 = L[i] := by rw [List.getD_eq_getElem?_getD, List.getElem?_eq_getElem h]; rfl

theorem guess_zero (L : List Int) (w : Nat) : So.guess L w 0 = 128 := by unfold So.guess; rw [if_pos rfl]
theorem guess_row {L : List Int} {w i : Nat} (h0 : 0 < i) (h1 : i < w) : So.guess L w i = L.getD (i - 1) 0 := by
  unfold So.guess; rw [if_neg (by omega), if_pos h1]
theorem guess_col {L : List Int} {w y : Nat} (hw : 1 ≤ w) (hy : 0 < y) : So.guess L w (y * w) = L.getD (y * w - w) 0 := by
  have h1 : w ≤ y * w := Nat.le_mul_of_pos_left w hy
  unfold So.guess; rw [if_neg (by omega), if_neg (by omega), if_pos (Nat.mul_mod_left y w)]
theorem guess_mid {L : List Int} {w y x : Nat} (hy : 0 < y) (hx0 : 0 < x) (hx : x < w) :
    So.guess L w (y * w + x) = So.clip (L.getD (y * w + x - 1) 0 + L.getD (y * w + x - w) 0 - L.getD (y * w + x - w - 1) 0) := by
  have h1 : w ≤ y * w := Nat.le_mul_of_pos_left w hy
  have h2 : (y * w + x) % w = x := by rw [Nat.mul_comm, Nat.mul_add_mod, Nat.mod_eq_of_lt hx]
  unfold So.guess; rw [if_neg (by omega), if_neg (by omega), if_neg (by omega)]

set_option maxRecDepth 100000 in
set_option maxHeartbeats 1000000 in
theorem guess_any {L : List Int} {A : Option Addr} {c w x y : Nat} (hw : 1 ≤ w) (hx : x < w) (hi : y * w + x ≤ L.length) (hL : L.length ≤ 1000000) (hb : ∀ v ∈ L, 0 ≤ v ∧ v ≤ 255) (hwb : w ≤ 1000000) (hyb : y ≤ 1000000) (W : World) (ha : RdI .i64 W A L) :
    Calls Tryz.prog 52 #[.slice A L.length c, .int .i64 w, .int .i64 x, .int .i64 y] W fun e w' => e = .returned (.int .i64 (So.guess L w (y * w + x))) ∧ ∃ n, w' = W.drewN n := by
  obtain ⟨P, hP⟩ : ∃ P : Nat, y * w = P := ⟨_, rfl⟩
  have hPi : (y : Int) * (w : Int) = (P : Int) := by rw [← hP]; simp
  rw [hP] at hi
  have HA := Lib.hid ha
  clear ha
  rcases Nat.eq_zero_or_pos y with hy | hy
  · have hP0 : P = 0 := by rw [← hP, hy]; simp
    have hg0 : So.guess L w (y * w + x) = So.guess L w x := by rw [hP, hP0]; simp
    rw [hg0]
    subst hP0
    subst hy
    clear hP hg0 hPi
    rcases Nat.eq_zero_or_pos x with hx0 | hx0
    · subst hx0
      have hg := Lib.hid (guess_zero L w)
      go_enter Tryz.func52, Tryz.ntmps52
      go_wp2_with fail
      go_ret
      exact ⟨by rw [hg.out]; rfl, 0, rfl⟩
    · have hg := Lib.hid ((guess_row (L := L) hx0 hx).trans (getD_at (by omega)))
      obtain ⟨b2, o2, rfl, k2⟩ := HA.out.at_ (i := x - 1) (by omega)
      have e1 : ((x : Int) - 1).toNat = x - 1 := by omega
      have hx1 : ¬ (x : Int) = 0 := by omega
      have hx2 : ((x : Int) == 0) = false := by simpa using hx1
      go_enter Tryz.func52, Tryz.ntmps52
      go_wp2_with fail
      go_ret
      exact ⟨by rw [hg.out]; rfl, 0, rfl⟩
  · have hwP : w ≤ P := by rw [← hP]; exact Nat.le_mul_of_pos_left w hy
    have hy1 : ((y : Int) == 0) = false := by have : ¬ (y : Int) = 0 := by omega
                                              simpa using this
    have hPw : IntKind.i64.wrap ((y : Int) * (w : Int)) = P := by rw [hPi]; exact IntWalk.i64_in _ (by omega)
    rcases Nat.eq_zero_or_pos x with hx0 | hx0
    · have hlt : P - w < L.length := by omega
      have hg0 : So.guess L w (y * w + x) = L[P - w] := by
        have e0 : y * w + x = y * w := by omega
        exact (congrArg (So.guess L w) e0).trans ((guess_col hw hy).trans ((congrArg (fun k => L.getD (k - w) 0) hP).trans (getD_at hlt)))
      have hg := Lib.hid hg0
      clear hg0
      subst hx0
      obtain ⟨b2, o2, rfl, k2⟩ := HA.out.at_ (i := P - w) (by omega)
      have e1 : ((P : Int) - (w : Int)).toNat = P - w := by omega
      have h01 : (((P : Int) + 0) == 0) = false := by have : ¬ ((P : Int) + 0) = 0 := by omega
                                                      simpa using this
      have h02 : ((P : Int) == 0) = false := by have : ¬ (P : Int) = 0 := by omega
                                                simpa using this
      have HPP := Lib.hid hP
      clear hP
      go_enter Tryz.func52, Tryz.ntmps52
      go_wp2_with fail
      go_ret
      exact ⟨by rw [hg.out]; rfl, 0, rfl⟩
    · have hg := Lib.hid ((guess_mid (L := L) hy hx0 hx).trans (by rw [hP, getD_at (i := P + x - 1) (by omega), getD_at (i := P + x - w) (by omega), getD_at (i := P + x - w - 1) (by omega)]))
      obtain ⟨b2, o2, rfl, k1⟩ := HA.out.at_ (i := P + x - 1) (by omega)
      obtain ⟨b3, o3, hA3, k2⟩ := HA.out.at_ (i := P + x - w) (by omega)
      obtain ⟨b4, o4, hA4, k3⟩ := HA.out.at_ (i := P + x - w - 1) (by omega)
      obtain ⟨rfl, rfl⟩ : b2 = b3 ∧ o2 = o3 := by injection hA3 with h; injection h with h1 h2; exact ⟨h1, h2⟩
      obtain ⟨rfl, rfl⟩ : b2 = b4 ∧ o2 = o4 := by injection hA4 with h; injection h with h1 h2; exact ⟨h1, h2⟩
      have hba := hb _ (List.getElem_mem (show P + x - 1 < L.length by omega))
      have hbb := hb _ (List.getElem_mem (show P + x - w < L.length by omega))
      have hbc := hb _ (List.getElem_mem (show P + x - w - 1 < L.length by omega))
      obtain ⟨a, ha'⟩ : ∃ a, L[P + x - 1] = a := ⟨_, rfl⟩
      obtain ⟨b, hb'⟩ : ∃ b, L[P + x - w] = b := ⟨_, rfl⟩
      obtain ⟨c', hc'⟩ : ∃ c', L[P + x - w - 1] = c' := ⟨_, rfl⟩
      rw [ha', hb', hc'] at hg
      rw [ha'] at hba k1
      rw [hb'] at hbb k2
      rw [hc'] at hbc k3
      have e1 : ((P : Int) + (x : Int) - 1).toNat = P + x - 1 := by omega
      have e2 : ((P : Int) + (x : Int) - (w : Int)).toNat = P + x - w := by omega
      have e3 : ((P : Int) + (x : Int) - (w : Int) - 1).toNat = P + x - w - 1 := by omega
      have w1 : IntKind.i64.wrap ((P : Int) + (x : Int) - 1) = (P : Int) + (x : Int) - 1 := IntWalk.i64_in _ (by omega)
      have w2 : IntKind.i64.wrap ((P : Int) + (x : Int) - (w : Int)) = (P : Int) + (x : Int) - (w : Int) := IntWalk.i64_in _ (by omega)
      have w3 : IntKind.i64.wrap ((P : Int) + (x : Int) - (w : Int) - 1) = (P : Int) + (x : Int) - (w : Int) - 1 := IntWalk.i64_in _ (by omega)
      have w4 : IntKind.i64.wrap (a + b) = a + b := IntWalk.i64_in _ (by omega)
      have w5 : IntKind.i64.wrap (a + b - c') = a + b - c' := IntWalk.i64_in _ (by omega)
      have h01 : (((P : Int) + (x : Int)) == 0) = false := by have : ¬ ((P : Int) + (x : Int)) = 0 := by omega
                                                              simpa using this
      have h02 : ((x : Int) == 0) = false := by have : ¬ (x : Int) = 0 := by omega
                                                simpa using this
      have cC : ∀ n, Calls Tryz.prog 67 #[.int .i64 (a + b - c')] (W.drewN n) fun e w' => e = .returned (.int .i64 (So.clip (a + b - c'))) ∧ ∃ m, w' = W.drewN m := fun n => (clip_any _ _).mono fun _ _ ⟨he, hw⟩ => ⟨he, n, hw.symm⟩
      have CC := Lib.hid cC
      clear hP hA3 hA4 cC ha' hb' hc'
      go_enter Tryz.func52, Tryz.ntmps52
      go_wp2_with fail
      go_quiet (exact CC.out _)
      go_wp2_with fail
      go_ret
      exact ⟨by rw [hg.out]; rfl, nq, rfl⟩

set_option maxRecDepth 100000 in
set_option maxHeartbeats 1000000 in
theorem rguess_any {L : List Int} {A : Option Addr} {c w x y : Nat} (hw : 1 ≤ w) (hx : x < w) (hi : y * w + x ≤ L.length) (hL : L.length ≤ 1000000) (hb : ∀ v ∈ L, 0 ≤ v ∧ v ≤ 255) (hwb : w ≤ 1000000) (hyb : y ≤ 1000000) (W : World) (ha : RdI .i64 W A L) :
    Calls Tryz.prog 60 #[.slice A L.length c, .int .i64 w, .int .i64 x, .int .i64 y] W fun e w' => e = .returned (.int .i64 (So.guess L w (y * w + x))) ∧ ∃ n, w' = W.drewN n := by
  obtain ⟨P, hP⟩ : ∃ P : Nat, y * w = P := ⟨_, rfl⟩
  have hPi : (y : Int) * (w : Int) = (P : Int) := by rw [← hP]; simp
  rw [hP] at hi
  have HA := Lib.hid ha
  clear ha
  rcases Nat.eq_zero_or_pos y with hy | hy
  · have hP0 : P = 0 := by rw [← hP, hy]; simp
    have hg0 : So.guess L w (y * w + x) = So.guess L w x := by rw [hP, hP0]; simp
    rw [hg0]
    subst hP0
    subst hy
    clear hP hg0 hPi
    rcases Nat.eq_zero_or_pos x with hx0 | hx0
    · subst hx0
      have hg := Lib.hid (guess_zero L w)
      go_enter Tryz.func60, Tryz.ntmps60
      go_wp2_with fail
      go_ret
      exact ⟨by rw [hg.out]; rfl, 0, rfl⟩
    · have hg := Lib.hid ((guess_row (L := L) hx0 hx).trans (getD_at (by omega)))
      obtain ⟨b2, o2, rfl, k2⟩ := HA.out.at_ (i := x - 1) (by omega)
      have e1 : ((x : Int) - 1).toNat = x - 1 := by omega
      have hx1 : ¬ (x : Int) = 0 := by omega
      have hx2 : ((x : Int) == 0) = false := by simpa using hx1
      go_enter Tryz.func60, Tryz.ntmps60
      go_wp2_with fail
      go_ret
      exact ⟨by rw [hg.out]; rfl, 0, rfl⟩
  · have hwP : w ≤ P := by rw [← hP]; exact Nat.le_mul_of_pos_left w hy
    have hy1 : ((y : Int) == 0) = false := by have : ¬ (y : Int) = 0 := by omega
                                              simpa using this
    have hPw : IntKind.i64.wrap ((y : Int) * (w : Int)) = P := by rw [hPi]; exact IntWalk.i64_in _ (by omega)
    rcases Nat.eq_zero_or_pos x with hx0 | hx0
    · have hlt : P - w < L.length := by omega
      have hg0 : So.guess L w (y * w + x) = L[P - w] := by
        have e0 : y * w + x = y * w := by omega
        exact (congrArg (So.guess L w) e0).trans ((guess_col hw hy).trans ((congrArg (fun k => L.getD (k - w) 0) hP).trans (getD_at hlt)))
      have hg := Lib.hid hg0
      clear hg0
      subst hx0
      obtain ⟨b2, o2, rfl, k2⟩ := HA.out.at_ (i := P - w) (by omega)
      have e1 : ((P : Int) - (w : Int)).toNat = P - w := by omega
      have hm : ((y : Int) - 1) * (w : Int) = (P : Int) - w := by rw [Int.sub_mul, hPi]; omega
      have hmw : IntKind.i64.wrap (((y : Int) - 1) * (w : Int)) = (P : Int) - w := by rw [hm]; exact IntWalk.i64_in _ (by omega)
      have h01 : (((P : Int) + 0) == 0) = false := by have : ¬ ((P : Int) + 0) = 0 := by omega
                                                      simpa using this
      have h02 : ((P : Int) == 0) = false := by have : ¬ (P : Int) = 0 := by omega
                                                simpa using this
      have HPP := Lib.hid hP
      clear hP
      go_enter Tryz.func60, Tryz.ntmps60
      go_wp2_with fail
      go_ret
      exact ⟨by rw [hg.out]; rfl, 0, rfl⟩
    · have hg := Lib.hid ((guess_mid (L := L) hy hx0 hx).trans (by rw [hP, getD_at (i := P + x - 1) (by omega), getD_at (i := P + x - w) (by omega), getD_at (i := P + x - w - 1) (by omega)]))
      obtain ⟨b2, o2, rfl, k1⟩ := HA.out.at_ (i := P + x - 1) (by omega)
      obtain ⟨b3, o3, hA3, k2⟩ := HA.out.at_ (i := P + x - w) (by omega)
      obtain ⟨b4, o4, hA4, k3⟩ := HA.out.at_ (i := P + x - w - 1) (by omega)
      obtain ⟨rfl, rfl⟩ : b2 = b3 ∧ o2 = o3 := by injection hA3 with h; injection h with h1 h2; exact ⟨h1, h2⟩
      obtain ⟨rfl, rfl⟩ : b2 = b4 ∧ o2 = o4 := by injection hA4 with h; injection h with h1 h2; exact ⟨h1, h2⟩
      have hba := hb _ (List.getElem_mem (show P + x - 1 < L.length by omega))
      have hbb := hb _ (List.getElem_mem (show P + x - w < L.length by omega))
      have hbc := hb _ (List.getElem_mem (show P + x - w - 1 < L.length by omega))
      obtain ⟨a, ha'⟩ : ∃ a, L[P + x - 1] = a := ⟨_, rfl⟩
      obtain ⟨b, hb'⟩ : ∃ b, L[P + x - w] = b := ⟨_, rfl⟩
      obtain ⟨c', hc'⟩ : ∃ c', L[P + x - w - 1] = c' := ⟨_, rfl⟩
      rw [ha', hb', hc'] at hg
      rw [ha'] at hba k1
      rw [hb'] at hbb k2
      rw [hc'] at hbc k3
      have e1 : ((P : Int) + (x : Int) - 1).toNat = P + x - 1 := by omega
      have e2 : ((P : Int) + (x : Int) - (w : Int)).toNat = P + x - w := by omega
      have e3 : ((P : Int) + (x : Int) - (w : Int) - 1).toNat = P + x - w - 1 := by omega
      have w1 : IntKind.i64.wrap ((P : Int) + (x : Int) - 1) = (P : Int) + (x : Int) - 1 := IntWalk.i64_in _ (by omega)
      have w2 : IntKind.i64.wrap ((P : Int) + (x : Int) - (w : Int)) = (P : Int) + (x : Int) - (w : Int) := IntWalk.i64_in _ (by omega)
      have w3 : IntKind.i64.wrap ((P : Int) + (x : Int) - (w : Int) - 1) = (P : Int) + (x : Int) - (w : Int) - 1 := IntWalk.i64_in _ (by omega)
      have w4 : IntKind.i64.wrap (a + b) = a + b := IntWalk.i64_in _ (by omega)
      have w5 : IntKind.i64.wrap (a + b - c') = a + b - c' := IntWalk.i64_in _ (by omega)
      have h01 : (((P : Int) + (x : Int)) == 0) = false := by have : ¬ ((P : Int) + (x : Int)) = 0 := by omega
                                                              simpa using this
      have h02 : ((x : Int) == 0) = false := by have : ¬ (x : Int) = 0 := by omega
                                                simpa using this
      have cC : ∀ n, Calls Tryz.prog 74 #[.int .i64 (a + b - c')] (W.drewN n) fun e w' => e = .returned (.int .i64 (So.clip (a + b - c'))) ∧ ∃ m, w' = W.drewN m := fun n => (rclip_any _ _).mono fun _ _ ⟨he, hw⟩ => ⟨he, n, hw.symm⟩
      have CC := Lib.hid cC
      clear hP hA3 hA4 cC ha' hb' hc'
      go_enter Tryz.func60, Tryz.ntmps60
      go_wp2_with fail
      go_quiet (exact CC.out _)
      go_wp2_with fail
      go_ret
      exact ⟨by rw [hg.out]; rfl, nq, rfl⟩

end Go.Proofs.YtnccebfapihpjaaGreatDoor
