/- Contracts of package codes: Rice codes read. -/
import Derived.Test.YtnccebfapihpjaaGreatDoorCodesR
namespace Go.Proofs.YtnccebfapihpjaaGreatDoor
open Go Go.RowKit Go.Extern.Stop Go.Stop Go.Extern

theorem getRice_ok {b : List Int} {T p k q : Nat} {most : Int} (h : Co.ones b T p 24 0 = .ok q) : Co.getRice b T p k most = Co.riceRest b T k most q (Co.onesEnd p q) := by
  unfold Co.getRice; rw [h]
theorem getRice_short {b : List Int} {T p k e : Nat} {most : Int} (h : Co.ones b T p 24 0 = .error (.short e)) : Co.getRice b T p k most = (.short e, e) := by
  unfold Co.getRice; rw [h]
theorem rest24 {b : List Int} {T p k : Nat} {most : Int} : Co.riceRest b T k most 24 (Co.onesEnd p 24) = if T < p + 24 + 31 then (.short (p + 24), p + 24) else if Bi.num b (p + 24) 31 > most ∨ Bi.num b (p + 24) 31 > 1073741824 ∨ Bi.num b (p + 24) 31 / 2 ^ k < 24 then (.range (p + 24 + 31), p + 24 + 31) else (.num (Bi.num b (p + 24) 31), p + 24 + 31) := by
  simp [Co.riceRest, Co.onesEnd]
theorem restlt {b : List Int} {T p k q : Nat} {most : Int} (h : q < 24) : Co.riceRest b T k most q (Co.onesEnd p q) = if T < p + q + 1 + k then (.short (p + q + 1), p + q + 1) else if Bi.num b (p + q + 1) k + q * 2 ^ k > most ∨ Bi.num b (p + q + 1) k + q * 2 ^ k > 1073741824 then (.range (p + q + 1 + k), p + q + 1 + k) else (.num (Bi.num b (p + q + 1) k + q * 2 ^ k), p + q + 1 + k) := by
  have h1 : q ≠ 24 := by omega
  simp [Co.riceRest, Co.onesEnd, h, h1]
theorem ones_bd {b : List Int} {T p m : Nat} {k q : Nat} (h : Co.ones b T p k q = .ok m) : m ≤ q + k := (Co.ones_ok.1 h).2.1
set_option maxHeartbeats 1000000 in
theorem GetRice_no {k : Int} {p : Value} (most : Int) (w : World) (h : ¬ (0 ≤ k ∧ k ≤ 15)) :
    Calls Tryz.prog 65 #[p, .int .i64 k, .int .i64 most] w fun e w' => e = .returned (.tuple #[.int .i64 0, .iface 31 (.int .i64 3)]) ∧ w = w' := by
  by_cases h0 : k < 0
  · clear h
    go_enter Tryz.func65, Tryz.ntmps65
    go_wp2_with fail
    go_ret2
    exact ⟨rfl, rfl⟩
  · have h1 : 15 < k := by omega
    clear h
    go_enter Tryz.func65, Tryz.ntmps65
    go_wp2_with fail
    go_ret2
    exact ⟨rfl, rfl⟩

set_option maxRecDepth 100000 in
set_option maxHeartbeats 4000000 in
theorem GetRice_any {lo hi g : Nat} {b : List Int} {p k : Nat} (most : Int) (hk : k ≤ 15) (hb : b.length ≤ 1000000000) (w : World) (h : RdrT 110 lo hi w g b p) :
    Calls Tryz.prog 65 #[.pointer (some ⟨g, 0, none⟩), .int .i64 k, .int .i64 most] w (GOut lo hi w g b (Co.getRice b (8 * b.length) p k most)) := by
  have H := Lib.hid h
  clear h
  have hk0 : 0 ≤ (k : Int) := by omega
  have hk1 : (k : Int) ≤ 15 := by omega
  obtain ⟨hp0, hp1⟩ := pow_bd (n := k) (by omega)
  have hp2 : (2 : Int) ^ k ≤ 32768 := by
    have : (2 : Int) ^ k ≤ 2 ^ 15 := Co.pow_mono hk
    have e : (2 : Int) ^ 15 = 32768 := by decide
    omega
  obtain ⟨R, hR⟩ : ∃ R, Co.getRice b (8 * b.length) p k most = R := ⟨_, rfl⟩
  rw [hR]
  have HR := Lib.hid hR
  clear hR
  unfold GOut
  go_enter Tryz.func65, Tryz.ntmps65
  go_wp2_with fail
  go_loopg [8] 24 (fun m vn wr => ∃ n : Nat, n + m = 24 ∧ vn = .int .i64 n ∧ Hid (Co.ones b (8 * b.length) p m n = Co.ones b (8 * b.length) p 24 0) ∧ ROut 110 lo hi w g b (p + n) wr)
  case atStart => exact ⟨0, by omega, rfl, rfl, H.out, Chg.refl _ _⟩
  case round =>
    obtain ⟨n, hn, rfl, HZ, hout⟩ := hrel
    have HO := Lib.hid hout
    clear hout
    cases gk with
    | zero =>
      obtain rfl : n = 24 := by omega
      have hz := HZ.out
      simp only [Co.ones] at hz
      have hr := HR.out
      rw [getRice_ok hz.symm] at hr
      rw [rest24] at hr
      clear hz HR HZ
      go_wp2_with fail
      rcases (show 8 * b.length < p + 24 + 31 ∨ p + 24 + 31 ≤ 8 * b.length by omega) with hs | hs
      · have hr' := hr
        rw [if_pos hs] at hr'
        subst hr'
        refine (Get_short (n := 31) hb (by omega) hs _ HO.out.1).mono ?_
        rintro e w2 ⟨v, rfl, he2, hb2⟩
        obtain ⟨T, y, rfl⟩ := he2.iface
        have HE2 := Lib.hid he2
        have HB2 := Lib.hid hb2
        clear he2 hb2
        go_wp2_with fail
        go_ret2
        exact ⟨_, rfl, .inr ⟨by simp [gotC], HE2.out⟩, HO.out.1.keep HB2.out, HO.out.2.trans (Chg.of_below HB2.out)⟩
      · have hr' := hr
        rw [if_neg (by omega)] at hr'
        have hnb := Bi.num_bd b (p + 24) 31
        refine (Get_ok (n := 31) hb (by omega) hs _ HO.out.1).mono ?_
        obtain ⟨N, hN⟩ : ∃ N, Bi.num b (p + 24) 31 = N := ⟨_, rfl⟩
        rw [hN] at hnb hr' ⊢
        have HRN := Lib.hid hr'
        clear hN hr'
        rintro e w2 ⟨rfl, ho2⟩
        have HO2 : Hid (ROut 110 lo hi w g b (p + 24 + 31) w2) := ⟨ho2.1, HO.out.2.trans ho2.2⟩
        clear ho2
        have hd0 : 0 ≤ N / 2 ^ k := Int.ediv_nonneg hnb.1 (by omega)
        by_cases h3 : N / 2 ^ k < 24
        · have hr2 := HRN.out
          rw [if_pos (.inr (.inr h3))] at hr2
          subst hr2
          go_wp2_with fail
          refine (refuse_any _ HO2.out.1).mono ?_
          rintro e w3 ⟨v2, rfl, he2, hb2⟩
          have HE2 := Lib.hid he2
          have HB2 := Lib.hid hb2
          clear he2 hb2
          go_wp2_with fail
          go_ret2
          exact ⟨_, rfl, .inr ⟨by simp [gotC], HE2.out⟩, HO2.out.1.keep HB2.out, HO2.out.2.trans (Chg.of_below HB2.out)⟩
        · by_cases h1 : N > most
          · have hr2 := HRN.out
            rw [if_pos (.inl h1)] at hr2
            subst hr2
            go_wp2_with fail
            refine (refuse_any _ HO2.out.1).mono ?_
            rintro e w3 ⟨v2, rfl, he2, hb2⟩
            have HE2 := Lib.hid he2
            have HB2 := Lib.hid hb2
            clear he2 hb2
            go_wp2_with fail
            go_ret2
            exact ⟨_, rfl, .inr ⟨by simp [gotC], HE2.out⟩, HO2.out.1.keep HB2.out, HO2.out.2.trans (Chg.of_below HB2.out)⟩
          · by_cases h2 : N > 1073741824
            · have hr2 := HRN.out
              rw [if_pos (.inr (.inl h2))] at hr2
              subst hr2
              go_wp2_with fail
              refine (refuse_any _ HO2.out.1).mono ?_
              rintro e w3 ⟨v2, rfl, he2, hb2⟩
              have HE2 := Lib.hid he2
              have HB2 := Lib.hid hb2
              clear he2 hb2
              go_wp2_with fail
              go_ret2
              exact ⟨_, rfl, .inr ⟨by simp [gotC], HE2.out⟩, HO2.out.1.keep HB2.out, HO2.out.2.trans (Chg.of_below HB2.out)⟩
            · have hr2 := HRN.out
              rw [if_neg (fun h => by rcases h with h | h | h <;> omega)] at hr2
              subst hr2
              go_wp2_with fail
              go_ret2
              exact ⟨_, rfl, .inl ⟨rfl, rfl, rfl⟩, HO2.out⟩
    | succ m =>
      rcases (show 8 * b.length ≤ p + n ∨ (p + n < 8 * b.length) by omega) with hT | hT
      · have hz := HZ.out
        simp only [Co.ones] at hz
        rw [if_pos hT] at hz
        have hr := HR.out
        rw [getRice_short hz.symm] at hr
        subst hr
        clear hz HR HZ
        go_wp2_with fail
        refine (Flag_short hb (by omega) _ HO.out.1).mono ?_
        rintro e w1 ⟨v, rfl, he1, hb1⟩
        obtain ⟨T, y, rfl⟩ := he1.iface
        have HE1 := Lib.hid he1
        have HB1 := Lib.hid hb1
        clear he1 hb1
        go_wp2_with fail
        go_ret2
        refine ⟨_, rfl, .inr ⟨by simp [gotC], HE1.out⟩, HO.out.1.keep HB1.out, HO.out.2.trans (Chg.of_below HB1.out)⟩
      · have HF := Lib.hid (Flag_ok hb (by omega) _ HO.out.1)
        have hbb := Bi.bit_bd b (p + n)
        obtain ⟨x, hx⟩ : ∃ x, Bi.bit b (p + n) = x := ⟨_, rfl⟩
        rw [hx] at HF hbb
        have hz := HZ.out
        simp only [Co.ones] at hz
        rw [if_neg (by omega), hx] at hz
        clear hx HZ
        rcases (show x = 1 ∨ x = 0 by omega) with rfl | rfl
        · rw [if_neg (by omega)] at hz
          have HZ := Lib.hid hz
          clear hz hbb
          go_wp2_with fail
          refine HF.out.mono ?_
          rintro e w1 ⟨rfl, ho1⟩
          have HO1 := Lib.hid ho1
          clear ho1
          go_wp2_with fail
          go_roundg m
          case measure => omega
          case rel => exact ⟨n + 1, by omega, by go_num, HZ.out, HO1.out.1, HO.out.2.trans HO1.out.2⟩
        · rw [if_pos rfl] at hz
          have hn24 : n < 24 := by omega
          have hr := HR.out
          rw [getRice_ok hz.symm] at hr
          rw [restlt hn24] at hr
          have HRR := Lib.hid hr
          clear hbb hr hz HR
          go_wp2_with fail
          refine HF.out.mono ?_
          rintro e w1 ⟨rfl, ho1⟩
          have HO1 : Hid (ROut 110 lo hi w g b (p + n + 1) w1) := ⟨ho1.1, HO.out.2.trans ho1.2⟩
          clear ho1 HO
          have hnk : (0 : Int) ≤ n * 2 ^ k ∧ (n : Int) * 2 ^ k ≤ 24 * 32768 := by
            refine ⟨Int.mul_nonneg (by omega) (by omega), ?_⟩
            have h1 : (n : Int) * 2 ^ k ≤ 24 * 2 ^ k := Int.mul_le_mul_of_nonneg_right (by omega) (by omega)
            omega
          go_wp2_with fail
          rcases (show 8 * b.length < p + n + 1 + k ∨ p + n + 1 + k ≤ 8 * b.length by omega) with hs | hs
          · have hr' := HRR.out
            rw [if_pos hs] at hr'
            subst hr'
            refine (Get_short (n := k) hb (by omega) hs _ HO1.out.1).mono ?_
            rintro e w2 ⟨v, rfl, he2, hb2⟩
            obtain ⟨T, y, rfl⟩ := he2.iface
            have HE2 := Lib.hid he2
            have HB2 := Lib.hid hb2
            clear he2 hb2
            go_wp2_with fail
            go_ret2
            exact ⟨_, rfl, .inr ⟨by simp [gotC], HE2.out⟩, HO1.out.1.keep HB2.out, HO1.out.2.trans (Chg.of_below HB2.out)⟩
          · have hr' := HRR.out
            rw [if_neg (by omega)] at hr'
            have hnb := Bi.num_bd b (p + n + 1) k
            refine (Get_ok (n := k) hb (by omega) hs _ HO1.out.1).mono ?_
            obtain ⟨N, hN⟩ : ∃ N, Bi.num b (p + n + 1) k = N := ⟨_, rfl⟩
            rw [hN] at hnb hr' ⊢
            have HRN := Lib.hid hr'
            clear hN hr'
            rintro e w2 ⟨rfl, ho2⟩
            have HO2 : Hid (ROut 110 lo hi w g b (p + n + 1 + k) w2) := ⟨ho2.1, HO1.out.2.trans ho2.2⟩
            clear ho2
            obtain ⟨V, hV⟩ : ∃ V, N + (n : Int) * 2 ^ k = V := ⟨_, rfl⟩
            obtain ⟨M, hM⟩ : ∃ M, (n : Int) * 2 ^ k = M := ⟨_, rfl⟩
            rw [hM] at hV hnk HRN
            have hV' : V = N + M := hV.symm
            subst hV'
            clear hV
            by_cases h1 : N + M > most
            · have hr2 := HRN.out
              rw [if_pos (.inl h1)] at hr2
              subst hr2
              go_wp2_with fail
              refine (refuse_any _ HO2.out.1).mono ?_
              rintro e w3 ⟨v2, rfl, he2, hb2⟩
              have HE2 := Lib.hid he2
              have HB2 := Lib.hid hb2
              clear he2 hb2
              go_wp2_with fail
              go_ret2
              exact ⟨_, rfl, .inr ⟨by simp [gotC], HE2.out⟩, HO2.out.1.keep HB2.out, HO2.out.2.trans (Chg.of_below HB2.out)⟩
            · by_cases h2 : N + M > 1073741824
              · have hr2 := HRN.out
                rw [if_pos (.inr h2)] at hr2
                subst hr2
                go_wp2_with fail
                refine (refuse_any _ HO2.out.1).mono ?_
                rintro e w3 ⟨v2, rfl, he2, hb2⟩
                have HE2 := Lib.hid he2
                have HB2 := Lib.hid hb2
                clear he2 hb2
                go_wp2_with fail
                go_ret2
                exact ⟨_, rfl, .inr ⟨by simp [gotC], HE2.out⟩, HO2.out.1.keep HB2.out, HO2.out.2.trans (Chg.of_below HB2.out)⟩
              · have hr2 := HRN.out
                rw [if_neg (fun h => by rcases h with h | h <;> omega)] at hr2
                subst hr2
                go_wp2_with fail
                go_ret2
                exact ⟨_, rfl, .inl ⟨rfl, rfl, rfl⟩, HO2.out⟩

end Go.Proofs.YtnccebfapihpjaaGreatDoor
