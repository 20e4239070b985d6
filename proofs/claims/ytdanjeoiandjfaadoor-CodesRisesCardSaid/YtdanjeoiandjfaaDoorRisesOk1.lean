/- The walk of kinlaw3.CodesRises: cases of it. -/
import Derived.Test.YtdanjeoiandjfaaDoorRisesL
namespace Go.Proofs.YtdanjeoiandjfaaDoor
open Go Go.RowKit Go.Extern.Stop Go.Stop Go.Extern

section
variable {a b k : Int} (ha : -9223372036854775808 ≤ a ∧ a ≤ 9223372036854775807) (hb : -9223372036854775808 ≤ b ∧ b ≤ 9223372036854775807) (hk : -9223372036854775808 ≤ k ∧ k ≤ 9223372036854775807) (w : World)

include ha hb hk in
set_option maxRecDepth 100000 in
set_option maxHeartbeats 2000000 in
theorem Rises_ok_neg_neg (a0 : 0 ≤ a) (a1 : a ≤ 1073741824) (b0 : b < 0) (k0 : k < 0) (hg : Gl w) : Calls Tryd.prog 5 #[.int .i64 a, .int .i64 b, .int .i64 k] w fun e w' => e = .returned (.bool true) ∧ Below w.heap.size w w' := by
  have HG := Lib.hid hg
  clear hg
  have Ma : Co.ueMay a = true := decide_eq_true (by omega)
  have Mb : Co.ueMay b = false := decide_eq_false (by omega)
  have Ra : Co.riceMay a k = false := decide_eq_false (by omega)
  have Rb : Co.riceMay b k = false := decide_eq_false (by omega)
  have xb := ue_pos Ma
  have yb := ue_zero Mb
  have pb := rice_zero Ra
  have qb := rice_zero Rb
  have la := Co.ueBits_length Ma
  obtain ⟨x, hx⟩ : ∃ x, Co.sizeUe a = x := ⟨_, rfl⟩
  rw [hx] at xb la
  have Hx := Lib.hid hx
  clear hx
  obtain ⟨y, hy⟩ : ∃ y, Co.sizeUe b = y := ⟨_, rfl⟩
  rw [hy] at yb
  have Hy := Lib.hid hy
  clear hy
  obtain ⟨p, hp⟩ : ∃ p, Co.sizeRice a k = p := ⟨_, rfl⟩
  rw [hp] at pb
  have Hp := Lib.hid hp
  clear hp
  obtain ⟨q, hq⟩ : ∃ q, Co.sizeRice b k = q := ⟨_, rfl⟩
  rw [hq] at qb
  have Hq := Lib.hid hq
  clear hq
  subst yb
  subst pb
  subst qb
  have HLA := Lib.hid la
  clear la
  have HMa := Lib.hid Ma
  have HRb := Lib.hid Rb
  clear Ma Mb Ra Rb
  go_enter Tryd.func5, Tryd.ntmps5
  go_wp2_with fail
  refine (first_true _ HG.out).mono ?_
  rintro e w1 ⟨rfl, hb1⟩
  go_wp2_with fail
  refine (SizeUe_any a ha _).mono ?_
  rintro e w' ⟨rfl, rfl⟩
  rw [Hx.out]
  go_wp2_with fail
  refine (SizeUe_any b hb _).mono ?_
  rintro e w' ⟨rfl, rfl⟩
  rw [Hy.out]
  go_wp2_with fail
  refine (SizeRice_any a _ ha hk _).mono ?_
  rintro e w' ⟨rfl, rfl⟩
  rw [Hp.out]
  go_wp2_with fail
  refine (SizeRice_any b _ hb hk _).mono ?_
  rintro e w' ⟨rfl, rfl⟩
  rw [Hq.out]
  go_wp2_with fail
  refine (NewWriter_any _).mono ?_
  rintro e w3 ⟨rfl, hw3⟩
  have hwt : Wtr w3 w1.heap.size w1.heap.size (.slice none 0 0) [] := by rw [hw3]; exact Wtr.new _ _
  have hbB : Below w.heap.size w w3 := by rw [hw3]; exact hb1.alloc hb1.size _
  have hs1 := hb1.size
  have hl3 := hwt.1.lt
  obtain ⟨gw, hgw⟩ : ∃ gw, w1.heap.size = gw := ⟨_, rfl⟩
  rw [hgw] at hwt hl3 hs1
  rw [hgw]
  have HW := Lib.hid hwt
  clear hw3 hgw hwt
  go_wp2_with fail
  refine (PutUe_yes (l := []) (by simp) _ (by omega) HMa.out HW.out).mono ?_
  rintro e w4 ⟨rfl, ho4⟩
  have hbC := below_w hbB HW.out ho4 (by omega) (by omega)
  obtain ⟨v4, hw4, hc4, hv4⟩ := ho4
  rw [List.nil_append] at hw4
  obtain ⟨l, hl⟩ : ∃ l, Co.ueBits a = l := ⟨_, rfl⟩
  rw [hl] at hw4 HLA
  have HW4 := Lib.hid hw4
  have hs4 := hc4.size
  have hll : l.length ≤ 61 := by have := HLA.out; omega
  clear hw4 hc4 hv4 hl
  go_wp2_with fail
  refine (PutRice_no ⟨by omega, by omega⟩ ⟨by omega, by omega⟩ _ HRb.out).mono ?_
  rintro e w5 ⟨rfl, rfl⟩
  have hbD := hbC
  obtain ⟨m, hm⟩ : ∃ m, l = m := ⟨_, rfl⟩
  have HW5 := HW4
  rw [hm] at HW5
  have HLEN := Lib.hid (show (m.length : Int) = x + 0 by rw [← hm]; have := HLA.out; omega)
  clear hm
  go_wp2_with fail
  refine (first_true _ (HG.out.keep hbD)).mono ?_
  rintro e w6 ⟨rfl, hb6⟩
  have HW6 := Lib.hid (HW5.out.keep hb6)
  have hbE := hbD.trans (hb6.mono hbD.size)
  go_wp2_with fail
  refine (WLen_any _ HW6.out).mono ?_
  rintro e w' ⟨rfl, rfl⟩
  rw [HLEN.out]
  go_wp2_with fail
  all_goals (
    go_ret
    exact ⟨by first | rfl | (simp; omega), hbE⟩)

include ha hb hk in
set_option maxRecDepth 100000 in
set_option maxHeartbeats 2000000 in
theorem Rises_ok_neg_big (a0 : 0 ≤ a) (a1 : a ≤ 1073741824) (b0 : b < 0) (k0 : 0 ≤ k) (k1 : 15 < k) (hg : Gl w) : Calls Tryd.prog 5 #[.int .i64 a, .int .i64 b, .int .i64 k] w fun e w' => e = .returned (.bool true) ∧ Below w.heap.size w w' := by
  have HG := Lib.hid hg
  clear hg
  have Ma : Co.ueMay a = true := decide_eq_true (by omega)
  have Mb : Co.ueMay b = false := decide_eq_false (by omega)
  have Ra : Co.riceMay a k = false := decide_eq_false (by omega)
  have Rb : Co.riceMay b k = false := decide_eq_false (by omega)
  have xb := ue_pos Ma
  have yb := ue_zero Mb
  have pb := rice_zero Ra
  have qb := rice_zero Rb
  have la := Co.ueBits_length Ma
  obtain ⟨x, hx⟩ : ∃ x, Co.sizeUe a = x := ⟨_, rfl⟩
  rw [hx] at xb la
  have Hx := Lib.hid hx
  clear hx
  obtain ⟨y, hy⟩ : ∃ y, Co.sizeUe b = y := ⟨_, rfl⟩
  rw [hy] at yb
  have Hy := Lib.hid hy
  clear hy
  obtain ⟨p, hp⟩ : ∃ p, Co.sizeRice a k = p := ⟨_, rfl⟩
  rw [hp] at pb
  have Hp := Lib.hid hp
  clear hp
  obtain ⟨q, hq⟩ : ∃ q, Co.sizeRice b k = q := ⟨_, rfl⟩
  rw [hq] at qb
  have Hq := Lib.hid hq
  clear hq
  subst yb
  subst pb
  subst qb
  have HLA := Lib.hid la
  clear la
  have HMa := Lib.hid Ma
  have HRb := Lib.hid Rb
  clear Ma Mb Ra Rb
  go_enter Tryd.func5, Tryd.ntmps5
  go_wp2_with fail
  refine (first_true _ HG.out).mono ?_
  rintro e w1 ⟨rfl, hb1⟩
  go_wp2_with fail
  refine (SizeUe_any a ha _).mono ?_
  rintro e w' ⟨rfl, rfl⟩
  rw [Hx.out]
  go_wp2_with fail
  refine (SizeUe_any b hb _).mono ?_
  rintro e w' ⟨rfl, rfl⟩
  rw [Hy.out]
  go_wp2_with fail
  refine (SizeRice_any a _ ha hk _).mono ?_
  rintro e w' ⟨rfl, rfl⟩
  rw [Hp.out]
  go_wp2_with fail
  refine (SizeRice_any b _ hb hk _).mono ?_
  rintro e w' ⟨rfl, rfl⟩
  rw [Hq.out]
  go_wp2_with fail
  refine (NewWriter_any _).mono ?_
  rintro e w3 ⟨rfl, hw3⟩
  have hwt : Wtr w3 w1.heap.size w1.heap.size (.slice none 0 0) [] := by rw [hw3]; exact Wtr.new _ _
  have hbB : Below w.heap.size w w3 := by rw [hw3]; exact hb1.alloc hb1.size _
  have hs1 := hb1.size
  have hl3 := hwt.1.lt
  obtain ⟨gw, hgw⟩ : ∃ gw, w1.heap.size = gw := ⟨_, rfl⟩
  rw [hgw] at hwt hl3 hs1
  rw [hgw]
  have HW := Lib.hid hwt
  clear hw3 hgw hwt
  go_wp2_with fail
  refine (PutUe_yes (l := []) (by simp) _ (by omega) HMa.out HW.out).mono ?_
  rintro e w4 ⟨rfl, ho4⟩
  have hbC := below_w hbB HW.out ho4 (by omega) (by omega)
  obtain ⟨v4, hw4, hc4, hv4⟩ := ho4
  rw [List.nil_append] at hw4
  obtain ⟨l, hl⟩ : ∃ l, Co.ueBits a = l := ⟨_, rfl⟩
  rw [hl] at hw4 HLA
  have HW4 := Lib.hid hw4
  have hs4 := hc4.size
  have hll : l.length ≤ 61 := by have := HLA.out; omega
  clear hw4 hc4 hv4 hl
  go_wp2_with fail
  refine (PutRice_no ⟨by omega, by omega⟩ ⟨by omega, by omega⟩ _ HRb.out).mono ?_
  rintro e w5 ⟨rfl, rfl⟩
  have hbD := hbC
  obtain ⟨m, hm⟩ : ∃ m, l = m := ⟨_, rfl⟩
  have HW5 := HW4
  rw [hm] at HW5
  have HLEN := Lib.hid (show (m.length : Int) = x + 0 by rw [← hm]; have := HLA.out; omega)
  clear hm
  go_wp2_with fail
  refine (first_true _ (HG.out.keep hbD)).mono ?_
  rintro e w6 ⟨rfl, hb6⟩
  have HW6 := Lib.hid (HW5.out.keep hb6)
  have hbE := hbD.trans (hb6.mono hbD.size)
  go_wp2_with fail
  refine (WLen_any _ HW6.out).mono ?_
  rintro e w' ⟨rfl, rfl⟩
  rw [HLEN.out]
  go_wp2_with fail
  all_goals (
    go_ret
    exact ⟨by first | rfl | (simp; omega), hbE⟩)

include ha hb hk in
set_option maxRecDepth 100000 in
set_option maxHeartbeats 2000000 in
theorem Rises_ok_neg_ok (a0 : 0 ≤ a) (a1 : a ≤ 1073741824) (b0 : b < 0) (k0 : 0 ≤ k) (k1 : k ≤ 15) (hg : Gl w) : Calls Tryd.prog 5 #[.int .i64 a, .int .i64 b, .int .i64 k] w fun e w' => e = .returned (.bool true) ∧ Below w.heap.size w w' := by
  have HG := Lib.hid hg
  clear hg
  have Ma : Co.ueMay a = true := decide_eq_true (by omega)
  have Mb : Co.ueMay b = false := decide_eq_false (by omega)
  have Ra : Co.riceMay a k = true := decide_eq_true (by omega)
  have Rb : Co.riceMay b k = false := decide_eq_false (by omega)
  have xb := ue_pos Ma
  have yb := ue_zero Mb
  have pb := rice_pos Ra
  have qb := rice_zero Rb
  have la := Co.ueBits_length Ma
  obtain ⟨x, hx⟩ : ∃ x, Co.sizeUe a = x := ⟨_, rfl⟩
  rw [hx] at xb la
  have Hx := Lib.hid hx
  clear hx
  obtain ⟨y, hy⟩ : ∃ y, Co.sizeUe b = y := ⟨_, rfl⟩
  rw [hy] at yb
  have Hy := Lib.hid hy
  clear hy
  obtain ⟨p, hp⟩ : ∃ p, Co.sizeRice a k = p := ⟨_, rfl⟩
  rw [hp] at pb
  have Hp := Lib.hid hp
  clear hp
  obtain ⟨q, hq⟩ : ∃ q, Co.sizeRice b k = q := ⟨_, rfl⟩
  rw [hq] at qb
  have Hq := Lib.hid hq
  clear hq
  subst yb
  subst qb
  have HLA := Lib.hid la
  clear la
  have HMa := Lib.hid Ma
  have HRb := Lib.hid Rb
  clear Ma Mb Ra Rb
  go_enter Tryd.func5, Tryd.ntmps5
  go_wp2_with fail
  refine (first_true _ HG.out).mono ?_
  rintro e w1 ⟨rfl, hb1⟩
  go_wp2_with fail
  refine (SizeUe_any a ha _).mono ?_
  rintro e w' ⟨rfl, rfl⟩
  rw [Hx.out]
  go_wp2_with fail
  refine (SizeUe_any b hb _).mono ?_
  rintro e w' ⟨rfl, rfl⟩
  rw [Hy.out]
  go_wp2_with fail
  refine (SizeRice_any a _ ha hk _).mono ?_
  rintro e w' ⟨rfl, rfl⟩
  rw [Hp.out]
  go_wp2_with fail
  refine (SizeRice_any b _ hb hk _).mono ?_
  rintro e w' ⟨rfl, rfl⟩
  rw [Hq.out]
  go_wp2_with fail
  refine (NewWriter_any _).mono ?_
  rintro e w3 ⟨rfl, hw3⟩
  have hwt : Wtr w3 w1.heap.size w1.heap.size (.slice none 0 0) [] := by rw [hw3]; exact Wtr.new _ _
  have hbB : Below w.heap.size w w3 := by rw [hw3]; exact hb1.alloc hb1.size _
  have hs1 := hb1.size
  have hl3 := hwt.1.lt
  obtain ⟨gw, hgw⟩ : ∃ gw, w1.heap.size = gw := ⟨_, rfl⟩
  rw [hgw] at hwt hl3 hs1
  rw [hgw]
  have HW := Lib.hid hwt
  clear hw3 hgw hwt
  go_wp2_with fail
  refine (PutUe_yes (l := []) (by simp) _ (by omega) HMa.out HW.out).mono ?_
  rintro e w4 ⟨rfl, ho4⟩
  have hbC := below_w hbB HW.out ho4 (by omega) (by omega)
  obtain ⟨v4, hw4, hc4, hv4⟩ := ho4
  rw [List.nil_append] at hw4
  obtain ⟨l, hl⟩ : ∃ l, Co.ueBits a = l := ⟨_, rfl⟩
  rw [hl] at hw4 HLA
  have HW4 := Lib.hid hw4
  have hs4 := hc4.size
  have hll : l.length ≤ 61 := by have := HLA.out; omega
  clear hw4 hc4 hv4 hl
  go_wp2_with fail
  refine (PutRice_no ⟨by omega, by omega⟩ ⟨by omega, by omega⟩ _ HRb.out).mono ?_
  rintro e w5 ⟨rfl, rfl⟩
  have hbD := hbC
  obtain ⟨m, hm⟩ : ∃ m, l = m := ⟨_, rfl⟩
  have HW5 := HW4
  rw [hm] at HW5
  have HLEN := Lib.hid (show (m.length : Int) = x + 0 by rw [← hm]; have := HLA.out; omega)
  clear hm
  go_wp2_with fail
  refine (first_true _ (HG.out.keep hbD)).mono ?_
  rintro e w6 ⟨rfl, hb6⟩
  have HW6 := Lib.hid (HW5.out.keep hb6)
  have hbE := hbD.trans (hb6.mono hbD.size)
  go_wp2_with fail
  refine (WLen_any _ HW6.out).mono ?_
  rintro e w' ⟨rfl, rfl⟩
  rw [HLEN.out]
  go_wp2_with fail
  all_goals (
    go_ret
    exact ⟨by first | rfl | (simp; omega), hbE⟩)

include ha hb hk in
set_option maxRecDepth 100000 in
set_option maxHeartbeats 2000000 in
theorem Rises_ok_big_neg (a0 : 0 ≤ a) (a1 : a ≤ 1073741824) (b0 : 0 ≤ b) (b1 : 1073741824 < b) (k0 : k < 0) (hg : Gl w) : Calls Tryd.prog 5 #[.int .i64 a, .int .i64 b, .int .i64 k] w fun e w' => e = .returned (.bool true) ∧ Below w.heap.size w w' := by
  have HG := Lib.hid hg
  clear hg
  have Ma : Co.ueMay a = true := decide_eq_true (by omega)
  have Mb : Co.ueMay b = false := decide_eq_false (by omega)
  have Ra : Co.riceMay a k = false := decide_eq_false (by omega)
  have Rb : Co.riceMay b k = false := decide_eq_false (by omega)
  have xb := ue_pos Ma
  have yb := ue_zero Mb
  have pb := rice_zero Ra
  have qb := rice_zero Rb
  have la := Co.ueBits_length Ma
  obtain ⟨x, hx⟩ : ∃ x, Co.sizeUe a = x := ⟨_, rfl⟩
  rw [hx] at xb la
  have Hx := Lib.hid hx
  clear hx
  obtain ⟨y, hy⟩ : ∃ y, Co.sizeUe b = y := ⟨_, rfl⟩
  rw [hy] at yb
  have Hy := Lib.hid hy
  clear hy
  obtain ⟨p, hp⟩ : ∃ p, Co.sizeRice a k = p := ⟨_, rfl⟩
  rw [hp] at pb
  have Hp := Lib.hid hp
  clear hp
  obtain ⟨q, hq⟩ : ∃ q, Co.sizeRice b k = q := ⟨_, rfl⟩
  rw [hq] at qb
  have Hq := Lib.hid hq
  clear hq
  subst yb
  subst pb
  subst qb
  have HLA := Lib.hid la
  clear la
  have HMa := Lib.hid Ma
  have HRb := Lib.hid Rb
  clear Ma Mb Ra Rb
  go_enter Tryd.func5, Tryd.ntmps5
  go_wp2_with fail
  refine (first_true _ HG.out).mono ?_
  rintro e w1 ⟨rfl, hb1⟩
  go_wp2_with fail
  refine (SizeUe_any a ha _).mono ?_
  rintro e w' ⟨rfl, rfl⟩
  rw [Hx.out]
  go_wp2_with fail
  refine (SizeUe_any b hb _).mono ?_
  rintro e w' ⟨rfl, rfl⟩
  rw [Hy.out]
  go_wp2_with fail
  refine (SizeRice_any a _ ha hk _).mono ?_
  rintro e w' ⟨rfl, rfl⟩
  rw [Hp.out]
  go_wp2_with fail
  refine (SizeRice_any b _ hb hk _).mono ?_
  rintro e w' ⟨rfl, rfl⟩
  rw [Hq.out]
  go_wp2_with fail
  refine (NewWriter_any _).mono ?_
  rintro e w3 ⟨rfl, hw3⟩
  have hwt : Wtr w3 w1.heap.size w1.heap.size (.slice none 0 0) [] := by rw [hw3]; exact Wtr.new _ _
  have hbB : Below w.heap.size w w3 := by rw [hw3]; exact hb1.alloc hb1.size _
  have hs1 := hb1.size
  have hl3 := hwt.1.lt
  obtain ⟨gw, hgw⟩ : ∃ gw, w1.heap.size = gw := ⟨_, rfl⟩
  rw [hgw] at hwt hl3 hs1
  rw [hgw]
  have HW := Lib.hid hwt
  clear hw3 hgw hwt
  go_wp2_with fail
  refine (PutUe_yes (l := []) (by simp) _ (by omega) HMa.out HW.out).mono ?_
  rintro e w4 ⟨rfl, ho4⟩
  have hbC := below_w hbB HW.out ho4 (by omega) (by omega)
  obtain ⟨v4, hw4, hc4, hv4⟩ := ho4
  rw [List.nil_append] at hw4
  obtain ⟨l, hl⟩ : ∃ l, Co.ueBits a = l := ⟨_, rfl⟩
  rw [hl] at hw4 HLA
  have HW4 := Lib.hid hw4
  have hs4 := hc4.size
  have hll : l.length ≤ 61 := by have := HLA.out; omega
  clear hw4 hc4 hv4 hl
  go_wp2_with fail
  refine (PutRice_no ⟨by omega, by omega⟩ ⟨by omega, by omega⟩ _ HRb.out).mono ?_
  rintro e w5 ⟨rfl, rfl⟩
  have hbD := hbC
  obtain ⟨m, hm⟩ : ∃ m, l = m := ⟨_, rfl⟩
  have HW5 := HW4
  rw [hm] at HW5
  have HLEN := Lib.hid (show (m.length : Int) = x + 0 by rw [← hm]; have := HLA.out; omega)
  clear hm
  go_wp2_with fail
  refine (first_true _ (HG.out.keep hbD)).mono ?_
  rintro e w6 ⟨rfl, hb6⟩
  have HW6 := Lib.hid (HW5.out.keep hb6)
  have hbE := hbD.trans (hb6.mono hbD.size)
  go_wp2_with fail
  refine (WLen_any _ HW6.out).mono ?_
  rintro e w' ⟨rfl, rfl⟩
  rw [HLEN.out]
  go_wp2_with fail
  all_goals (
    go_ret
    exact ⟨by first | rfl | (simp; omega), hbE⟩)

include ha hb hk in
set_option maxRecDepth 100000 in
set_option maxHeartbeats 2000000 in
theorem Rises_ok_big_big (a0 : 0 ≤ a) (a1 : a ≤ 1073741824) (b0 : 0 ≤ b) (b1 : 1073741824 < b) (k0 : 0 ≤ k) (k1 : 15 < k) (hg : Gl w) : Calls Tryd.prog 5 #[.int .i64 a, .int .i64 b, .int .i64 k] w fun e w' => e = .returned (.bool true) ∧ Below w.heap.size w w' := by
  have HG := Lib.hid hg
  clear hg
  have Ma : Co.ueMay a = true := decide_eq_true (by omega)
  have Mb : Co.ueMay b = false := decide_eq_false (by omega)
  have Ra : Co.riceMay a k = false := decide_eq_false (by omega)
  have Rb : Co.riceMay b k = false := decide_eq_false (by omega)
  have xb := ue_pos Ma
  have yb := ue_zero Mb
  have pb := rice_zero Ra
  have qb := rice_zero Rb
  have la := Co.ueBits_length Ma
  obtain ⟨x, hx⟩ : ∃ x, Co.sizeUe a = x := ⟨_, rfl⟩
  rw [hx] at xb la
  have Hx := Lib.hid hx
  clear hx
  obtain ⟨y, hy⟩ : ∃ y, Co.sizeUe b = y := ⟨_, rfl⟩
  rw [hy] at yb
  have Hy := Lib.hid hy
  clear hy
  obtain ⟨p, hp⟩ : ∃ p, Co.sizeRice a k = p := ⟨_, rfl⟩
  rw [hp] at pb
  have Hp := Lib.hid hp
  clear hp
  obtain ⟨q, hq⟩ : ∃ q, Co.sizeRice b k = q := ⟨_, rfl⟩
  rw [hq] at qb
  have Hq := Lib.hid hq
  clear hq
  subst yb
  subst pb
  subst qb
  have HLA := Lib.hid la
  clear la
  have HMa := Lib.hid Ma
  have HRb := Lib.hid Rb
  clear Ma Mb Ra Rb
  go_enter Tryd.func5, Tryd.ntmps5
  go_wp2_with fail
  refine (first_true _ HG.out).mono ?_
  rintro e w1 ⟨rfl, hb1⟩
  go_wp2_with fail
  refine (SizeUe_any a ha _).mono ?_
  rintro e w' ⟨rfl, rfl⟩
  rw [Hx.out]
  go_wp2_with fail
  refine (SizeUe_any b hb _).mono ?_
  rintro e w' ⟨rfl, rfl⟩
  rw [Hy.out]
  go_wp2_with fail
  refine (SizeRice_any a _ ha hk _).mono ?_
  rintro e w' ⟨rfl, rfl⟩
  rw [Hp.out]
  go_wp2_with fail
  refine (SizeRice_any b _ hb hk _).mono ?_
  rintro e w' ⟨rfl, rfl⟩
  rw [Hq.out]
  go_wp2_with fail
  refine (NewWriter_any _).mono ?_
  rintro e w3 ⟨rfl, hw3⟩
  have hwt : Wtr w3 w1.heap.size w1.heap.size (.slice none 0 0) [] := by rw [hw3]; exact Wtr.new _ _
  have hbB : Below w.heap.size w w3 := by rw [hw3]; exact hb1.alloc hb1.size _
  have hs1 := hb1.size
  have hl3 := hwt.1.lt
  obtain ⟨gw, hgw⟩ : ∃ gw, w1.heap.size = gw := ⟨_, rfl⟩
  rw [hgw] at hwt hl3 hs1
  rw [hgw]
  have HW := Lib.hid hwt
  clear hw3 hgw hwt
  go_wp2_with fail
  refine (PutUe_yes (l := []) (by simp) _ (by omega) HMa.out HW.out).mono ?_
  rintro e w4 ⟨rfl, ho4⟩
  have hbC := below_w hbB HW.out ho4 (by omega) (by omega)
  obtain ⟨v4, hw4, hc4, hv4⟩ := ho4
  rw [List.nil_append] at hw4
  obtain ⟨l, hl⟩ : ∃ l, Co.ueBits a = l := ⟨_, rfl⟩
  rw [hl] at hw4 HLA
  have HW4 := Lib.hid hw4
  have hs4 := hc4.size
  have hll : l.length ≤ 61 := by have := HLA.out; omega
  clear hw4 hc4 hv4 hl
  go_wp2_with fail
  refine (PutRice_no ⟨by omega, by omega⟩ ⟨by omega, by omega⟩ _ HRb.out).mono ?_
  rintro e w5 ⟨rfl, rfl⟩
  have hbD := hbC
  obtain ⟨m, hm⟩ : ∃ m, l = m := ⟨_, rfl⟩
  have HW5 := HW4
  rw [hm] at HW5
  have HLEN := Lib.hid (show (m.length : Int) = x + 0 by rw [← hm]; have := HLA.out; omega)
  clear hm
  go_wp2_with fail
  refine (first_true _ (HG.out.keep hbD)).mono ?_
  rintro e w6 ⟨rfl, hb6⟩
  have HW6 := Lib.hid (HW5.out.keep hb6)
  have hbE := hbD.trans (hb6.mono hbD.size)
  go_wp2_with fail
  refine (WLen_any _ HW6.out).mono ?_
  rintro e w' ⟨rfl, rfl⟩
  rw [HLEN.out]
  go_wp2_with fail
  all_goals (
    go_ret
    exact ⟨by first | rfl | (simp; omega), hbE⟩)

include ha hb hk in
set_option maxRecDepth 100000 in
set_option maxHeartbeats 2000000 in
theorem Rises_ok_big_ok (a0 : 0 ≤ a) (a1 : a ≤ 1073741824) (b0 : 0 ≤ b) (b1 : 1073741824 < b) (k0 : 0 ≤ k) (k1 : k ≤ 15) (hg : Gl w) : Calls Tryd.prog 5 #[.int .i64 a, .int .i64 b, .int .i64 k] w fun e w' => e = .returned (.bool true) ∧ Below w.heap.size w w' := by
  have HG := Lib.hid hg
  clear hg
  have Ma : Co.ueMay a = true := decide_eq_true (by omega)
  have Mb : Co.ueMay b = false := decide_eq_false (by omega)
  have Ra : Co.riceMay a k = true := decide_eq_true (by omega)
  have Rb : Co.riceMay b k = false := decide_eq_false (by omega)
  have xb := ue_pos Ma
  have yb := ue_zero Mb
  have pb := rice_pos Ra
  have qb := rice_zero Rb
  have la := Co.ueBits_length Ma
  obtain ⟨x, hx⟩ : ∃ x, Co.sizeUe a = x := ⟨_, rfl⟩
  rw [hx] at xb la
  have Hx := Lib.hid hx
  clear hx
  obtain ⟨y, hy⟩ : ∃ y, Co.sizeUe b = y := ⟨_, rfl⟩
  rw [hy] at yb
  have Hy := Lib.hid hy
  clear hy
  obtain ⟨p, hp⟩ : ∃ p, Co.sizeRice a k = p := ⟨_, rfl⟩
  rw [hp] at pb
  have Hp := Lib.hid hp
  clear hp
  obtain ⟨q, hq⟩ : ∃ q, Co.sizeRice b k = q := ⟨_, rfl⟩
  rw [hq] at qb
  have Hq := Lib.hid hq
  clear hq
  subst yb
  subst qb
  have HLA := Lib.hid la
  clear la
  have HMa := Lib.hid Ma
  have HRb := Lib.hid Rb
  clear Ma Mb Ra Rb
  go_enter Tryd.func5, Tryd.ntmps5
  go_wp2_with fail
  refine (first_true _ HG.out).mono ?_
  rintro e w1 ⟨rfl, hb1⟩
  go_wp2_with fail
  refine (SizeUe_any a ha _).mono ?_
  rintro e w' ⟨rfl, rfl⟩
  rw [Hx.out]
  go_wp2_with fail
  refine (SizeUe_any b hb _).mono ?_
  rintro e w' ⟨rfl, rfl⟩
  rw [Hy.out]
  go_wp2_with fail
  refine (SizeRice_any a _ ha hk _).mono ?_
  rintro e w' ⟨rfl, rfl⟩
  rw [Hp.out]
  go_wp2_with fail
  refine (SizeRice_any b _ hb hk _).mono ?_
  rintro e w' ⟨rfl, rfl⟩
  rw [Hq.out]
  go_wp2_with fail
  refine (NewWriter_any _).mono ?_
  rintro e w3 ⟨rfl, hw3⟩
  have hwt : Wtr w3 w1.heap.size w1.heap.size (.slice none 0 0) [] := by rw [hw3]; exact Wtr.new _ _
  have hbB : Below w.heap.size w w3 := by rw [hw3]; exact hb1.alloc hb1.size _
  have hs1 := hb1.size
  have hl3 := hwt.1.lt
  obtain ⟨gw, hgw⟩ : ∃ gw, w1.heap.size = gw := ⟨_, rfl⟩
  rw [hgw] at hwt hl3 hs1
  rw [hgw]
  have HW := Lib.hid hwt
  clear hw3 hgw hwt
  go_wp2_with fail
  refine (PutUe_yes (l := []) (by simp) _ (by omega) HMa.out HW.out).mono ?_
  rintro e w4 ⟨rfl, ho4⟩
  have hbC := below_w hbB HW.out ho4 (by omega) (by omega)
  obtain ⟨v4, hw4, hc4, hv4⟩ := ho4
  rw [List.nil_append] at hw4
  obtain ⟨l, hl⟩ : ∃ l, Co.ueBits a = l := ⟨_, rfl⟩
  rw [hl] at hw4 HLA
  have HW4 := Lib.hid hw4
  have hs4 := hc4.size
  have hll : l.length ≤ 61 := by have := HLA.out; omega
  clear hw4 hc4 hv4 hl
  go_wp2_with fail
  refine (PutRice_no ⟨by omega, by omega⟩ ⟨by omega, by omega⟩ _ HRb.out).mono ?_
  rintro e w5 ⟨rfl, rfl⟩
  have hbD := hbC
  obtain ⟨m, hm⟩ : ∃ m, l = m := ⟨_, rfl⟩
  have HW5 := HW4
  rw [hm] at HW5
  have HLEN := Lib.hid (show (m.length : Int) = x + 0 by rw [← hm]; have := HLA.out; omega)
  clear hm
  go_wp2_with fail
  refine (first_true _ (HG.out.keep hbD)).mono ?_
  rintro e w6 ⟨rfl, hb6⟩
  have HW6 := Lib.hid (HW5.out.keep hb6)
  have hbE := hbD.trans (hb6.mono hbD.size)
  go_wp2_with fail
  refine (WLen_any _ HW6.out).mono ?_
  rintro e w' ⟨rfl, rfl⟩
  rw [HLEN.out]
  go_wp2_with fail
  all_goals (
    go_ret
    exact ⟨by first | rfl | (simp; omega), hbE⟩)
end

end Go.Proofs.YtdanjeoiandjfaaDoor
