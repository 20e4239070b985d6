/- The walk of kinlaw2.BitsBack: it returns true, whatever the input. -/
import Derived.Test.YtbdabjnmocnfpaaDoorBitsBackLaw
namespace Go.Proofs.YtbdabjnmocnfpaaDoor
open Go Go.RowKit Go.Extern.Stop Go.Stop Go.Extern

set_option maxRecDepth 100000 in
set_option maxHeartbeats 4000000 in
theorem BitsBack_walk {B : Option Addr} {l : List Op2} {d : Nat} (hll : l.length ≤ 9223372036854775807) (w : World) (hg : Gl w) (ho : RdO w B l) :
    Calls Tryd.prog 8 #[.slice B l.length d] w fun e w' => e = .returned (.bool true) ∧ Below w.heap.size w w' := by
  obtain ⟨i0, hi, hz0, hz1, hz2⟩ := info_parts opInfo
  have HG := Lib.hid hg
  have HB := Lib.hid ho
  clear hg ho
  go_enter Tryd.func8, Tryd.ntmps8
  go_wp2_with fail
  refine (first_true _ HG.out).mono ?_
  rintro e w1 ⟨rfl, hb1⟩
  have hs1 := hb1.size
  go_wp2_with fail
  refine (NewWriter_any _).mono ?_
  rintro e w2 ⟨rfl, hw2⟩
  have hwt : Wtr w2 w1.heap.size w1.heap.size (.slice none 0 0) [] := by rw [hw2]; exact Wtr.new _ _
  have hbA : Below w.heap.size w w2 := by rw [hw2]; exact hb1.alloc hb1.size _
  obtain ⟨gw, hgw⟩ : ∃ gw, w1.heap.size = gw := ⟨_, rfl⟩
  rw [hgw] at hwt hs1
  rw [hgw]
  have HW2 := Lib.hid hwt
  clear hgw hw2 hwt
  go_wp2_with fail
  go_loopg [4, 5] l.length (fun k vd vi wr => ∃ (j : Nat) (ds : List Op2) (m : List Bool) (v : Value), j + k = l.length ∧ vi = .int .i64 j ∧ j ≤ 2000 ∧ ds.length ≤ j ∧ Hid (m = enc ds) ∧ Hid (Done ds) ∧ m.length ≤ 40 * j ∧ Wtr wr gw gw v m ∧
    wr.ownsRow gw 31 4 vd ds.length (flat2 ds) ∧ Below w.heap.size w wr)
  case atStart => exact ⟨0, [], [], _, by omega, rfl, by omega, by simp, rfl, fun o ho => by simp at ho, by simp, HW2.out, World.ownsRow_nil _ _ _ _, hbA⟩
  case round =>
    obtain ⟨j, ds, m, v, hj, rfl, hj20, hdl, HME, HDO, hml, hw, hD0, hbel⟩ := hrel
    have HW := Lib.hid hw
    have hsz := hbel.size
    have hgwl := hw.1.lt
    have hm9 : m.length ≤ 80000 := by omega
    obtain ⟨AD, cD, rfl⟩ := own_slice hD0
    have HD := Lib.hid hD0
    clear hw hD0
    rcases (show (j < l.length ∧ j < 2000) ∨ (j < l.length ∧ 2000 ≤ j) ∨ ¬ j < l.length by omega) with ⟨hlt, hj2⟩ | ⟨hlt, hj2⟩ | hlt
    · obtain ⟨b3, o3, rfl, q0, q1, q2, q3⟩ := HB.out.at_ hlt
      have hb3w : b3 < w.heap.size := lt_of_cell q0
      obtain ⟨n, hn⟩ : ∃ n, l[j].n = n := ⟨_, rfl⟩
      obtain ⟨k, hk⟩ : ∃ k, l[j].k = k := ⟨_, rfl⟩
      obtain ⟨x, hx⟩ : ∃ x, l[j].v = x := ⟨_, rfl⟩
      obtain ⟨y, hy⟩ : ∃ y, l[j].b = y := ⟨_, rfl⟩
      rw [hn] at q2
      rw [hk] at q0
      rw [hx] at q1
      rw [hy] at q3
      have HK := Lib.hid (fun (W : World) (hb : Below w.heap.size w W) => show W.cell? ⟨b3, o3 + j * 4, none⟩ = some (.int .i64 k) ∧ W.cell? ⟨b3, o3 + j * 4 + 1, none⟩ = some (.int .i64 x) ∧ W.cell? ⟨b3, o3 + j * 4 + 2, none⟩ = some (.int .i64 n) ∧ W.cell? ⟨b3, o3 + j * 4 + 3, none⟩ = some (.bool y) from
        ⟨(hb.cell (p := ⟨b3, o3 + j * 4, none⟩) hb3w).trans q0, (hb.cell (p := ⟨b3, o3 + j * 4 + 1, none⟩) hb3w).trans q1, (hb.cell (p := ⟨b3, o3 + j * 4 + 2, none⟩) hb3w).trans q2, (hb.cell (p := ⟨b3, o3 + j * 4 + 3, none⟩) hb3w).trans q3⟩)
      obtain ⟨k0, k1, k2, k3⟩ := HK.out _ hbel
      have hlt' : (j : Int) < (l.length : Int) := by omega
      have hj2' : (j : Int) < 2000 := by omega
      clear hn hk hx hy q0 q1 q2 q3 hj2
      rcases (show k = 0 ∨ k = 1 ∨ (k ≠ 0 ∧ k ≠ 1) by omega) with rfl | rfl | ⟨hk0, hk1⟩
      · cases hpm : putMay x n with
        | false =>
          go_wp2_with fail
          go_region_held3 (fun W => W.cell? ⟨b3, o3 + j * 4 + 1, none⟩ = some (.int .i64 x) ∧ W.cell? ⟨b3, o3 + j * 4 + 2, none⟩ = some (.int .i64 n))
            (go_keep)
            ((go_at_call 12; refine (Put_no _ hpm).mono ?_; rintro e w5 ⟨rfl, rfl⟩))
          have HW5 : Hid (Wtr wr.drew gw gw v m) := HW.out
          have HD5 : Hid (wr.drew.ownsRow gw 31 4 (.slice AD ds.length cD) ds.length (flat2 ds)) := HD.out
          have hb5 := hbel.drew
          clear k0 k1 k2 k3
          go_wp2_with fail
          go_roundg (gk - 1)
          case measure => omega
          case rel => exact ⟨j + 1, ds, m, v, by omega, by go_num, by omega, by omega, HME, HDO, by omega, HW5.out, HD5.out, hb5⟩
        | true =>
          obtain ⟨p0, p1, p2, p3⟩ : 0 ≤ n ∧ n ≤ 32 ∧ 0 ≤ x ∧ x < 2 ^ n.toNat := of_decide_eq_true hpm
          obtain ⟨N, rfl⟩ := Int.eq_ofNat_of_zero_le p0
          rw [Int.toNat_natCast] at p3
          have HP3 := Lib.hid p3
          have hwd : Hid (Wtr wr.drew gw gw v m) := HW.out
          have hdd : Hid (wr.drew.ownsRow gw 31 4 (.slice AD ds.length cD) ds.length (flat2 ds)) := HD.out
          clear hpm p3
          go_wp2_with fail
          go_region_held3 (fun W => W.cell? ⟨b3, o3 + j * 4 + 1, none⟩ = some (.int .i64 x) ∧ W.cell? ⟨b3, o3 + j * 4 + 2, none⟩ = some (.int .i64 (N : Int)))
            (first
              | go_keep
              | exact ⟨(HK.out _ hb5).2.1, (HK.out _ hb5).2.2.1⟩)
            ((go_at_call 12; refine (Put_yes (by omega) _ (by simp; omega) (by omega) p2 HP3.out hwd.out).mono ?_; rintro e w5 ⟨rfl, ho5⟩; have hb5 := below_w hbel.drew hwd.out ho5 (by omega) (by omega); have HO5 := Lib.hid ho5; clear ho5))
          have hD := own_write hdd.out hwd.out HO5.out
          obtain ⟨v5, hW5, _, _⟩ := HO5.out
          clear k0 k1 k2 k3
          obtain ⟨k0, k1, k2, k3⟩ := HK.out _ hb5
          have hs5 := hb5.size
          have hgw5 := hW5.1.lt
          go_wp2_with (at_builtin; refine wpList_append_lies _ rfl (.tmp 57) (.tmp 62) _ rfl gw 31 i0 _ 4 32 Tryd.underlying22 hi hz0 hz1 hz2 rfl (by omega) (.slice AD ds.length cD) ds.length _ rfl (hD.alloc _) ⟨w5.heap.size, 0, none⟩ 1 1 [.int .i64 0, .int .i64 x, .int .i64 (N : Int), .bool y] rfl rfl (World.news_of_block (cs := #[.int .i64 0, .int .i64 x, .int .i64 (N : Int), .bool y]) (t := 31) (fr := (0, 0)) (heap_alloc_new w5 _)) (by simp [Value.oneCell']) (by omega) (by unfold maxLen; omega) (by omega) (by simp; omega) _ rfl ?_; intro gb cap w9 hown9 hgrow9 hat9 hlt9)
          have hwa := (hW5.keep (show Below w5.heap.size w5 (w5.alloc (.cells #[.int .i64 0, .int .i64 x, .int .i64 (N : Int), .bool y] 31)) from (Below.refl _ _).alloc (Nat.le_refl _) _)).grown (hD.alloc _) hgrow9
          have hba := (hb5.alloc hb5.size (.cells #[.int .i64 0, .int .i64 x, .int .i64 (N : Int), .bool y] 31)).grown hgrow9 (by simp; omega) (fun z hz => by have := (hD.lt z hz).1; omega)
          have HWA := Lib.hid hwa
          have HOA := Lib.hid hown9
          have HBA := Lib.hid hba
          have HDN := Lib.hid (HDO.out.snoc (o := ⟨0, x, (N : Int), y⟩) (fun _ => ⟨by omega, by omega, p2, by rw [Int.toNat_natCast]; exact HP3.out⟩))
          have HEN := Lib.hid (show (m ++ Bi.bitsOf x N) = enc (ds ++ [⟨0, x, (N : Int), y⟩]) by rw [enc_snoc, ← HME.out]; simp [chunk])
          have hfl : flat2 (ds ++ [⟨0, x, (N : Int), y⟩]) = flat2 ds ++ [.int .i64 0, .int .i64 x, .int .i64 (N : Int), .bool y] := by rw [flat2_app]; rfl
          have hln : (ds ++ [(⟨0, x, (N : Int), y⟩ : Op2)]).length = ds.length + 1 := by simp
          have HFL := Lib.hid hfl
          have hmlen : ((m ++ Bi.bitsOf x N)).length ≤ 40 * (j + 1) := by rw [List.length_append, bitsOf_len]; omega
          clear hwa hown9 hgrow9 hat9 hba hfl hD hW5
          go_roundg (gk - 1)
          case measure => omega
          case rel => exact ⟨j + 1, ds ++ [⟨0, x, (N : Int), y⟩], (m ++ Bi.bitsOf x N), v5, by omega, by go_num, by omega, by rw [hln]; omega, HEN, HDN, hmlen, HWA.out, by rw [HFL.out, hln]; exact HOA.out, HBA.out⟩
      · go_wp2_with fail
        refine (WFlag_any (by omega) _ (by omega) HW.out).mono ?_
        rintro e w5 ⟨rfl, ho5⟩
        have hb5 := below_w hbel HW.out ho5 (by omega) (by omega)
        have hD := own_write HD.out HW.out ho5
        obtain ⟨v5, hW5, _, _⟩ := ho5
        clear k0 k1 k2 k3
        obtain ⟨k0, k1, k2, k3⟩ := HK.out _ hb5
        have hs5 := hb5.size
        have hgw5 := hW5.1.lt
        go_wp2_with (at_builtin; refine wpList_append_lies _ rfl (.tmp 73) (.tmp 78) _ rfl gw 31 i0 _ 4 32 Tryd.underlying22 hi hz0 hz1 hz2 rfl (by omega) (.slice AD ds.length cD) ds.length _ rfl (hD.alloc _) ⟨w5.heap.size, 0, none⟩ 1 1 [.int .i64 1, .int .i64 x, .int .i64 n, .bool y] rfl rfl (World.news_of_block (cs := #[.int .i64 1, .int .i64 x, .int .i64 n, .bool y]) (t := 31) (fr := (0, 0)) (heap_alloc_new w5 _)) (by simp [Value.oneCell']) (by omega) (by unfold maxLen; omega) (by omega) (by simp; omega) _ rfl ?_; intro gb cap w9 hown9 hgrow9 hat9 hlt9)
        have hwa := (hW5.keep (show Below w5.heap.size w5 (w5.alloc (.cells #[.int .i64 1, .int .i64 x, .int .i64 n, .bool y] 31)) from (Below.refl _ _).alloc (Nat.le_refl _) _)).grown (hD.alloc _) hgrow9
        have hba := (hb5.alloc hb5.size (.cells #[.int .i64 1, .int .i64 x, .int .i64 n, .bool y] 31)).grown hgrow9 (by simp; omega) (fun z hz => by have := (hD.lt z hz).1; omega)
        have HWA := Lib.hid hwa
        have HOA := Lib.hid hown9
        have HBA := Lib.hid hba
        have HDN := Lib.hid (HDO.out.snoc (o := ⟨1, x, n, y⟩) (fun h => by simp at h))
        have HEN := Lib.hid (show (m ++ [y]) = enc (ds ++ [⟨1, x, n, y⟩]) by rw [enc_snoc, ← HME.out]; simp [chunk])
        have hfl : flat2 (ds ++ [⟨1, x, n, y⟩]) = flat2 ds ++ [.int .i64 1, .int .i64 x, .int .i64 n, .bool y] := by rw [flat2_app]; rfl
        have hln : (ds ++ [(⟨1, x, n, y⟩ : Op2)]).length = ds.length + 1 := by simp
        have HFL := Lib.hid hfl
        have hmlen : ((m ++ [y])).length ≤ 40 * (j + 1) := by rw [List.length_append]; simp; omega
        clear hwa hown9 hgrow9 hat9 hba hfl hD hW5
        go_roundg (gk - 1)
        case measure => omega
        case rel => exact ⟨j + 1, ds ++ [⟨1, x, n, y⟩], (m ++ [y]), v5, by omega, by go_num, by omega, by rw [hln]; omega, HEN, HDN, hmlen, HWA.out, by rw [HFL.out, hln]; exact HOA.out, HBA.out⟩
      · have hk0' : (k == 0) = false := by rw [beq_eq_false_iff_ne]; exact hk0
        have hk1' : (k == 1) = false := by rw [beq_eq_false_iff_ne]; exact hk1
        have HK0 := Lib.hid (And.intro hk0 hk1)
        clear hk0 hk1
        go_wp2_with fail
        refine (WAlign_any (by omega) _ HW.out).mono ?_
        rintro e w5 ⟨rfl, ho5⟩
        have hb5 := below_w hbel HW.out ho5 (by omega) (by omega)
        have hD := own_write HD.out HW.out ho5
        obtain ⟨v5, hW5, _, _⟩ := ho5
        have hpd := padded_le m
        clear k0 k1 k2 k3
        obtain ⟨k0, k1, k2, k3⟩ := HK.out _ hb5
        have hs5 := hb5.size
        have hgw5 := hW5.1.lt
        go_wp2_with (at_builtin; refine wpList_append_lies _ rfl (.tmp 35) (.tmp 40) _ rfl gw 31 i0 _ 4 32 Tryd.underlying22 hi hz0 hz1 hz2 rfl (by omega) (.slice AD ds.length cD) ds.length _ rfl (hD.alloc _) ⟨w5.heap.size, 0, none⟩ 1 1 [.int .i64 k, .int .i64 x, .int .i64 n, .bool y] rfl rfl (World.news_of_block (cs := #[.int .i64 k, .int .i64 x, .int .i64 n, .bool y]) (t := 31) (fr := (0, 0)) (heap_alloc_new w5 _)) (by simp [Value.oneCell']) (by omega) (by unfold maxLen; omega) (by omega) (by simp; omega) _ rfl ?_; intro gb cap w9 hown9 hgrow9 hat9 hlt9)
        have hwa := (hW5.keep (show Below w5.heap.size w5 (w5.alloc (.cells #[.int .i64 k, .int .i64 x, .int .i64 n, .bool y] 31)) from (Below.refl _ _).alloc (Nat.le_refl _) _)).grown (hD.alloc _) hgrow9
        have hba := (hb5.alloc hb5.size (.cells #[.int .i64 k, .int .i64 x, .int .i64 n, .bool y] 31)).grown hgrow9 (by simp; omega) (fun z hz => by have := (hD.lt z hz).1; omega)
        have HWA := Lib.hid hwa
        have HOA := Lib.hid hown9
        have HBA := Lib.hid hba
        have HDN := Lib.hid (HDO.out.snoc (o := ⟨k, x, n, y⟩) (fun h => absurd h HK0.out.1))
        have HEN := Lib.hid (show (Bi.padded m) = enc (ds ++ [⟨k, x, n, y⟩]) by rw [enc_snoc, ← HME.out]; (unfold chunk; rw [if_neg HK0.out.1, if_neg HK0.out.2, padded_eq]))
        have hfl : flat2 (ds ++ [⟨k, x, n, y⟩]) = flat2 ds ++ [.int .i64 k, .int .i64 x, .int .i64 n, .bool y] := by rw [flat2_app]; rfl
        have hln : (ds ++ [(⟨k, x, n, y⟩ : Op2)]).length = ds.length + 1 := by simp
        have HFL := Lib.hid hfl
        have hmlen : ((Bi.padded m)).length ≤ 40 * (j + 1) := by omega
        clear hwa hown9 hgrow9 hat9 hba hfl hD hW5
        go_roundg (gk - 1)
        case measure => omega
        case rel => exact ⟨j + 1, ds ++ [⟨k, x, n, y⟩], (Bi.padded m), v5, by omega, by go_num, by omega, by rw [hln]; omega, HEN, HDN, hmlen, HWA.out, by rw [HFL.out, hln]; exact HOA.out, HBA.out⟩
    · have hj2' : (2000 : Int) ≤ (j : Int) := by omega
      have hlt' : (j : Int) < (l.length : Int) := by omega
      go_wp2_with fail
      refine (WBytes_any (by omega) _ HW.out).mono ?_
      rintro e w5 ⟨A5, c5, rfl, hown5, hb5⟩
      have hbC := hbel.trans (hb5.mono hbel.size)
      have HW5 := Lib.hid (HW.out.keep hb5)
      have HD5 := Lib.hid (own_keep HD.out hb5)
      have hrd5 := (RdI.of_own (k := .u8) (l := Bi.pack m) hown5).1
      obtain ⟨pk, hpk⟩ : ∃ pk, Bi.pack m = pk := ⟨_, rfl⟩
      have hpkl : pk.length = (m.length + 7) / 8 := by rw [← hpk, Bi.pack_length]
      have HPK := Lib.hid hpk
      have hpk9 : pk.length ≤ 1000000000 := by omega
      have HPB := Lib.hid (show ∀ z ∈ pk, 0 ≤ z ∧ z ≤ 255 by rw [← hpk]; exact Bi.pack_bd m)
      have HPKL := Lib.hid hpkl
      rw [hpk] at hrd5
      rw [hpk]
      clear hown5 hb5 hpk hpkl
      go_wp2_with fail
      refine (NewReader_any hpk9 HPB.out _ hrd5).mono ?_
      rintro e w6 ⟨gr, rfl, hr6, hlo6, hb6⟩
      have hbD := hbC.trans (hb6.mono hbC.size)
      have HR6 := Lib.hid hr6
      have HW6 := Lib.hid (HW5.out.keep hb6)
      have HD6 := Lib.hid (own_keep HD5.out hb6)
      have hgr6 := hr6.lt
      have hs5 := hbC.size
      have hgrw : w.heap.size ≤ gr := by omega
      have hgwr : gw ≠ gr := by have := HW5.out.1.lt; omega
      obtain ⟨lo, hlo⟩ : ∃ lo, w5.heap.size = lo := ⟨_, rfl⟩
      rw [hlo] at HR6
      clear hr6 hb6 hrd5 hlo
      go_wp2_with fail
      go_loopg [7] ds.length (fun k vi wx => ∃ (i : Nat), i + k = ds.length ∧ vi = .int .i64 i ∧ RdrT 75 lo gr wx gr pk (enc (ds.take i)).length ∧ Wtr wx gw gw v m ∧ wx.ownsRow gw 31 4 (.slice AD ds.length cD) ds.length (flat2 ds) ∧ Below w.heap.size w wx)
      case atStart => exact ⟨0, by omega, rfl, HR6.out, HW6.out, HD6.out, hbD⟩
      case round =>
        clear hj hlt hbel
        obtain ⟨i, hi', rfl, hrx, hwx, hdx, hbel⟩ := hrel
        have HRX := Lib.hid hrx
        have HWX := Lib.hid hwx
        have HDX := Lib.hid hdx
        clear hrx hwx
        by_cases hlt : i < ds.length
        · obtain ⟨b4, o4, hA4, s0, s1, s2, s3⟩ := (show RdO wr AD ds from Rd.of_own hdx).at_ hlt
          obtain ⟨r, hr1, hr2⟩ := enc_at ds i hlt
          rw [← HME.out] at hr1
          have hdone := HDO.out ds[i] (List.getElem_mem hlt)
          obtain ⟨P, hP⟩ : ∃ P, enc (ds.take i) = P := ⟨_, rfl⟩
          rw [hP] at hr1 hr2 HRX
          obtain ⟨o, ho⟩ : ∃ o, ds[i] = o := ⟨_, rfl⟩
          rw [ho] at s0 s1 s2 s3 hr1 hr2 hdone
          obtain ⟨k, x, n, y⟩ := o
          simp only [] at s0 s1 s2 s3 hdone
          have hlt' : (i : Int) < (ds.length : Int) := by omega
          subst hA4
          have HR1 := Lib.hid hr1
          have HR2 := Lib.hid hr2
          have HDN := Lib.hid hdone
          have hbk : Below wr.heap.size wr (wr.alloc (.cells #[.int .i64 k, .int .i64 x, .int .i64 n, .bool y] 31)) := (Below.refl _ _).alloc (Nat.le_refl _) _
          have hnb := Blk.new wr 31 #[.int .i64 k, .int .i64 x, .int .i64 n, .bool y]
          have HRY := Lib.hid (HRX.out.keep hbk)
          have HWY := Lib.hid (HWX.out.keep hbk)
          have HDY := Lib.hid (own_keep hdx hbk)
          have hbY := hbel.trans (hbk.mono hbel.size)
          have HNB := Lib.hid hnb
          have hszr := hbel.size
          have hgrl := HRX.out.lt
          clear hr1 hr2 hP ho hdone hdx hbk hnb
          rcases (show k = 0 ∨ k = 1 ∨ (k ≠ 0 ∧ k ≠ 1) by omega) with rfl | rfl | ⟨hk0, hk1⟩
          · obtain ⟨p0, p1, p2, p3⟩ := HDN.out rfl
            obtain ⟨N, rfl⟩ := Int.eq_ofNat_of_zero_le p0
            rw [Int.toNat_natCast] at p3
            have hc1 := HR1.out
            have hc2 := HR2.out
            simp only [chunk, if_true, Int.toNat_natCast] at hc1 hc2
            obtain ⟨hnum, hfit⟩ := back_num hc1 p2 p3
            rw [HPK.out] at hnum hfit
            have HC := Lib.hid (Get_ok (n := N) hpk9 (by omega) hfit _ HRY.out)
            rw [hnum] at HC
            have HEN := Lib.hid (show (enc (ds.take (i + 1))).length = P.length + N by rw [hc2, List.length_append, bitsOf_len])
            clear hc1 hc2 hnum hfit p3
            go_wp2_with fail
            refine HC.out.mono ?_
            rintro e w8 ⟨rfl, ho8⟩
            have HR8 := Lib.hid ho8.1
            have HW8 := Lib.hid (HWY.out.read HRY.out ho8)
            have HD8 := Lib.hid (own_read HDY.out HRY.out ho8)
            have hb8 := below_chg hbY ho8.2 hbY.size (fun z hz => by omega)
            have hn8 := HNB.out.chg ho8.2 (by omega)
            have e1 : w8.cell? ⟨wr.heap.size, 1, none⟩ = some (.int .i64 x) := by rw [hn8.cell]; rfl
            clear ho8 hn8
            go_wp2_with fail
            go_roundg (gk - 1)
            case measure => omega
            case rel => exact ⟨i + 1, by omega, by go_num, by rw [HEN.out]; exact HR8.out, HW8.out, HD8.out, hb8⟩
          · have hc1 := HR1.out
            have hc2 := HR2.out
            rw [show chunk P ⟨1, x, n, y⟩ = [y] by simp [chunk]] at hc1 hc2
            obtain ⟨hbit, hfit⟩ := back_bit hc1
            rw [HPK.out] at hbit hfit
            have HC := Lib.hid (Flag_ok hpk9 hfit _ HRY.out)
            rw [hbit] at HC
            have HEN := Lib.hid (show (enc (ds.take (i + 1))).length = P.length + 1 by rw [hc2]; simp)
            clear hc1 hc2 hbit hfit
            go_wp2_with fail
            refine HC.out.mono ?_
            rintro e w8 ⟨rfl, ho8⟩
            have HR8 := Lib.hid ho8.1
            have HW8 := Lib.hid (HWY.out.read HRY.out ho8)
            have HD8 := Lib.hid (own_read HDY.out HRY.out ho8)
            have hb8 := below_chg hbY ho8.2 hbY.size (fun z hz => by omega)
            have hn8 := HNB.out.chg ho8.2 (by omega)
            have e1 : w8.cell? ⟨wr.heap.size, 3, none⟩ = some (.bool y) := by rw [hn8.cell]; rfl
            clear ho8 hn8
            go_wp2_with fail
            go_roundg (gk - 1)
            case measure => omega
            case rel => exact ⟨i + 1, by omega, by go_num, by rw [HEN.out]; exact HR8.out, HW8.out, HD8.out, hb8⟩
          · have hk0' : (k == 0) = false := by rw [beq_eq_false_iff_ne]; exact hk0
            have hk1' : (k == 1) = false := by rw [beq_eq_false_iff_ne]; exact hk1
            have hc1 := HR1.out
            have hc2 := HR2.out
            rw [show chunk P ⟨k, x, n, y⟩ = List.replicate (padTo P.length) false by unfold chunk; rw [if_neg hk0, if_neg hk1]] at hc1 hc2
            have hfo := back_pad hc1
            rw [HPK.out] at hfo
            have HC := Lib.hid (Align_any hpk9 _ HRY.out)
            rw [hfo] at HC
            have HEN := Lib.hid (show (enc (ds.take (i + 1))).length = P.length + padTo P.length by rw [hc2]; simp)
            clear hc1 hc2 hfo hk0 hk1
            go_wp2_with fail
            refine HC.out.mono ?_
            rintro e w8 ⟨v8, rfl, he8, ho8⟩
            rcases he8 with ⟨_, _, rfl⟩ | ⟨h0, _⟩
            rotate_left 1
            · exact absurd rfl h0
            have HR8 := Lib.hid ho8.1
            have HW8 := Lib.hid (HWY.out.read HRY.out ho8)
            have HD8 := Lib.hid (own_read HDY.out HRY.out ho8)
            have hb8 := below_chg hbY ho8.2 hbY.size (fun z hz => by omega)
            clear ho8
            go_wp2_with fail
            go_roundg (gk - 1)
            case measure => omega
            case rel => exact ⟨i + 1, by omega, by go_num, by rw [HEN.out]; exact HR8.out, HW8.out, HD8.out, hb8⟩
        · have hge : (ds.length : Int) ≤ (i : Int) := by omega
          have hall : (enc (ds.take i)).length = m.length := by rw [List.take_of_length_le (by omega), ← HME.out]
          rw [hall] at HRX
          clear hall hlt hi' hdx
          go_wp2_with fail
          refine (first_true _ (HG.out.keep hbel)).mono ?_
          rintro e w8 ⟨rfl, hb8⟩
          have hbE := hbel.trans (hb8.mono hbel.size)
          have HR8 := Lib.hid (HRX.out.keep hb8)
          have HW8 := Lib.hid (HWX.out.keep hb8)
          clear hge
          go_wp2_with fail
          refine (Place_any _ HR8.out).mono ?_
          rintro e w9 ⟨rfl, rfl⟩
          go_wp2_with fail
          refine (WLen_any _ HW8.out).mono ?_
          rintro e w9 ⟨rfl, rfl⟩
          go_wp2_with fail
          refine (Left_any hpk9 _ HR8.out).mono ?_
          rintro e w9 ⟨rfl, nq, rfl⟩
          have hbF := below_drewN hbE nq
          have hl8 : decide (8 * (pk.length : Int) - (m.length : Int) < 8) = true := by have := HPKL.out; simp; omega
          have hl8' : 8 * (pk.length : Int) - (m.length : Int) < 8 := by have := HPKL.out; omega
          have hfo := back_end m
          rw [HPK.out] at hfo
          have HC := Lib.hid (Align_any hpk9 _ (HR8.out.drewN nq))
          rw [hfo] at HC
          clear hfo
          go_wp2_with fail
          refine HC.out.mono ?_
          rintro e w10 ⟨v10, rfl, he10, ho10⟩
          rcases he10 with ⟨_, _, rfl⟩ | ⟨h0, _⟩
          rotate_left 1
          · exact absurd rfl h0
          have hbG := below_chg hbF ho10.2 hbF.size (fun z hz => by omega)
          go_wp2_with fail
          go_ret
          exact ⟨rfl, hbG⟩
    · go_wp2_with fail
      refine (WBytes_any (by omega) _ HW.out).mono ?_
      rintro e w5 ⟨A5, c5, rfl, hown5, hb5⟩
      have hbC := hbel.trans (hb5.mono hbel.size)
      have HW5 := Lib.hid (HW.out.keep hb5)
      have HD5 := Lib.hid (own_keep HD.out hb5)
      have hrd5 := (RdI.of_own (k := .u8) (l := Bi.pack m) hown5).1
      obtain ⟨pk, hpk⟩ : ∃ pk, Bi.pack m = pk := ⟨_, rfl⟩
      have hpkl : pk.length = (m.length + 7) / 8 := by rw [← hpk, Bi.pack_length]
      have HPK := Lib.hid hpk
      have hpk9 : pk.length ≤ 1000000000 := by omega
      have HPB := Lib.hid (show ∀ z ∈ pk, 0 ≤ z ∧ z ≤ 255 by rw [← hpk]; exact Bi.pack_bd m)
      have HPKL := Lib.hid hpkl
      rw [hpk] at hrd5
      rw [hpk]
      clear hown5 hb5 hpk hpkl
      go_wp2_with fail
      refine (NewReader_any hpk9 HPB.out _ hrd5).mono ?_
      rintro e w6 ⟨gr, rfl, hr6, hlo6, hb6⟩
      have hbD := hbC.trans (hb6.mono hbC.size)
      have HR6 := Lib.hid hr6
      have HW6 := Lib.hid (HW5.out.keep hb6)
      have HD6 := Lib.hid (own_keep HD5.out hb6)
      have hgr6 := hr6.lt
      have hs5 := hbC.size
      have hgrw : w.heap.size ≤ gr := by omega
      have hgwr : gw ≠ gr := by have := HW5.out.1.lt; omega
      obtain ⟨lo, hlo⟩ : ∃ lo, w5.heap.size = lo := ⟨_, rfl⟩
      rw [hlo] at HR6
      clear hr6 hb6 hrd5 hlo
      go_wp2_with fail
      go_loopg [7] ds.length (fun k vi wx => ∃ (i : Nat), i + k = ds.length ∧ vi = .int .i64 i ∧ RdrT 75 lo gr wx gr pk (enc (ds.take i)).length ∧ Wtr wx gw gw v m ∧ wx.ownsRow gw 31 4 (.slice AD ds.length cD) ds.length (flat2 ds) ∧ Below w.heap.size w wx)
      case atStart => exact ⟨0, by omega, rfl, HR6.out, HW6.out, HD6.out, hbD⟩
      case round =>
        clear hj hlt hbel
        obtain ⟨i, hi', rfl, hrx, hwx, hdx, hbel⟩ := hrel
        have HRX := Lib.hid hrx
        have HWX := Lib.hid hwx
        have HDX := Lib.hid hdx
        clear hrx hwx
        by_cases hlt : i < ds.length
        · obtain ⟨b4, o4, hA4, s0, s1, s2, s3⟩ := (show RdO wr AD ds from Rd.of_own hdx).at_ hlt
          obtain ⟨r, hr1, hr2⟩ := enc_at ds i hlt
          rw [← HME.out] at hr1
          have hdone := HDO.out ds[i] (List.getElem_mem hlt)
          obtain ⟨P, hP⟩ : ∃ P, enc (ds.take i) = P := ⟨_, rfl⟩
          rw [hP] at hr1 hr2 HRX
          obtain ⟨o, ho⟩ : ∃ o, ds[i] = o := ⟨_, rfl⟩
          rw [ho] at s0 s1 s2 s3 hr1 hr2 hdone
          obtain ⟨k, x, n, y⟩ := o
          simp only [] at s0 s1 s2 s3 hdone
          have hlt' : (i : Int) < (ds.length : Int) := by omega
          subst hA4
          have HR1 := Lib.hid hr1
          have HR2 := Lib.hid hr2
          have HDN := Lib.hid hdone
          have hbk : Below wr.heap.size wr (wr.alloc (.cells #[.int .i64 k, .int .i64 x, .int .i64 n, .bool y] 31)) := (Below.refl _ _).alloc (Nat.le_refl _) _
          have hnb := Blk.new wr 31 #[.int .i64 k, .int .i64 x, .int .i64 n, .bool y]
          have HRY := Lib.hid (HRX.out.keep hbk)
          have HWY := Lib.hid (HWX.out.keep hbk)
          have HDY := Lib.hid (own_keep hdx hbk)
          have hbY := hbel.trans (hbk.mono hbel.size)
          have HNB := Lib.hid hnb
          have hszr := hbel.size
          have hgrl := HRX.out.lt
          clear hr1 hr2 hP ho hdone hdx hbk hnb
          rcases (show k = 0 ∨ k = 1 ∨ (k ≠ 0 ∧ k ≠ 1) by omega) with rfl | rfl | ⟨hk0, hk1⟩
          · obtain ⟨p0, p1, p2, p3⟩ := HDN.out rfl
            obtain ⟨N, rfl⟩ := Int.eq_ofNat_of_zero_le p0
            rw [Int.toNat_natCast] at p3
            have hc1 := HR1.out
            have hc2 := HR2.out
            simp only [chunk, if_true, Int.toNat_natCast] at hc1 hc2
            obtain ⟨hnum, hfit⟩ := back_num hc1 p2 p3
            rw [HPK.out] at hnum hfit
            have HC := Lib.hid (Get_ok (n := N) hpk9 (by omega) hfit _ HRY.out)
            rw [hnum] at HC
            have HEN := Lib.hid (show (enc (ds.take (i + 1))).length = P.length + N by rw [hc2, List.length_append, bitsOf_len])
            clear hc1 hc2 hnum hfit p3
            go_wp2_with fail
            refine HC.out.mono ?_
            rintro e w8 ⟨rfl, ho8⟩
            have HR8 := Lib.hid ho8.1
            have HW8 := Lib.hid (HWY.out.read HRY.out ho8)
            have HD8 := Lib.hid (own_read HDY.out HRY.out ho8)
            have hb8 := below_chg hbY ho8.2 hbY.size (fun z hz => by omega)
            have hn8 := HNB.out.chg ho8.2 (by omega)
            have e1 : w8.cell? ⟨wr.heap.size, 1, none⟩ = some (.int .i64 x) := by rw [hn8.cell]; rfl
            clear ho8 hn8
            go_wp2_with fail
            go_roundg (gk - 1)
            case measure => omega
            case rel => exact ⟨i + 1, by omega, by go_num, by rw [HEN.out]; exact HR8.out, HW8.out, HD8.out, hb8⟩
          · have hc1 := HR1.out
            have hc2 := HR2.out
            rw [show chunk P ⟨1, x, n, y⟩ = [y] by simp [chunk]] at hc1 hc2
            obtain ⟨hbit, hfit⟩ := back_bit hc1
            rw [HPK.out] at hbit hfit
            have HC := Lib.hid (Flag_ok hpk9 hfit _ HRY.out)
            rw [hbit] at HC
            have HEN := Lib.hid (show (enc (ds.take (i + 1))).length = P.length + 1 by rw [hc2]; simp)
            clear hc1 hc2 hbit hfit
            go_wp2_with fail
            refine HC.out.mono ?_
            rintro e w8 ⟨rfl, ho8⟩
            have HR8 := Lib.hid ho8.1
            have HW8 := Lib.hid (HWY.out.read HRY.out ho8)
            have HD8 := Lib.hid (own_read HDY.out HRY.out ho8)
            have hb8 := below_chg hbY ho8.2 hbY.size (fun z hz => by omega)
            have hn8 := HNB.out.chg ho8.2 (by omega)
            have e1 : w8.cell? ⟨wr.heap.size, 3, none⟩ = some (.bool y) := by rw [hn8.cell]; rfl
            clear ho8 hn8
            go_wp2_with fail
            go_roundg (gk - 1)
            case measure => omega
            case rel => exact ⟨i + 1, by omega, by go_num, by rw [HEN.out]; exact HR8.out, HW8.out, HD8.out, hb8⟩
          · have hk0' : (k == 0) = false := by rw [beq_eq_false_iff_ne]; exact hk0
            have hk1' : (k == 1) = false := by rw [beq_eq_false_iff_ne]; exact hk1
            have hc1 := HR1.out
            have hc2 := HR2.out
            rw [show chunk P ⟨k, x, n, y⟩ = List.replicate (padTo P.length) false by unfold chunk; rw [if_neg hk0, if_neg hk1]] at hc1 hc2
            have hfo := back_pad hc1
            rw [HPK.out] at hfo
            have HC := Lib.hid (Align_any hpk9 _ HRY.out)
            rw [hfo] at HC
            have HEN := Lib.hid (show (enc (ds.take (i + 1))).length = P.length + padTo P.length by rw [hc2]; simp)
            clear hc1 hc2 hfo hk0 hk1
            go_wp2_with fail
            refine HC.out.mono ?_
            rintro e w8 ⟨v8, rfl, he8, ho8⟩
            rcases he8 with ⟨_, _, rfl⟩ | ⟨h0, _⟩
            rotate_left 1
            · exact absurd rfl h0
            have HR8 := Lib.hid ho8.1
            have HW8 := Lib.hid (HWY.out.read HRY.out ho8)
            have HD8 := Lib.hid (own_read HDY.out HRY.out ho8)
            have hb8 := below_chg hbY ho8.2 hbY.size (fun z hz => by omega)
            clear ho8
            go_wp2_with fail
            go_roundg (gk - 1)
            case measure => omega
            case rel => exact ⟨i + 1, by omega, by go_num, by rw [HEN.out]; exact HR8.out, HW8.out, HD8.out, hb8⟩
        · have hge : (ds.length : Int) ≤ (i : Int) := by omega
          have hall : (enc (ds.take i)).length = m.length := by rw [List.take_of_length_le (by omega), ← HME.out]
          rw [hall] at HRX
          clear hall hlt hi' hdx
          go_wp2_with fail
          refine (first_true _ (HG.out.keep hbel)).mono ?_
          rintro e w8 ⟨rfl, hb8⟩
          have hbE := hbel.trans (hb8.mono hbel.size)
          have HR8 := Lib.hid (HRX.out.keep hb8)
          have HW8 := Lib.hid (HWX.out.keep hb8)
          clear hge
          go_wp2_with fail
          refine (Place_any _ HR8.out).mono ?_
          rintro e w9 ⟨rfl, rfl⟩
          go_wp2_with fail
          refine (WLen_any _ HW8.out).mono ?_
          rintro e w9 ⟨rfl, rfl⟩
          go_wp2_with fail
          refine (Left_any hpk9 _ HR8.out).mono ?_
          rintro e w9 ⟨rfl, nq, rfl⟩
          have hbF := below_drewN hbE nq
          have hl8 : decide (8 * (pk.length : Int) - (m.length : Int) < 8) = true := by have := HPKL.out; simp; omega
          have hl8' : 8 * (pk.length : Int) - (m.length : Int) < 8 := by have := HPKL.out; omega
          have hfo := back_end m
          rw [HPK.out] at hfo
          have HC := Lib.hid (Align_any hpk9 _ (HR8.out.drewN nq))
          rw [hfo] at HC
          clear hfo
          go_wp2_with fail
          refine HC.out.mono ?_
          rintro e w10 ⟨v10, rfl, he10, ho10⟩
          rcases he10 with ⟨_, _, rfl⟩ | ⟨h0, _⟩
          rotate_left 1
          · exact absurd rfl h0
          have hbG := below_chg hbF ho10.2 hbF.size (fun z hz => by omega)
          go_wp2_with fail
          go_ret
          exact ⟨rfl, hbG⟩

end Go.Proofs.YtbdabjnmocnfpaaDoor
