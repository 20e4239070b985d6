/- The walk of kinlaw3.CodesBack: it returns true, whatever the input. -/
import Derived.Test.YtdanjeoiandjfaaDoorCodesBackLaw
import Derived.IntWalk
namespace Go.Proofs.YtdanjeoiandjfaaDoor
open Go Go.RowKit Go.Extern.Stop Go.Stop Go.Extern

set_option maxRecDepth 100000 in
set_option maxHeartbeats 4000000 in
theorem CodesBack_walk {B : Option Addr} {l : List Op3} {d : Nat} (hll : l.length ≤ 9223372036854775807) (hib : ∀ o ∈ l, InB o) (w : World) (hg : Gl w) (ho : RdO3 w B l) :
    Calls Tryd.prog 9 #[.slice B l.length d] w fun e w' => e = .returned (.bool true) ∧ Below w.heap.size w w' := by
  obtain ⟨i0, hi, hz0, hz1, hz2⟩ := info_parts opInfo3
  have HG := Lib.hid hg
  have HB := Lib.hid ho
  have HIB := Lib.hid hib
  clear hg ho hib
  go_enter Tryd.func9, Tryd.ntmps9
  go_wp2_with fail
  refine (first_true _ HG.out).mono ?_
  rintro e w1 ⟨rfl, hb1⟩
  have hs1 := hb1.size
  go_wp2_with fail
  refine (NewWriter_any _).mono ?_
  rintro e w2 ⟨rfl, hw2⟩
  have hwt : Wtr w2 w1.heap.size w1.heap.size (.slice none 0 0) [] := by rw [hw2]; exact Wtr.new _ _
  have hbA : Below w.heap.size w w2 := by rw [hw2]; exact hb1.alloc hb1.size _
  obtain ⟨gw, hgw⟩ : ∃ gw, w1.heap.size = gw := ⟨_, rfl⟩
  rw [hgw] at hwt hs1
  rw [hgw]
  have HW2 := Lib.hid hwt
  clear hgw hw2 hwt
  go_wp2_with fail
  go_loopg [4, 5] l.length (fun k vd vi wr => ∃ (j : Nat) (ds : List Op3) (m : List Bool) (v : Value), j + k = l.length ∧ vi = .int .i64 j ∧ j ≤ 1000 ∧ ds.length ≤ j ∧ Hid (m = encC ds) ∧ Hid (Done3 ds) ∧ m.length ≤ 61 * j ∧ Wtr wr gw gw v m ∧
    wr.ownsRow gw 41 4 vd ds.length (flat3 ds) ∧ Below w.heap.size w wr)
  case atStart => exact ⟨0, [], [], _, by omega, rfl, by omega, by simp, rfl, fun o ho => by simp at ho, by simp, HW2.out, World.ownsRow_nil _ _ _ _, hbA⟩
  case round =>
    obtain ⟨j, ds, m, v, hj, rfl, hj20, hdl, HME, HDO, hml, hw, hD0, hbel⟩ := hrel
    have HW := Lib.hid hw
    have hsz := hbel.size
    have hgwl := hw.1.lt
    have hm9 : m.length ≤ 61000 := by omega
    obtain ⟨AD, cD, rfl⟩ := own_slice hD0
    have HD := Lib.hid hD0
    clear hw hD0
    rcases (show (j < l.length ∧ j < 1000) ∨ (j < l.length ∧ 1000 ≤ j) ∨ ¬ j < l.length by omega) with ⟨hlt, hj2⟩ | ⟨hlt, hj2⟩ | hlt
    · obtain ⟨b3, o3, rfl, q0, q1, q2, q3⟩ := HB.out.at_ hlt
      have hb3w : b3 < w.heap.size := lt_of_cell q0
      have hob := HIB.out _ (List.getElem_mem hlt)
      have hxb := hob.1
      have hnb := hob.2.1
      clear hob
      obtain ⟨n, hn⟩ : ∃ n, l[j].n = n := ⟨_, rfl⟩
      obtain ⟨k, hk⟩ : ∃ k, l[j].k = k := ⟨_, rfl⟩
      obtain ⟨x, hx⟩ : ∃ x, l[j].v = x := ⟨_, rfl⟩
      obtain ⟨y, hy⟩ : ∃ y, l[j].m = y := ⟨_, rfl⟩
      rw [hn] at q2 hnb
      rw [hk] at q0
      rw [hx] at q1 hxb
      rw [hy] at q3
      have HK := Lib.hid (fun (W : World) (hb : Below w.heap.size w W) => show W.cell? ⟨b3, o3 + j * 4, none⟩ = some (.int .i64 k) ∧ W.cell? ⟨b3, o3 + j * 4 + 1, none⟩ = some (.int .i64 x) ∧ W.cell? ⟨b3, o3 + j * 4 + 2, none⟩ = some (.int .i64 n) ∧ W.cell? ⟨b3, o3 + j * 4 + 3, none⟩ = some (.int .i64 y) from
        ⟨(hb.cell (p := ⟨b3, o3 + j * 4, none⟩) hb3w).trans q0, (hb.cell (p := ⟨b3, o3 + j * 4 + 1, none⟩) hb3w).trans q1, (hb.cell (p := ⟨b3, o3 + j * 4 + 2, none⟩) hb3w).trans q2, (hb.cell (p := ⟨b3, o3 + j * 4 + 3, none⟩) hb3w).trans q3⟩)
      obtain ⟨k0, k1, k2, k3⟩ := HK.out _ hbel
      have hlt' : (j : Int) < (l.length : Int) := by omega
      have hj2' : (j : Int) < 1000 := by omega
      clear hn hk hx hy q0 q1 q2 q3 hj2
      rcases (show k = 0 ∨ k = 1 ∨ k = 2 ∨ (k ≠ 0 ∧ k ≠ 1 ∧ k ≠ 2) by omega) with rfl | rfl | rfl | ⟨hk0, hk1, hk2⟩
      · skip
        go_wp2_with fail
        obtain ⟨W, hW⟩ : ∃ W, W = wr.alloc (.cells #[.int .i64 0, .int .i64 x, .int .i64 n, .int .i64 y] 41) := ⟨_, rfl⟩
        have hbk : Below wr.heap.size wr W := by rw [hW]; exact (Below.refl _ _).alloc (Nat.le_refl _) _
        have HZ := Lib.hid (show Blk W wr.heap.size 41 #[.int .i64 0, .int .i64 x, .int .i64 n, .int .i64 y] by rw [hW]; exact Blk.new _ _ _)
        have HWW := Lib.hid (HW.out.keep hbk)
        have HDW := Lib.hid (own_keep HD.out hbk)
        have hbW := hbel.trans (hbk.mono hbel.size)
        have hsW := hbk.size
        rw [← hW]
        obtain ⟨z0, z1, z2, z3⟩ := op_cells HZ.out
        obtain ⟨zb, hzb⟩ : ∃ zb, wr.heap.size = zb := ⟨_, rfl⟩
        rw [hzb] at z0 z1 z2 z3 HZ
        try rw [hzb]
        clear hW hbk hzb k0 k1 k2 k3
        refine (WLen_any _ HWW.out).mono ?_
        rintro e w' ⟨rfl, rfl⟩
        cases hpm : Co.ueMay x with
        | false =>
          go_wp2_with fail
          refine (PutUe_no _ hpm).mono ?_
          rintro e w' ⟨rfl, rfl⟩
          go_wp2_with fail
          go_roundg (gk - 1)
          case measure => omega
          case rel => exact ⟨j + 1, ds, m, v, by omega, by go_num, by omega, by omega, HME, HDO, by omega, HWW.out, HDW.out, hbW⟩
        | true =>
          have hsz2 := Co.ueBits_length hpm
          have hsb := Co.sizeUe_bd x
          obtain ⟨hsb0, hsb1, _⟩ := hsb
          obtain ⟨S, hS⟩ : ∃ S, Co.sizeUe x = S := ⟨_, rfl⟩
          rw [hS] at hsz2 hsb0 hsb1
          have HS := Lib.hid hS
          have hbO := Lib.hid (show bitsOp ⟨0, x, n, y⟩ = Co.ueBits x by simp [bitsOp, hpm])
          have HOK := Lib.hid (show Ok3 ⟨0, x, n, y⟩ from .inl ⟨rfl, hpm⟩)
          have HPM := Lib.hid hpm
          clear hS hpm
          go_wp2_with fail
          refine (PutUe_yes (by omega) _ (by omega) HPM.out HWW.out).mono ?_
          rintro e w5 ⟨rfl, ho5⟩
          have hb5' := below_w hbW HWW.out ho5 (by omega) (by omega)
          have hD5 := own_write HDW.out HWW.out ho5
          have HZ5 := Lib.hid (HZ.out.write (by decide) (by decide) HWW.out ho5)
          obtain ⟨v5, hW5', _, _⟩ := ho5
          obtain ⟨M, hM⟩ : ∃ M, m ++ Co.ueBits x = M := ⟨_, rfl⟩
          have hml5 : (M.length : Int) = (m.length : Int) + S := by rw [← hM, List.length_append]; omega
          rw [hM] at hW5'
          have HM := Lib.hid hM
          have HWV := Lib.hid hW5'
          have HML := Lib.hid hml5
          have hM9 : M.length ≤ 61061 := by omega
          have hwrp : IntKind.i64.wrap ((M.length : Int) - (m.length : Int)) = S := by rw [IntWalk.i64_in _ (by omega)]; omega
          obtain ⟨y0, y1, y2, y3⟩ := op_cells HZ5.out
          clear hM hml5 hW5' z0 z1 z2 z3
          go_wp2_with fail
          go_quiet ((first
            | (go_at_call 23; exact Calls.quiet_of_same ((WLen_any _ (show Wtr (w5.drewN _) gw gw v5 M from HWV.out)).mono (fun _ _ h => ⟨h.1, h.2.symm⟩)))
            | (go_at_call 16; exact Calls.quiet_of_same ((SizeUe_any _ ⟨by omega, by omega⟩ _).mono (fun _ _ h => ⟨by rw [h.1, HS.out], h.2.symm⟩)))))
          clear hwrp HZ5 HZ
          have hW5 : Wtr (w5.drewN nq) gw gw v5 M := HWV.out
          have hD : (w5.drewN nq).ownsRow gw 41 4 (.slice AD ds.length cD) ds.length (flat3 ds) := hD5
          have hb5 := below_drewN hb5' nq
          have x0 : (w5.drewN nq).cell? ⟨zb, 0, none⟩ = _ := y0
          have x1 : (w5.drewN nq).cell? ⟨zb, 1, none⟩ = _ := y1
          have x2 : (w5.drewN nq).cell? ⟨zb, 2, none⟩ = _ := y2
          have x3 : (w5.drewN nq).cell? ⟨zb, 3, none⟩ = _ := y3
          clear y0 y1 y2 y3 HWV hD5 hb5'
          generalize w5.drewN nq = w6 at *
          have hs5 := hb5.size
          have hgw5 := hW5.1.lt
          go_wp2_with (at_builtin; refine wpList_append_lies _ rfl (.tmp 53) (.tmp 55) _ rfl gw 41 i0 _ 4 32 Tryd.underlying34 hi hz0 hz1 hz2 rfl (by omega) (.slice AD ds.length cD) ds.length _ rfl (hD.alloc _) ⟨w6.heap.size, 0, none⟩ 1 1 [.int .i64 0, .int .i64 x, .int .i64 n, .int .i64 y] rfl rfl (World.news_of_block (cs := #[.int .i64 0, .int .i64 x, .int .i64 n, .int .i64 y]) (t := 41) (fr := (0, 0)) (heap_alloc_new w6 _)) (by simp [Value.oneCell']) (by omega) (by unfold maxLen; omega) (by omega) (by simp; omega) _ rfl ?_; intro gb cap w9 hown9 hgrow9 hat9 hlt9)
          have hwa := (hW5.keep (show Below w6.heap.size w6 (w6.alloc (.cells #[.int .i64 0, .int .i64 x, .int .i64 n, .int .i64 y] 41)) from (Below.refl _ _).alloc (Nat.le_refl _) _)).grown (hD.alloc _) hgrow9
          have hba := (hb5.alloc hb5.size (.cells #[.int .i64 0, .int .i64 x, .int .i64 n, .int .i64 y] 41)).grown hgrow9 (by simp; omega) (fun z hz => by have := (hD.lt z hz).1; omega)
          have HWA := Lib.hid hwa
          have HOA := Lib.hid hown9
          have HBA := Lib.hid hba
          have HDN := Lib.hid (HDO.out.snoc (o := ⟨0, x, n, y⟩) HOK.out)
          have HEN := Lib.hid (show M = encC (ds ++ [⟨0, x, n, y⟩]) by rw [encC_snoc, ← HME.out]; rw [hbO.out, HM.out])
          have hfl : flat3 (ds ++ [⟨0, x, n, y⟩]) = flat3 ds ++ [.int .i64 0, .int .i64 x, .int .i64 n, .int .i64 y] := by rw [flat3_app]; rfl
          have hln : (ds ++ [(⟨0, x, n, y⟩ : Op3)]).length = ds.length + 1 := by simp
          have HFL := Lib.hid hfl
          have hmlen : (M).length ≤ 61 * (j + 1) := by have := HML.out; omega
          clear hwa hown9 hgrow9 hat9 hba hfl hD hW5
          go_roundg (gk - 1)
          case measure => omega
          case rel => exact ⟨j + 1, ds ++ [⟨0, x, n, y⟩], M, v5, by omega, by go_num, by omega, by rw [hln]; omega, HEN, HDN, hmlen, HWA.out, by rw [HFL.out, hln]; exact HOA.out, HBA.out⟩
      · skip
        go_wp2_with fail
        obtain ⟨W, hW⟩ : ∃ W, W = wr.alloc (.cells #[.int .i64 1, .int .i64 x, .int .i64 n, .int .i64 y] 41) := ⟨_, rfl⟩
        have hbk : Below wr.heap.size wr W := by rw [hW]; exact (Below.refl _ _).alloc (Nat.le_refl _) _
        have HZ := Lib.hid (show Blk W wr.heap.size 41 #[.int .i64 1, .int .i64 x, .int .i64 n, .int .i64 y] by rw [hW]; exact Blk.new _ _ _)
        have HWW := Lib.hid (HW.out.keep hbk)
        have HDW := Lib.hid (own_keep HD.out hbk)
        have hbW := hbel.trans (hbk.mono hbel.size)
        have hsW := hbk.size
        rw [← hW]
        obtain ⟨z0, z1, z2, z3⟩ := op_cells HZ.out
        obtain ⟨zb, hzb⟩ : ∃ zb, wr.heap.size = zb := ⟨_, rfl⟩
        rw [hzb] at z0 z1 z2 z3 HZ
        try rw [hzb]
        clear hW hbk hzb k0 k1 k2 k3
        refine (WLen_any _ HWW.out).mono ?_
        rintro e w' ⟨rfl, rfl⟩
        cases hpm : Co.seMay x with
        | false =>
          go_wp2_with fail
          refine (PutSe_no _ hpm).mono ?_
          rintro e w' ⟨rfl, rfl⟩
          go_wp2_with fail
          go_roundg (gk - 1)
          case measure => omega
          case rel => exact ⟨j + 1, ds, m, v, by omega, by go_num, by omega, by omega, HME, HDO, by omega, HWW.out, HDW.out, hbW⟩
        | true =>
          have hsz2 := Co.ueBits_length (fold_may hpm)
          have FB := Lib.hid (of_decide_eq_true (fold_may hpm))
          have hsb := Co.sizeUe_bd (Co.fold x)
          obtain ⟨hsb0, hsb1, _⟩ := hsb
          obtain ⟨S, hS⟩ : ∃ S, Co.sizeUe (Co.fold x) = S := ⟨_, rfl⟩
          rw [hS] at hsz2 hsb0 hsb1
          have HS := Lib.hid hS
          have hbO := Lib.hid (show bitsOp ⟨1, x, n, y⟩ = Co.ueBits (Co.fold x) by simp [bitsOp, hpm])
          have HOK := Lib.hid (show Ok3 ⟨1, x, n, y⟩ from .inr (.inl ⟨rfl, hpm⟩))
          have HPM := Lib.hid hpm
          clear hS hpm
          go_wp2_with fail
          refine (PutSe_yes (by omega) _ (by omega) HPM.out HWW.out).mono ?_
          rintro e w5 ⟨rfl, ho5⟩
          have hb5' := below_w hbW HWW.out ho5 (by omega) (by omega)
          have hD5 := own_write HDW.out HWW.out ho5
          have HZ5 := Lib.hid (HZ.out.write (by decide) (by decide) HWW.out ho5)
          obtain ⟨v5, hW5', _, _⟩ := ho5
          obtain ⟨M, hM⟩ : ∃ M, m ++ Co.ueBits (Co.fold x) = M := ⟨_, rfl⟩
          have hml5 : (M.length : Int) = (m.length : Int) + S := by rw [← hM, List.length_append]; omega
          rw [hM] at hW5'
          have HM := Lib.hid hM
          have HWV := Lib.hid hW5'
          have HML := Lib.hid hml5
          have hM9 : M.length ≤ 61061 := by omega
          have hwrp : IntKind.i64.wrap ((M.length : Int) - (m.length : Int)) = S := by rw [IntWalk.i64_in _ (by omega)]; omega
          obtain ⟨y0, y1, y2, y3⟩ := op_cells HZ5.out
          clear hM hml5 hW5' z0 z1 z2 z3
          go_wp2_with fail
          go_quiet ((first
            | (go_at_call 23; exact Calls.quiet_of_same ((WLen_any _ (show Wtr (w5.drewN _) gw gw v5 M from HWV.out)).mono (fun _ _ h => ⟨h.1, h.2.symm⟩)))
            | (go_at_call 12; exact Calls.quiet_of_same ((Fold_any _ hxb _).mono (fun _ _ h => ⟨h.1, h.2.symm⟩)))
            | (go_at_call 16; exact Calls.quiet_of_same ((SizeUe_any _ ⟨by have := FB.out; omega, by have := FB.out; omega⟩ _).mono (fun _ _ h => ⟨by rw [h.1, HS.out], h.2.symm⟩)))))
          clear hwrp HZ5 HZ
          have hW5 : Wtr (w5.drewN nq) gw gw v5 M := HWV.out
          have hD : (w5.drewN nq).ownsRow gw 41 4 (.slice AD ds.length cD) ds.length (flat3 ds) := hD5
          have hb5 := below_drewN hb5' nq
          have x0 : (w5.drewN nq).cell? ⟨zb, 0, none⟩ = _ := y0
          have x1 : (w5.drewN nq).cell? ⟨zb, 1, none⟩ = _ := y1
          have x2 : (w5.drewN nq).cell? ⟨zb, 2, none⟩ = _ := y2
          have x3 : (w5.drewN nq).cell? ⟨zb, 3, none⟩ = _ := y3
          clear y0 y1 y2 y3 HWV hD5 hb5'
          generalize w5.drewN nq = w6 at *
          have hs5 := hb5.size
          have hgw5 := hW5.1.lt
          go_wp2_with (at_builtin; refine wpList_append_lies _ rfl (.tmp 77) (.tmp 79) _ rfl gw 41 i0 _ 4 32 Tryd.underlying34 hi hz0 hz1 hz2 rfl (by omega) (.slice AD ds.length cD) ds.length _ rfl (hD.alloc _) ⟨w6.heap.size, 0, none⟩ 1 1 [.int .i64 1, .int .i64 x, .int .i64 n, .int .i64 y] rfl rfl (World.news_of_block (cs := #[.int .i64 1, .int .i64 x, .int .i64 n, .int .i64 y]) (t := 41) (fr := (0, 0)) (heap_alloc_new w6 _)) (by simp [Value.oneCell']) (by omega) (by unfold maxLen; omega) (by omega) (by simp; omega) _ rfl ?_; intro gb cap w9 hown9 hgrow9 hat9 hlt9)
          have hwa := (hW5.keep (show Below w6.heap.size w6 (w6.alloc (.cells #[.int .i64 1, .int .i64 x, .int .i64 n, .int .i64 y] 41)) from (Below.refl _ _).alloc (Nat.le_refl _) _)).grown (hD.alloc _) hgrow9
          have hba := (hb5.alloc hb5.size (.cells #[.int .i64 1, .int .i64 x, .int .i64 n, .int .i64 y] 41)).grown hgrow9 (by simp; omega) (fun z hz => by have := (hD.lt z hz).1; omega)
          have HWA := Lib.hid hwa
          have HOA := Lib.hid hown9
          have HBA := Lib.hid hba
          have HDN := Lib.hid (HDO.out.snoc (o := ⟨1, x, n, y⟩) HOK.out)
          have HEN := Lib.hid (show M = encC (ds ++ [⟨1, x, n, y⟩]) by rw [encC_snoc, ← HME.out]; rw [hbO.out, HM.out])
          have hfl : flat3 (ds ++ [⟨1, x, n, y⟩]) = flat3 ds ++ [.int .i64 1, .int .i64 x, .int .i64 n, .int .i64 y] := by rw [flat3_app]; rfl
          have hln : (ds ++ [(⟨1, x, n, y⟩ : Op3)]).length = ds.length + 1 := by simp
          have HFL := Lib.hid hfl
          have hmlen : (M).length ≤ 61 * (j + 1) := by have := HML.out; omega
          clear hwa hown9 hgrow9 hat9 hba hfl hD hW5
          go_roundg (gk - 1)
          case measure => omega
          case rel => exact ⟨j + 1, ds ++ [⟨1, x, n, y⟩], M, v5, by omega, by go_num, by omega, by rw [hln]; omega, HEN, HDN, hmlen, HWA.out, by rw [HFL.out, hln]; exact HOA.out, HBA.out⟩
      · skip
        go_wp2_with fail
        obtain ⟨W, hW⟩ : ∃ W, W = wr.alloc (.cells #[.int .i64 2, .int .i64 x, .int .i64 n, .int .i64 y] 41) := ⟨_, rfl⟩
        have hbk : Below wr.heap.size wr W := by rw [hW]; exact (Below.refl _ _).alloc (Nat.le_refl _) _
        have HZ := Lib.hid (show Blk W wr.heap.size 41 #[.int .i64 2, .int .i64 x, .int .i64 n, .int .i64 y] by rw [hW]; exact Blk.new _ _ _)
        have HWW := Lib.hid (HW.out.keep hbk)
        have HDW := Lib.hid (own_keep HD.out hbk)
        have hbW := hbel.trans (hbk.mono hbel.size)
        have hsW := hbk.size
        rw [← hW]
        obtain ⟨z0, z1, z2, z3⟩ := op_cells HZ.out
        obtain ⟨zb, hzb⟩ : ∃ zb, wr.heap.size = zb := ⟨_, rfl⟩
        rw [hzb] at z0 z1 z2 z3 HZ
        try rw [hzb]
        clear hW hbk hzb k0 k1 k2 k3
        refine (WLen_any _ HWW.out).mono ?_
        rintro e w' ⟨rfl, rfl⟩
        cases hpm : Co.riceMay x n with
        | false =>
          go_wp2_with fail
          refine (PutRice_no hxb hnb _ hpm).mono ?_
          rintro e w' ⟨rfl, rfl⟩
          go_wp2_with fail
          go_roundg (gk - 1)
          case measure => omega
          case rel => exact ⟨j + 1, ds, m, v, by omega, by go_num, by omega, by omega, HME, HDO, by omega, HWW.out, HDW.out, hbW⟩
        | true =>
          obtain ⟨N, rfl⟩ := Int.eq_ofNat_of_zero_le (show 0 ≤ n from (of_decide_eq_true hpm).2.2.1)
          have hsz2 := Co.riceBits_length hpm
          rw [Int.toNat_natCast] at hsz2
          have hsb := Co.sizeRice_bd x (N : Int)
          obtain ⟨hsb0, hsb1, _⟩ := hsb
          obtain ⟨S, hS⟩ : ∃ S, Co.sizeRice x (N : Int) = S := ⟨_, rfl⟩
          rw [hS] at hsz2 hsb0 hsb1
          have HS := Lib.hid hS
          have hbO := Lib.hid (show bitsOp ⟨2, x, (N : Int), y⟩ = Co.riceBits x N by simp [bitsOp, hpm])
          have HOK := Lib.hid (show Ok3 ⟨2, x, (N : Int), y⟩ from .inr (.inr ⟨rfl, hpm⟩))
          have HPM := Lib.hid hpm
          clear hS hpm
          go_wp2_with fail
          refine (PutRice_yes (by omega) _ (by omega) HPM.out HWW.out).mono ?_
          rintro e w5 ⟨rfl, ho5⟩
          have hb5' := below_w hbW HWW.out ho5 (by omega) (by omega)
          have hD5 := own_write HDW.out HWW.out ho5
          have HZ5 := Lib.hid (HZ.out.write (by decide) (by decide) HWW.out ho5)
          obtain ⟨v5, hW5', _, _⟩ := ho5
          obtain ⟨M, hM⟩ : ∃ M, m ++ Co.riceBits x N = M := ⟨_, rfl⟩
          have hml5 : (M.length : Int) = (m.length : Int) + S := by rw [← hM, List.length_append]; omega
          rw [hM] at hW5'
          have HM := Lib.hid hM
          have HWV := Lib.hid hW5'
          have HML := Lib.hid hml5
          have hM9 : M.length ≤ 61061 := by omega
          have hwrp : IntKind.i64.wrap ((M.length : Int) - (m.length : Int)) = S := by rw [IntWalk.i64_in _ (by omega)]; omega
          obtain ⟨y0, y1, y2, y3⟩ := op_cells HZ5.out
          clear hM hml5 hW5' z0 z1 z2 z3
          go_wp2_with fail
          go_quiet ((first
            | (go_at_call 23; exact Calls.quiet_of_same ((WLen_any _ (show Wtr (w5.drewN _) gw gw v5 M from HWV.out)).mono (fun _ _ h => ⟨h.1, h.2.symm⟩)))
            | (go_at_call 18; exact Calls.quiet_of_same ((SizeRice_any _ _ ⟨by omega, by omega⟩ ⟨by omega, by omega⟩ _).mono (fun _ _ h => ⟨by rw [h.1, HS.out], h.2.symm⟩)))))
          clear hwrp HZ5 HZ
          have hW5 : Wtr (w5.drewN nq) gw gw v5 M := HWV.out
          have hD : (w5.drewN nq).ownsRow gw 41 4 (.slice AD ds.length cD) ds.length (flat3 ds) := hD5
          have hb5 := below_drewN hb5' nq
          have x0 : (w5.drewN nq).cell? ⟨zb, 0, none⟩ = _ := y0
          have x1 : (w5.drewN nq).cell? ⟨zb, 1, none⟩ = _ := y1
          have x2 : (w5.drewN nq).cell? ⟨zb, 2, none⟩ = _ := y2
          have x3 : (w5.drewN nq).cell? ⟨zb, 3, none⟩ = _ := y3
          clear y0 y1 y2 y3 HWV hD5 hb5'
          generalize w5.drewN nq = w6 at *
          have hs5 := hb5.size
          have hgw5 := hW5.1.lt
          go_wp2_with (at_builtin; refine wpList_append_lies _ rfl (.tmp 104) (.tmp 106) _ rfl gw 41 i0 _ 4 32 Tryd.underlying34 hi hz0 hz1 hz2 rfl (by omega) (.slice AD ds.length cD) ds.length _ rfl (hD.alloc _) ⟨w6.heap.size, 0, none⟩ 1 1 [.int .i64 2, .int .i64 x, .int .i64 (N : Int), .int .i64 y] rfl rfl (World.news_of_block (cs := #[.int .i64 2, .int .i64 x, .int .i64 (N : Int), .int .i64 y]) (t := 41) (fr := (0, 0)) (heap_alloc_new w6 _)) (by simp [Value.oneCell']) (by omega) (by unfold maxLen; omega) (by omega) (by simp; omega) _ rfl ?_; intro gb cap w9 hown9 hgrow9 hat9 hlt9)
          have hwa := (hW5.keep (show Below w6.heap.size w6 (w6.alloc (.cells #[.int .i64 2, .int .i64 x, .int .i64 (N : Int), .int .i64 y] 41)) from (Below.refl _ _).alloc (Nat.le_refl _) _)).grown (hD.alloc _) hgrow9
          have hba := (hb5.alloc hb5.size (.cells #[.int .i64 2, .int .i64 x, .int .i64 (N : Int), .int .i64 y] 41)).grown hgrow9 (by simp; omega) (fun z hz => by have := (hD.lt z hz).1; omega)
          have HWA := Lib.hid hwa
          have HOA := Lib.hid hown9
          have HBA := Lib.hid hba
          have HDN := Lib.hid (HDO.out.snoc (o := ⟨2, x, (N : Int), y⟩) HOK.out)
          have HEN := Lib.hid (show M = encC (ds ++ [⟨2, x, (N : Int), y⟩]) by rw [encC_snoc, ← HME.out]; rw [hbO.out, HM.out])
          have hfl : flat3 (ds ++ [⟨2, x, (N : Int), y⟩]) = flat3 ds ++ [.int .i64 2, .int .i64 x, .int .i64 (N : Int), .int .i64 y] := by rw [flat3_app]; rfl
          have hln : (ds ++ [(⟨2, x, (N : Int), y⟩ : Op3)]).length = ds.length + 1 := by simp
          have HFL := Lib.hid hfl
          have hmlen : (M).length ≤ 61 * (j + 1) := by have := HML.out; omega
          clear hwa hown9 hgrow9 hat9 hba hfl hD hW5
          go_roundg (gk - 1)
          case measure => omega
          case rel => exact ⟨j + 1, ds ++ [⟨2, x, (N : Int), y⟩], M, v5, by omega, by go_num, by omega, by rw [hln]; omega, HEN, HDN, hmlen, HWA.out, by rw [HFL.out, hln]; exact HOA.out, HBA.out⟩
      · have hk0' : (k == 0) = false := by rw [beq_eq_false_iff_ne]; exact hk0
        have hk1' : (k == 1) = false := by rw [beq_eq_false_iff_ne]; exact hk1
        have hk2' : (k == 2) = false := by rw [beq_eq_false_iff_ne]; exact hk2
        go_wp2_with fail
        obtain ⟨W, hW⟩ : ∃ W, W = wr.alloc (.cells #[.int .i64 k, .int .i64 x, .int .i64 n, .int .i64 y] 41) := ⟨_, rfl⟩
        have hbk : Below wr.heap.size wr W := by rw [hW]; exact (Below.refl _ _).alloc (Nat.le_refl _) _
        have HZ := Lib.hid (show Blk W wr.heap.size 41 #[.int .i64 k, .int .i64 x, .int .i64 n, .int .i64 y] by rw [hW]; exact Blk.new _ _ _)
        have HWW := Lib.hid (HW.out.keep hbk)
        have HDW := Lib.hid (own_keep HD.out hbk)
        have hbW := hbel.trans (hbk.mono hbel.size)
        have hsW := hbk.size
        rw [← hW]
        obtain ⟨z0, z1, z2, z3⟩ := op_cells HZ.out
        obtain ⟨zb, hzb⟩ : ∃ zb, wr.heap.size = zb := ⟨_, rfl⟩
        rw [hzb] at z0 z1 z2 z3 HZ
        try rw [hzb]
        clear hW hbk hzb k0 k1 k2 k3
        refine (WLen_any _ HWW.out).mono ?_
        rintro e w' ⟨rfl, rfl⟩
        go_wp2_with fail
        go_roundg (gk - 1)
        case measure => omega
        case rel => exact ⟨j + 1, ds, m, v, by omega, by go_num, by omega, by omega, HME, HDO, by omega, HWW.out, HDW.out, hbW⟩
    · have hj2' : (1000 : Int) ≤ (j : Int) := by omega
      have hlt' : (j : Int) < (l.length : Int) := by omega
      go_wp2_with fail
      refine (WBytes_any (by omega) _ HW.out).mono ?_
      rintro e w5 ⟨A5, c5, rfl, hown5, hb5⟩
      have hbC := hbel.trans (hb5.mono hbel.size)
      have HW5 := Lib.hid (HW.out.keep hb5)
      have HD5 := Lib.hid (own_keep HD.out hb5)
      have hrd5 := (RdI.of_own (k := .u8) (l := Bi.pack m) hown5).1
      obtain ⟨pk, hpk⟩ : ∃ pk, Bi.pack m = pk := ⟨_, rfl⟩
      have hpkl : pk.length = (m.length + 7) / 8 := by rw [← hpk, Bi.pack_length]
      have HPK := Lib.hid hpk
      have hpk9 : pk.length ≤ 1000000000 := by omega
      have HPB := Lib.hid (show ∀ z ∈ pk, 0 ≤ z ∧ z ≤ 255 by rw [← hpk]; exact Bi.pack_bd m)
      have HPKL := Lib.hid hpkl
      rw [hpk] at hrd5
      rw [hpk]
      clear hown5 hb5 hpk hpkl
      go_wp2_with fail
      refine (NewReader_any hpk9 HPB.out _ hrd5).mono ?_
      rintro e w6 ⟨gr, rfl, hr6, hlo6, hb6⟩
      have hbD := hbC.trans (hb6.mono hbC.size)
      have HR6 := Lib.hid hr6
      have HW6 := Lib.hid (HW5.out.keep hb6)
      have HD6 := Lib.hid (own_keep HD5.out hb6)
      have hgr6 := hr6.lt
      have hs5 := hbC.size
      have hgrw : w.heap.size ≤ gr := by omega
      have hgwr : gw ≠ gr := by have := HW5.out.1.lt; omega
      obtain ⟨lo, hlo⟩ : ∃ lo, w5.heap.size = lo := ⟨_, rfl⟩
      rw [hlo] at HR6
      clear hr6 hb6 hrd5 hlo
      go_wp2_with fail
      go_loopg [9] ds.length (fun k vi wx => ∃ (i : Nat), i + k = ds.length ∧ vi = .int .i64 i ∧ RdrT 74 lo gr wx gr pk (encC (ds.take i)).length ∧ Wtr wx gw gw v m ∧ wx.ownsRow gw 41 4 (.slice AD ds.length cD) ds.length (flat3 ds) ∧ Below w.heap.size w wx)
      case atStart => exact ⟨0, by omega, rfl, HR6.out, HW6.out, HD6.out, hbD⟩
      case round =>
        clear hj hlt hbel
        obtain ⟨i, hi', rfl, hrx, hwx, hdx, hbel⟩ := hrel
        have HRX := Lib.hid hrx
        have HWX := Lib.hid hwx
        have HDX := Lib.hid hdx
        clear hrx hwx
        by_cases hlt : i < ds.length
        · obtain ⟨b4, o4, hA4, s0, s1, s2, s3⟩ := (show RdO3 wr AD ds from Rd.of_own hdx).at_ hlt
          obtain ⟨⟨r, hr1⟩, hr2⟩ := encC_at ds i hlt
          rw [← HME.out] at hr1
          have hdone := HDO.out ds[i] (List.getElem_mem hlt)
          obtain ⟨P, hP⟩ : ∃ P, encC (ds.take i) = P := ⟨_, rfl⟩
          rw [hP] at hr1 hr2 HRX
          obtain ⟨o, ho⟩ : ∃ o, ds[i] = o := ⟨_, rfl⟩
          rw [ho] at s0 s1 s2 s3 hr1 hr2 hdone
          obtain ⟨k, x, n, y⟩ := o
          simp only [] at s0 s1 s2 s3 hdone
          have hlt' : (i : Int) < (ds.length : Int) := by omega
          subst hA4
          have HR1 := Lib.hid hr1
          have HR2 := Lib.hid hr2
          have HDN := Lib.hid hdone
          have hbk : Below wr.heap.size wr (wr.alloc (.cells #[.int .i64 k, .int .i64 x, .int .i64 n, .int .i64 y] 41)) := (Below.refl _ _).alloc (Nat.le_refl _) _
          have hnb := Blk.new wr 41 #[.int .i64 k, .int .i64 x, .int .i64 n, .int .i64 y]
          have HRY := Lib.hid (HRX.out.keep hbk)
          have HWY := Lib.hid (HWX.out.keep hbk)
          have HDY := Lib.hid (own_keep hdx hbk)
          have hbY := hbel.trans (hbk.mono hbel.size)
          have HNB := Lib.hid hnb
          have hszr := hbel.size
          have hgrl := HRX.out.lt
          clear hr1 hr2 hP ho hdone hdx hbk hnb
          rcases HDN.out with ⟨hk, hmy⟩ | ⟨hk, hmy⟩ | ⟨hk, hmy⟩
          · simp only at hk hmy
            subst hk
            have hbO : bitsOp ⟨0, x, n, y⟩ = Co.ueBits x := by simp [bitsOp, hmy]
            have hc1 := HR1.out
            have hc2 := HR2.out
            rw [hbO] at hc1 hc2
            have hgt := back_ue hc1 hmy
            rw [HPK.out] at hgt
            have HC := Lib.hid (GetUe_any x hpk9 _ HRY.out)
            rw [hgt] at HC
            have HEN := Lib.hid (show (encC (ds.take (i + 1))).length = P.length + (Co.ueBits x).length by rw [hc2, List.length_append])
            clear hc1 hc2 hgt hbO
            go_wp2_with fail
            refine HC.out.mono ?_
            rintro e w8 ⟨v8, rfl, he8, ho8⟩
            rcases he8 with ⟨_, _, rfl⟩ | ⟨h0, _⟩
            rotate_left 1
            · exact absurd rfl h0
            simp only [gotV]
            have HR8 := Lib.hid ho8.1
            have HW8 := Lib.hid (HWY.out.read HRY.out ho8)
            have HD8 := Lib.hid (own_read HDY.out HRY.out ho8)
            have hb8 := below_chg hbY ho8.2 hbY.size (fun z hz => by omega)
            have hn8 := HNB.out.chg ho8.2 (by omega)
            have e1 : w8.cell? ⟨wr.heap.size, 1, none⟩ = some (.int .i64 x) := by rw [hn8.cell]; rfl
            clear ho8 hn8
            go_wp2_with fail
            go_roundg (gk - 1)
            case measure => omega
            case rel => exact ⟨i + 1, by omega, by go_num, by rw [HEN.out]; exact HR8.out, HW8.out, HD8.out, hb8⟩
          · simp only at hk hmy
            subst hk
            have hxr := of_decide_eq_true hmy
            have hbO : bitsOp ⟨1, x, n, y⟩ = Co.ueBits (Co.fold x) := by simp [bitsOp, hmy]
            have hc1 := HR1.out
            have hc2 := HR2.out
            rw [hbO] at hc1 hc2
            have hgt := back_se hc1 hmy
            rw [HPK.out] at hgt
            have HC := Lib.hid (GetSe_any (max x (-x)) hpk9 _ HRY.out)
            rw [hgt] at HC
            have HEN := Lib.hid (show (encC (ds.take (i + 1))).length = P.length + (Co.ueBits (Co.fold x)).length by rw [hc2, List.length_append])
            clear hc1 hc2 hgt hbO
            go_wp2_with fail
            refine HC.out.mono ?_
            rintro e w8 ⟨v8, rfl, he8, ho8⟩
            rcases he8 with ⟨_, _, rfl⟩ | ⟨h0, _⟩
            rotate_left 1
            · exact absurd rfl h0
            simp only [gotV]
            have HR8 := Lib.hid ho8.1
            have HW8 := Lib.hid (HWY.out.read HRY.out ho8)
            have HD8 := Lib.hid (own_read HDY.out HRY.out ho8)
            have hb8 := below_chg hbY ho8.2 hbY.size (fun z hz => by omega)
            have hn8 := HNB.out.chg ho8.2 (by omega)
            have e1 : w8.cell? ⟨wr.heap.size, 1, none⟩ = some (.int .i64 x) := by rw [hn8.cell]; rfl
            clear ho8 hn8
            go_wp2_with fail
            go_roundg (gk - 1)
            case measure => omega
            case rel => exact ⟨i + 1, by omega, by go_num, by rw [HEN.out]; exact HR8.out, HW8.out, HD8.out, hb8⟩
          · simp only at hk hmy
            subst hk
            have hrm := of_decide_eq_true hmy
            obtain ⟨N, rfl⟩ := Int.eq_ofNat_of_zero_le hrm.2.2.1
            have hbO : bitsOp ⟨2, x, (N : Int), y⟩ = Co.riceBits x N := by simp [bitsOp, hmy]
            have hc1 := HR1.out
            have hc2 := HR2.out
            rw [hbO] at hc1 hc2
            have hgt := back_rice hc1 hmy
            rw [HPK.out] at hgt
            have HC := Lib.hid (GetRice_any (k := N) x (by omega) hpk9 _ HRY.out)
            rw [hgt] at HC
            have HEN := Lib.hid (show (encC (ds.take (i + 1))).length = P.length + (Co.riceBits x N).length by rw [hc2, List.length_append])
            clear hc1 hc2 hgt hbO
            go_wp2_with fail
            refine HC.out.mono ?_
            rintro e w8 ⟨v8, rfl, he8, ho8⟩
            rcases he8 with ⟨_, _, rfl⟩ | ⟨h0, _⟩
            rotate_left 1
            · exact absurd rfl h0
            simp only [gotV]
            have HR8 := Lib.hid ho8.1
            have HW8 := Lib.hid (HWY.out.read HRY.out ho8)
            have HD8 := Lib.hid (own_read HDY.out HRY.out ho8)
            have hb8 := below_chg hbY ho8.2 hbY.size (fun z hz => by omega)
            have hn8 := HNB.out.chg ho8.2 (by omega)
            have e1 : w8.cell? ⟨wr.heap.size, 1, none⟩ = some (.int .i64 x) := by rw [hn8.cell]; rfl
            clear ho8 hn8
            go_wp2_with fail
            go_roundg (gk - 1)
            case measure => omega
            case rel => exact ⟨i + 1, by omega, by go_num, by rw [HEN.out]; exact HR8.out, HW8.out, HD8.out, hb8⟩
        · have hge : (ds.length : Int) ≤ (i : Int) := by omega
          have hall : (encC (ds.take i)).length = m.length := by rw [List.take_of_length_le (by omega), ← HME.out]
          rw [hall] at HRX
          clear hall hlt hi' hdx
          go_wp2_with fail
          refine (first_true _ (HG.out.keep hbel)).mono ?_
          rintro e w8 ⟨rfl, hb8⟩
          have hbE := hbel.trans (hb8.mono hbel.size)
          have HR8 := Lib.hid (HRX.out.keep hb8)
          have HW8 := Lib.hid (HWX.out.keep hb8)
          clear hge
          go_wp2_with fail
          refine (Place_any _ HR8.out).mono ?_
          rintro e w9 ⟨rfl, rfl⟩
          go_wp2_with fail
          refine (WLen_any _ HW8.out).mono ?_
          rintro e w9 ⟨rfl, rfl⟩
          go_wp2_with fail
          go_ret
          exact ⟨rfl, hbE⟩
    · go_wp2_with fail
      refine (WBytes_any (by omega) _ HW.out).mono ?_
      rintro e w5 ⟨A5, c5, rfl, hown5, hb5⟩
      have hbC := hbel.trans (hb5.mono hbel.size)
      have HW5 := Lib.hid (HW.out.keep hb5)
      have HD5 := Lib.hid (own_keep HD.out hb5)
      have hrd5 := (RdI.of_own (k := .u8) (l := Bi.pack m) hown5).1
      obtain ⟨pk, hpk⟩ : ∃ pk, Bi.pack m = pk := ⟨_, rfl⟩
      have hpkl : pk.length = (m.length + 7) / 8 := by rw [← hpk, Bi.pack_length]
      have HPK := Lib.hid hpk
      have hpk9 : pk.length ≤ 1000000000 := by omega
      have HPB := Lib.hid (show ∀ z ∈ pk, 0 ≤ z ∧ z ≤ 255 by rw [← hpk]; exact Bi.pack_bd m)
      have HPKL := Lib.hid hpkl
      rw [hpk] at hrd5
      rw [hpk]
      clear hown5 hb5 hpk hpkl
      go_wp2_with fail
      refine (NewReader_any hpk9 HPB.out _ hrd5).mono ?_
      rintro e w6 ⟨gr, rfl, hr6, hlo6, hb6⟩
      have hbD := hbC.trans (hb6.mono hbC.size)
      have HR6 := Lib.hid hr6
      have HW6 := Lib.hid (HW5.out.keep hb6)
      have HD6 := Lib.hid (own_keep HD5.out hb6)
      have hgr6 := hr6.lt
      have hs5 := hbC.size
      have hgrw : w.heap.size ≤ gr := by omega
      have hgwr : gw ≠ gr := by have := HW5.out.1.lt; omega
      obtain ⟨lo, hlo⟩ : ∃ lo, w5.heap.size = lo := ⟨_, rfl⟩
      rw [hlo] at HR6
      clear hr6 hb6 hrd5 hlo
      go_wp2_with fail
      go_loopg [9] ds.length (fun k vi wx => ∃ (i : Nat), i + k = ds.length ∧ vi = .int .i64 i ∧ RdrT 74 lo gr wx gr pk (encC (ds.take i)).length ∧ Wtr wx gw gw v m ∧ wx.ownsRow gw 41 4 (.slice AD ds.length cD) ds.length (flat3 ds) ∧ Below w.heap.size w wx)
      case atStart => exact ⟨0, by omega, rfl, HR6.out, HW6.out, HD6.out, hbD⟩
      case round =>
        clear hj hlt hbel
        obtain ⟨i, hi', rfl, hrx, hwx, hdx, hbel⟩ := hrel
        have HRX := Lib.hid hrx
        have HWX := Lib.hid hwx
        have HDX := Lib.hid hdx
        clear hrx hwx
        by_cases hlt : i < ds.length
        · obtain ⟨b4, o4, hA4, s0, s1, s2, s3⟩ := (show RdO3 wr AD ds from Rd.of_own hdx).at_ hlt
          obtain ⟨⟨r, hr1⟩, hr2⟩ := encC_at ds i hlt
          rw [← HME.out] at hr1
          have hdone := HDO.out ds[i] (List.getElem_mem hlt)
          obtain ⟨P, hP⟩ : ∃ P, encC (ds.take i) = P := ⟨_, rfl⟩
          rw [hP] at hr1 hr2 HRX
          obtain ⟨o, ho⟩ : ∃ o, ds[i] = o := ⟨_, rfl⟩
          rw [ho] at s0 s1 s2 s3 hr1 hr2 hdone
          obtain ⟨k, x, n, y⟩ := o
          simp only [] at s0 s1 s2 s3 hdone
          have hlt' : (i : Int) < (ds.length : Int) := by omega
          subst hA4
          have HR1 := Lib.hid hr1
          have HR2 := Lib.hid hr2
          have HDN := Lib.hid hdone
          have hbk : Below wr.heap.size wr (wr.alloc (.cells #[.int .i64 k, .int .i64 x, .int .i64 n, .int .i64 y] 41)) := (Below.refl _ _).alloc (Nat.le_refl _) _
          have hnb := Blk.new wr 41 #[.int .i64 k, .int .i64 x, .int .i64 n, .int .i64 y]
          have HRY := Lib.hid (HRX.out.keep hbk)
          have HWY := Lib.hid (HWX.out.keep hbk)
          have HDY := Lib.hid (own_keep hdx hbk)
          have hbY := hbel.trans (hbk.mono hbel.size)
          have HNB := Lib.hid hnb
          have hszr := hbel.size
          have hgrl := HRX.out.lt
          clear hr1 hr2 hP ho hdone hdx hbk hnb
          rcases HDN.out with ⟨hk, hmy⟩ | ⟨hk, hmy⟩ | ⟨hk, hmy⟩
          · simp only at hk hmy
            subst hk
            have hbO : bitsOp ⟨0, x, n, y⟩ = Co.ueBits x := by simp [bitsOp, hmy]
            have hc1 := HR1.out
            have hc2 := HR2.out
            rw [hbO] at hc1 hc2
            have hgt := back_ue hc1 hmy
            rw [HPK.out] at hgt
            have HC := Lib.hid (GetUe_any x hpk9 _ HRY.out)
            rw [hgt] at HC
            have HEN := Lib.hid (show (encC (ds.take (i + 1))).length = P.length + (Co.ueBits x).length by rw [hc2, List.length_append])
            clear hc1 hc2 hgt hbO
            go_wp2_with fail
            refine HC.out.mono ?_
            rintro e w8 ⟨v8, rfl, he8, ho8⟩
            rcases he8 with ⟨_, _, rfl⟩ | ⟨h0, _⟩
            rotate_left 1
            · exact absurd rfl h0
            simp only [gotV]
            have HR8 := Lib.hid ho8.1
            have HW8 := Lib.hid (HWY.out.read HRY.out ho8)
            have HD8 := Lib.hid (own_read HDY.out HRY.out ho8)
            have hb8 := below_chg hbY ho8.2 hbY.size (fun z hz => by omega)
            have hn8 := HNB.out.chg ho8.2 (by omega)
            have e1 : w8.cell? ⟨wr.heap.size, 1, none⟩ = some (.int .i64 x) := by rw [hn8.cell]; rfl
            clear ho8 hn8
            go_wp2_with fail
            go_roundg (gk - 1)
            case measure => omega
            case rel => exact ⟨i + 1, by omega, by go_num, by rw [HEN.out]; exact HR8.out, HW8.out, HD8.out, hb8⟩
          · simp only at hk hmy
            subst hk
            have hxr := of_decide_eq_true hmy
            have hbO : bitsOp ⟨1, x, n, y⟩ = Co.ueBits (Co.fold x) := by simp [bitsOp, hmy]
            have hc1 := HR1.out
            have hc2 := HR2.out
            rw [hbO] at hc1 hc2
            have hgt := back_se hc1 hmy
            rw [HPK.out] at hgt
            have HC := Lib.hid (GetSe_any (max x (-x)) hpk9 _ HRY.out)
            rw [hgt] at HC
            have HEN := Lib.hid (show (encC (ds.take (i + 1))).length = P.length + (Co.ueBits (Co.fold x)).length by rw [hc2, List.length_append])
            clear hc1 hc2 hgt hbO
            go_wp2_with fail
            refine HC.out.mono ?_
            rintro e w8 ⟨v8, rfl, he8, ho8⟩
            rcases he8 with ⟨_, _, rfl⟩ | ⟨h0, _⟩
            rotate_left 1
            · exact absurd rfl h0
            simp only [gotV]
            have HR8 := Lib.hid ho8.1
            have HW8 := Lib.hid (HWY.out.read HRY.out ho8)
            have HD8 := Lib.hid (own_read HDY.out HRY.out ho8)
            have hb8 := below_chg hbY ho8.2 hbY.size (fun z hz => by omega)
            have hn8 := HNB.out.chg ho8.2 (by omega)
            have e1 : w8.cell? ⟨wr.heap.size, 1, none⟩ = some (.int .i64 x) := by rw [hn8.cell]; rfl
            clear ho8 hn8
            go_wp2_with fail
            go_roundg (gk - 1)
            case measure => omega
            case rel => exact ⟨i + 1, by omega, by go_num, by rw [HEN.out]; exact HR8.out, HW8.out, HD8.out, hb8⟩
          · simp only at hk hmy
            subst hk
            have hrm := of_decide_eq_true hmy
            obtain ⟨N, rfl⟩ := Int.eq_ofNat_of_zero_le hrm.2.2.1
            have hbO : bitsOp ⟨2, x, (N : Int), y⟩ = Co.riceBits x N := by simp [bitsOp, hmy]
            have hc1 := HR1.out
            have hc2 := HR2.out
            rw [hbO] at hc1 hc2
            have hgt := back_rice hc1 hmy
            rw [HPK.out] at hgt
            have HC := Lib.hid (GetRice_any (k := N) x (by omega) hpk9 _ HRY.out)
            rw [hgt] at HC
            have HEN := Lib.hid (show (encC (ds.take (i + 1))).length = P.length + (Co.riceBits x N).length by rw [hc2, List.length_append])
            clear hc1 hc2 hgt hbO
            go_wp2_with fail
            refine HC.out.mono ?_
            rintro e w8 ⟨v8, rfl, he8, ho8⟩
            rcases he8 with ⟨_, _, rfl⟩ | ⟨h0, _⟩
            rotate_left 1
            · exact absurd rfl h0
            simp only [gotV]
            have HR8 := Lib.hid ho8.1
            have HW8 := Lib.hid (HWY.out.read HRY.out ho8)
            have HD8 := Lib.hid (own_read HDY.out HRY.out ho8)
            have hb8 := below_chg hbY ho8.2 hbY.size (fun z hz => by omega)
            have hn8 := HNB.out.chg ho8.2 (by omega)
            have e1 : w8.cell? ⟨wr.heap.size, 1, none⟩ = some (.int .i64 x) := by rw [hn8.cell]; rfl
            clear ho8 hn8
            go_wp2_with fail
            go_roundg (gk - 1)
            case measure => omega
            case rel => exact ⟨i + 1, by omega, by go_num, by rw [HEN.out]; exact HR8.out, HW8.out, HD8.out, hb8⟩
        · have hge : (ds.length : Int) ≤ (i : Int) := by omega
          have hall : (encC (ds.take i)).length = m.length := by rw [List.take_of_length_le (by omega), ← HME.out]
          rw [hall] at HRX
          clear hall hlt hi' hdx
          go_wp2_with fail
          refine (first_true _ (HG.out.keep hbel)).mono ?_
          rintro e w8 ⟨rfl, hb8⟩
          have hbE := hbel.trans (hb8.mono hbel.size)
          have HR8 := Lib.hid (HRX.out.keep hb8)
          have HW8 := Lib.hid (HWX.out.keep hb8)
          clear hge
          go_wp2_with fail
          refine (Place_any _ HR8.out).mono ?_
          rintro e w9 ⟨rfl, rfl⟩
          go_wp2_with fail
          refine (WLen_any _ HW8.out).mono ?_
          rintro e w9 ⟨rfl, rfl⟩
          go_wp2_with fail
          go_ret
          exact ⟨rfl, hbE⟩

end Go.Proofs.YtdanjeoiandjfaaDoor
