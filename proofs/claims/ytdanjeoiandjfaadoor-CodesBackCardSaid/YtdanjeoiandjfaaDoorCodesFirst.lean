/- The walk of kinlaw3.first: it returns true. -/
import Derived.Test.YtdanjeoiandjfaaDoorCodesRR3
namespace Go.Proofs.YtdanjeoiandjfaaDoor
open Go Go.RowKit Go.Extern.Stop Go.Stop Go.Extern

theorem ErrR.iface {w : World} {p : List (ByteArray × Int)} {c : Int} {v : Value} (h : ErrR w p c v) (hc : c ≠ 0) : ∃ T y, v = .iface T y := by
  rcases h with ⟨h0, _⟩ | ⟨_, h1⟩
  · exact absurd h0 hc
  · exact h1.iface

set_option maxRecDepth 100000 in
set_option maxHeartbeats 2000000 in
theorem first_true (w : World) (hg : Gl w) : Calls Tryd.prog 11 #[] w fun e w' => e = .returned (.bool true) ∧ Below w.heap.size w w' := by
  have HG := Lib.hid hg
  clear hg
  go_enter Tryd.func11, Tryd.ntmps11
  go_wp2_with fail
  refine (NewWriter_any _).mono ?_
  rintro e w1 ⟨rfl, rfl⟩
  obtain ⟨W1, hW1⟩ : ∃ W, W = w.alloc (.cells #[.slice none 0 0, .int .i64 0] 68) := ⟨_, rfl⟩
  have hw1 : Wtr W1 w.heap.size w.heap.size (.slice none 0 0) [] := by rw [hW1]; exact Wtr.new _ _
  have hb1 : Below w.heap.size w W1 := by rw [hW1]; exact (Below.refl _ _).alloc (Nat.le_refl _) _
  have hs1 : W1.heap.size = w.heap.size + 1 := by rw [hW1]; simp
  rw [← hW1]
  have HW1 := Lib.hid hW1
  have HS1 := Lib.hid hs1
  clear hW1 hs1
  go_wp2_with fail
  refine (NewReader_any (b := [56]) (A := some ⟨W1.heap.size, 0, none⟩) (c := 1) (by simp) (by simp) _ (RdI.of_blk (Blk.new _ _ _) rfl)).mono ?_
  rintro e w2 ⟨gr, rfl, hr2, hlo, hb2⟩
  have hloe : (W1.alloc (.cells (List.map (Value.int .u8) [56]).toArray 5)).heap.size = w.heap.size + 2 := by simp; have := HS1.out; omega
  rw [hloe] at hr2 hlo
  have hbA : Below W1.heap.size W1 w2 := ((Below.refl _ _).alloc (Nat.le_refl _) _).trans (hb2.mono (by simp))
  have hw2 := hw1.keep hbA
  have hbB := hb1.trans (hbA.mono hb1.size)
  have hlt2 := hr2.lt
  have HR2 := Lib.hid hr2
  clear hr2 hw1 hb2 hbA hb1 hloe
  go_wp2_with fail
  refine (PutRice_yes (l := []) (x := 9) (k := 2) (by simp) _ hbB.size (by decide) hw2).mono ?_
  rintro e w3 ⟨rfl, ho3⟩
  have hr3 := HR2.out.write ho3 (by omega) (by omega) (fun i hi => by simp [Value.ownBlock] at hi)
  obtain ⟨v3, hw3, hc3, hv3⟩ := ho3
  have hv3' : ∀ i, v3.ownBlock = some i → gr < i := fun i hi => by
    rcases hv3 i hi with h | h
    · simp [Value.ownBlock] at h
    · omega
  have hbC := below_chg hbB hc3 hbB.size (fun i hi => by rcases hi with rfl | hi
                                                         · omega
                                                         · simp [Value.ownBlock] at hi)
  have HR3 := Lib.hid hr3
  have HW3 := Lib.hid hw3
  have HV3 := Lib.hid hv3'
  have e3 : ([] ++ Co.riceBits 9 2 : List Bool) = [true, true, false, false, true] := by decide
  rw [e3] at HW3
  clear hr3 hw3 hc3 hv3 hv3' hw2 e3
  go_wp2_with fail
  refine (PutUe_yes (x := 6) (by simp) _ hbC.size (by decide) HW3.out).mono ?_
  rintro e w4 ⟨rfl, ho4⟩
  have hr4 := HR3.out.write ho4 (by omega) (by omega) (fun i hi => by have := HV3.out i hi; omega)
  obtain ⟨v4, hw4, hc4, hv4⟩ := ho4
  have hbD := below_chg hbC hc4 hbC.size (fun i hi => by rcases hi with rfl | hi
                                                         · omega
                                                         · have := HV3.out i hi; omega)
  have e4 : ([true, true, false, false, true] ++ Co.ueBits 6 : List Bool) = [true, true, false, false, true, false, false, true, true, true] := by decide
  rw [e4] at hw4
  have HR4 := Lib.hid hr4
  have HW4 := Lib.hid hw4
  clear hr4 hw4 hc4 hv4 e4
  go_wp2_with fail
  have e5 : Co.getUe [56] (8 * ([56] : List Int).length) 0 5 = (.range 5, 5) := rfl
  have HG5 := Lib.hid (GetUe_any 5 (by simp) _ HR4.out)
  rw [e5] at HG5
  refine HG5.out.mono ?_
  rintro e w5 ⟨v5, rfl, he5, ho5⟩
  have hw5 := HW4.out.read HR4.out ho5
  have hbE := below_chg hbD ho5.2 hbD.size (fun i hi => by omega)
  have HW5 := Lib.hid hw5
  have HE5 := Lib.hid he5
  simp only [gotV]
  clear hw5 ho5 he5 e5 HG5
  go_wp2_with fail
  refine (WLen_any _ HW5.out).mono ?_
  rintro e w5' ⟨rfl, rfl⟩
  simp only [List.length_cons, List.length_nil]
  go_wp2_with fail
  refine (WBytes_any (by simp) _ HW5.out).mono ?_
  rintro e w9 ⟨A9, c9, rfl, hown9, hb9⟩
  have hpk : Bi.pack [true, true, false, false, true, false, false, true, true, true] = [201, 192] := by decide
  rw [hpk] at hown9 ⊢
  have hbI := hbE.trans (hb9.mono hbE.size)
  have HE9 := Lib.hid (HE5.out.keep hb9)
  have hso : strOf [201, 192] = ⟨#[201, 192]⟩ := by decide
  have hcv : (convert 43 9 (.slice A9 2 c9)).run Tryd.prog w9 = .ok (.string ⟨#[201, 192]⟩) w9 := by rw [← hso]; exact conv_rd (c := c9) w9 (RdI.of_own hown9).1
  clear hpk hso hown9 hb9
  go_wp2_with fail
  refine (Fold_any (-3) (by omega) _).mono ?_
  rintro e w' ⟨rfl, rfl⟩
  rw [show Co.fold (-3) = 6 from rfl]
  go_wp2_with fail
  refine (Unfold_any 5 (by omega) _).mono ?_
  rintro e w' ⟨rfl, rfl⟩
  rw [show Co.unfold' 5 = 3 from rfl]
  go_wp2_with fail
  refine (SizeUe_any 0 (by omega) _).mono ?_
  rintro e w' ⟨rfl, rfl⟩
  rw [show Co.sizeUe 0 = 1 from rfl]
  go_wp2_with fail
  refine (SizeRice_any 9 2 (by omega) (by omega) _).mono ?_
  rintro e w' ⟨rfl, rfl⟩
  rw [show Co.sizeRice 9 2 = 5 from rfl]
  go_wp2_with fail
  refine (Wrap_any sCodes 5 (c := 3) (by omega) _).mono ?_
  rintro e w10 ⟨A10, c10, rfl, hr10, _, hb10⟩
  have hbJ := hbI.trans (hb10.mono hbI.size)
  go_wp2_with fail
  refine (Err_res (p := [(sCodes, 5)]) (c := 3) (A := A10) (cap := c10) (by simp) _ (HG.out.keep hbJ) (HE9.out.keep hb10) hr10).mono ?_
  rintro e w11 ⟨rfl, hb11⟩
  go_wp2_with fail
  go_ret
  exact ⟨rfl, hbJ.trans (hb11.mono hbJ.size)⟩

end Go.Proofs.YtdanjeoiandjfaaDoor
