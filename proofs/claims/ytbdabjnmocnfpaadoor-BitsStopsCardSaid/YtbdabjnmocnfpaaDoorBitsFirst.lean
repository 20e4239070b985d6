/- The walk of kinlaw2.first: it returns true. -/
import Derived.Test.YtbdabjnmocnfpaaDoorBitsRef3
namespace Go.Proofs.YtbdabjnmocnfpaaDoor
open Go Go.RowKit Go.Extern.Stop Go.Stop Go.Extern

/-- A writer is as it was where its blocks are. -/
theorem Wtr.chg {S : Nat → Prop} {w w' : World} {B g : Nat} {v : Value} {l : List Bool} (h : Wtr w B g v l) (hc : Chg S w w') (hg : ¬ S g) (hv : ∀ i, v.ownBlock = some i → ¬ S i) : Wtr w' B g v l := ⟨h.1.chg hc hg, own_chg h.2 hc hv⟩
theorem Wtr.keep {w w' : World} {B g : Nat} {v : Value} {l : List Bool} (h : Wtr w B g v l) (hb : Below w.heap.size w w') : Wtr w' B g v l := h.chg (Chg.of_below (S := fun _ => False) hb) (fun h => h) (fun _ _ h => h)
/-- A reader's call leaves a writer as it is. -/
theorem Wtr.read {lo hi : Nat} {w w' : World} {B g gr q n : Nat} {v : Value} {l : List Bool} {b : List Int} (h : Wtr w B g v l) (hr : RdrT 75 lo hi w gr b n) (ho : ROut 75 lo hi w gr b q w') : Wtr w' B g v l := by
  obtain ⟨_, _, A, c, hblk, _⟩ := hr
  refine h.chg ho.2 ?_ ?_
  · exact Blk.apart h.1 hblk (by decide)
  · rintro i hi rfl
    exact own_notBlk h.2 hblk (by decide) hi
/-- A writer's call leaves a reader as it is that lies wholly behind its header and not in its row. -/
theorem RdrT.write {t : TypeId} {lo hi : Nat} {w w' : World} {B g gr n : Nat} {v : Value} {l : List Bool} {b : List Int} (h : RdrT t lo hi w gr b n) (ho : WOut w B g v l w') (hne : g ≠ gr) (hg : g < lo ∨ hi ≤ g) (hv : ∀ i, v.ownBlock = some i → i ≠ gr ∧ (i < lo ∨ hi ≤ i)) : RdrT t lo hi w' gr b n := by
  obtain ⟨_, _, hc, _⟩ := ho
  refine h.chg hc (fun hS => ?_) (fun i h1 h2 hS => ?_)
  · rcases hS with e | hS
    · exact hne e.symm
    · exact (hv _ hS).1 rfl
  · rcases hS with rfl | hS
    · omega
    · have := hv i hS; omega

theorem gl_chg {S : Nat → Prop} {w w' : World} (h : Gl w) (hc : Chg S w w') (hS : ¬ S 0) : Gl w' := cell_chg h hc hS
theorem gl_lt {w : World} (h : Gl w) : 0 < w.heap.size := lt_of_cell h

set_option maxRecDepth 100000 in
set_option maxHeartbeats 1000000 in
theorem first_true (w : World) (hg : Gl w) : Calls Tryd.prog 9 #[] w fun e w' => e = .returned (.bool true) ∧ Below w.heap.size w w' := by
  have HG := Lib.hid hg
  clear hg
  go_enter Tryd.func9, Tryd.ntmps9
  go_wp2_with fail
  refine (NewWriter_any _).mono ?_
  rintro e w1 ⟨rfl, rfl⟩
  obtain ⟨W1, hW1⟩ : ∃ W, W = w.alloc (.cells #[.slice none 0 0, .int .i64 0] 68) := ⟨_, rfl⟩
  have hw1 : Wtr W1 w.heap.size w.heap.size (.slice none 0 0) [] := by rw [hW1]; exact Wtr.new _ _
  have hb1 : Below w.heap.size w W1 := by rw [hW1]; exact (Below.refl _ _).alloc (Nat.le_refl _) _
  have hs1 : W1.heap.size = w.heap.size + 1 := by rw [hW1]; simp
  rw [← hW1]
  have HW1 := Lib.hid hW1
  have HS1 := Lib.hid hs1
  clear hW1 hs1
  go_wp2_with fail
  refine (NewReader_any (b := [176]) (A := some ⟨W1.heap.size, 0, none⟩) (c := 1) (by simp) (by simp) _ (RdI.of_blk (Blk.new _ _ _) rfl)).mono ?_
  rintro e w2 ⟨gr, rfl, hr2, hlo, hb2⟩
  have hloe : (W1.alloc (.cells (List.map (Value.int .u8) [176]).toArray 5)).heap.size = w.heap.size + 2 := by simp; have := HS1.out; omega
  rw [hloe] at hr2 hlo
  have hbA : Below W1.heap.size W1 w2 := ((Below.refl _ _).alloc (Nat.le_refl _) _).trans (hb2.mono (by simp))
  have hw2 := hw1.keep hbA
  have hbB := hb1.trans (hbA.mono hb1.size)
  have hlt2 := hr2.lt
  have HR2 := Lib.hid hr2
  clear hr2 hw1 hb2 hbA hb1 hloe
  go_wp2_with fail
  refine (Put_yes (l := []) (x := 5) (n := 3) (by simp) _ hbB.size (by omega) (by omega) (by decide) hw2).mono ?_
  rintro e w3 ⟨rfl, ho3⟩
  have hr3 := HR2.out.write ho3 (by omega) (by omega) (fun i hi => by simp [Value.ownBlock] at hi)
  obtain ⟨v3, hw3, hc3, hv3⟩ := ho3
  have hv3' : ∀ i, v3.ownBlock = some i → gr < i := fun i hi => by
    rcases hv3 i hi with h | h
    · simp [Value.ownBlock] at h
    · omega
  have hbC := below_chg hbB hc3 hbB.size (fun i hi => by rcases hi with rfl | hi
                                                         · omega
                                                         · simp [Value.ownBlock] at hi)
  have HR3 := Lib.hid hr3
  have HW3 := Lib.hid hw3
  have HV3 := Lib.hid hv3'
  have hl3 : ([] ++ Bi.bitsOf 5 3 : List Bool).length ≤ 1000000000 := by simp [Bi.bitsOf_length]
  clear hr3 hw3 hc3 hv3 hv3' hw2
  go_wp2_with fail
  refine (WFlag_any hl3 _ hbC.size HW3.out).mono ?_
  rintro e w4 ⟨rfl, ho4⟩
  have hr4 := HR3.out.write ho4 (by omega) (by omega) (fun i hi => by have := HV3.out i hi; omega)
  obtain ⟨v4, hw4, hc4, hv4⟩ := ho4
  have hbD := below_chg hbC hc4 hbC.size (fun i hi => by rcases hi with rfl | hi
                                                         · omega
                                                         · have := HV3.out i hi; omega)
  have HR4 := Lib.hid hr4
  have HW4 := Lib.hid hw4
  clear hr4 hw4 hc4 hv4
  go_wp2_with fail
  refine (Put_no (x := 8) (n := 3) _ (by decide)).mono ?_
  rintro e w4' ⟨rfl, rfl⟩
  go_wp2_with fail
  refine (Get_ok (n := 3) (by simp) (by omega) (by simp) _ HR4.out).mono ?_
  rintro e w5 ⟨rfl, ho5⟩
  have hw5 := HW4.out.read HR4.out ho5
  have hbE := below_chg hbD ho5.2 hbD.size (fun i hi => by omega)
  have HR5 := Lib.hid ho5.1
  have HW5 := Lib.hid hw5
  have hnum : Bi.num [176] 0 3 = 5 := by decide
  rw [hnum]
  clear hw5 ho5 hnum
  go_wp2_with fail
  refine (Get_short (n := 6) (by simp) (by omega) (by simp) _ HR5.out).mono ?_
  rintro e w6 ⟨v6, rfl, he6, hb6⟩
  have hbF := hbE.trans (hb6.mono hbE.size)
  have HW6 := Lib.hid (HW5.out.keep hb6)
  have HE6 := Lib.hid he6
  clear he6 hb6
  go_wp2_with fail
  refine (Fail_any _ _).mono ?_
  rintro e w7 ⟨rfl, hb7⟩
  have hbG := hbF.trans (hb7.mono hbF.size)
  have HW7 := Lib.hid (HW6.out.keep hb7)
  have HE7 := Lib.hid (HE6.out.below hb7)
  clear hb7
  go_wp2_with fail
  refine (Err_some (path := []) (c := 3) (A := none) (cap := 0) (by simp) (by omega) _ (HG.out.keep hbG) rfl Rd.nil).mono ?_
  rintro e w8 ⟨rfl, hb8⟩
  have hbH := hbG.trans (hb8.mono hbG.size)
  have HW8 := Lib.hid (HW7.out.keep hb8)
  have HE8 := Lib.hid (HE7.out.below hb8)
  clear hb8
  have hl4 : ([] ++ Bi.bitsOf 5 3 ++ [true] : List Bool).length ≤ 1000000000 := by simp [Bi.bitsOf_length]
  go_wp2_with fail
  refine (WBytes_any hl4 _ HW8.out).mono ?_
  rintro e w9 ⟨A9, c9, rfl, hown9, hb9⟩
  have hpk : Bi.pack ([] ++ Bi.bitsOf 5 3 ++ [true]) = [176] := by decide
  rw [hpk] at hown9 ⊢
  have hbI := hbH.trans (hb9.mono hbH.size)
  have HW9 := Lib.hid (HW8.out.keep hb9)
  have HE9 := Lib.hid (HE8.out.below hb9)
  have hso : strOf [176] = ⟨#[176]⟩ := by decide
  have hcv : (convert 43 9 (.slice A9 1 c9)).run Tryd.prog w9 = .ok (.string ⟨#[176]⟩) w9 := by rw [← hso]; exact conv_rd (c := c9) w9 (RdI.of_own hown9).1
  clear hpk hso hown9 hb9
  go_wp2_with fail
  refine (WLen_any _ HW9.out).mono ?_
  rintro e w9' ⟨rfl, rfl⟩
  have hln : ([] ++ Bi.bitsOf 5 3 ++ [true] : List Bool).length = 4 := by simp [Bi.bitsOf_length]
  rw [hln]
  clear hln hcv
  go_wp2_with fail
  refine (Wrap_any sBits 3 (c := 1) (by omega) _).mono ?_
  rintro e w10 ⟨A10, c10, rfl, hr10, _, hb10⟩
  have hbJ := hbI.trans (hb10.mono hbI.size)
  go_wp2_with fail
  refine (Err_some (path := [(sBits, 3)]) (c := 1) (A := A10) (cap := c10) (by simp) (by omega) _ (HG.out.keep hbJ) (HE9.out.below hb10) hr10).mono ?_
  rintro e w11 ⟨rfl, hb11⟩
  go_wp2_with fail
  go_ret
  exact ⟨rfl, hbJ.trans (hb11.mono hbJ.size)⟩

end Go.Proofs.YtbdabjnmocnfpaaDoor
