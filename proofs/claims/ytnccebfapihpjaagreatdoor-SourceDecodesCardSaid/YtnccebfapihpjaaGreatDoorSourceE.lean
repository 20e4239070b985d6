/- Contracts of source.folds: what is coded of a frame. -/
import Derived.Test.YtnccebfapihpjaaGreatDoorSourceGG
import Derived.Test.YtnccebfapihpjaaGreatDoorCodesW
import Derived.Deep.RegionHeld3
import Derived.OwnWalk
import Derived.Test.YtnccebfapihpjaaGreatDoorQuietTail
namespace Go.Proofs.YtnccebfapihpjaaGreatDoor
open Go Go.RowKit Go.Extern.Stop Go.Stop Go.Extern

/-- New numbers: a row of one's own, begun behind w. -/
def NewI (w : World) (l : List Int) (e : Ending) (w' : World) : Prop :=
  ∃ A c, e = .returned (.slice A l.length c) ∧ w'.ownsRow w.heap.size 3 1 (.slice A l.length c) l.length (l.map (Value.int .i64)) ∧ Below w.heap.size w w'

theorem set_take {l : List Int} {j : Nat} (v : Int) (h : j < l.length) : (l.set j v).take (j + 1) = l.take j ++ [v] := by
  rw [List.take_succ_eq_append_getElem (by simpa using h), List.getElem_set_self, List.take_set_of_le (Nat.le_refl _)]
theorem folds_length (L : List Int) (w : Nat) : (So.folds L w).length = L.length := by simp [So.folds]
theorem folds_snoc {L : List Int} {w j : Nat} (h : j < L.length) : (So.folds L w).take (j + 1) = (So.folds L w).take j ++ [So.foldAt L w j] := by
  rw [List.take_succ_eq_append_getElem (by rw [folds_length]; exact h)]
  simp [So.folds]

set_option maxRecDepth 100000 in
set_option maxHeartbeats 1000000 in
theorem folds_any {L : List Int} {A : Option Addr} {c fw : Nat} {fh : Int} (hw : 1 ≤ fw) (hL : L.length ≤ 1000000) (hb : ∀ v ∈ L, 0 ≤ v ∧ v ≤ 255) (hwb : fw ≤ 1000000) (W : World) (ha : RdI .i64 W A L) :
    Calls Tryz.prog 20 #[.agg #[.int .i64 fw, .int .i64 fh, .slice A L.length c]] W (NewI W (So.folds L fw)) := by
  obtain ⟨i0, hi, hz0, hz1, hz2⟩ := info_parts intInfo
  have HA := Lib.hid ha
  have HBD := Lib.hid hb
  clear ha hb
  have HN := Lib.hid (folds_length L fw)
  have hbx : Below W.heap.size W (W.alloc (.cells #[.int .i64 fw, .int .i64 fh, .slice A L.length c] 48)) := (Below.refl _ _).alloc (Nat.le_refl _) _
  obtain ⟨n, hn⟩ : ∃ n, L.length = n := ⟨_, rfl⟩
  have hNn := Lib.hid hn
  have hfz := Blk.new W 48 #[.int .i64 fw, .int .i64 fh, .slice A L.length c]
  rw [hn] at hfz hbx ⊢
  have HFZ := Lib.hid hfz
  have HBX := Lib.hid hbx
  have hn9 : n ≤ 1000000 := by omega
  clear hn hL hfz hbx
  go_enter Tryz.func20, Tryz.ntmps20
  go_wp2_with (at_make; refine wpList_make_full _ rfl (.tmp 8) (.tmp 8) 46 rfl (W.heap.size + 1) 3 i0 _ 1 Tryz.underlying46 hi hz0 hz1 .i64 .i64 _ _ n rfl rfl (by first | rfl | omega) (by first | rfl | omega) (by rw [hz2]; omega) (by unfold maxLen; omega) (by simp) ?_; intro w1 hown1 hgrow1; have hf1 := HFZ.out.grown hgrow1 (by simp); have hc2 : w1.cell? ⟨W.heap.size, 2, none⟩ = some (.slice A n c) := by rw [hf1.cell]; rfl)
  have hb1 : Below W.heap.size W w1 := HBX.out.grown hgrow1 (by simp) (fun k hk => by cases hk)
  have hown2 : w1.ownsRow (W.heap.size + 1) 3 1 (.slice (some ⟨W.heap.size + 1, 0, none⟩) n n) n ((List.replicate n 0).map (Value.int .i64)) := by
    have e : (madeCells (Value.int .i64 0).cells (n * 1)).toList = (List.replicate n 0).map (Value.int .i64) := by
      rw [Nat.mul_one, List.map_replicate]
      exact toList_madeCells_one _ _
    rw [← e]; simpa using hown1
  have HO := Lib.hid hown2
  have HF1 := Lib.hid hf1
  clear hown1 hgrow1 hown2 hf1 hc2
  go_loopg [4, 5, 13] n (fun k v4 v5 vi wr => ∃ (j : Nat) (F : List Int), j + k = n ∧ vi = .int .i64 j ∧ Hid (F.length = n) ∧ Hid (F.take j = (So.folds L fw).take j) ∧
    wr.ownsRow (W.heap.size + 1) 3 1 (.slice (some ⟨W.heap.size + 1, 0, none⟩) n n) n (F.map (Value.int .i64)) ∧ Blk wr W.heap.size 48 #[.int .i64 fw, .int .i64 fh, .slice A n c] ∧ Below W.heap.size W wr)
  case atStart => exact ⟨0, List.replicate n 0, by omega, rfl, Lib.hid (by simp), Lib.hid (by simp), HO.out, HF1.out, hb1⟩
  case round =>
    obtain ⟨j, F, hj, rfl, hFl, hFt, hown, hblk, hbel⟩ := hrel
    have hc0 : wr.cell? ⟨W.heap.size, 0, none⟩ = some (.int .i64 fw) := by rw [hblk.cell]; rfl
    have hc2 : wr.cell? ⟨W.heap.size, 2, none⟩ = some (.slice A n c) := by rw [hblk.cell]; rfl
    by_cases hlt : j < n
    · have hltL : j < L.length := by have := hNn.out; omega
      obtain ⟨b2, o2, rfl, k2⟩ := (HA.out.keep hbel).at_ hltL
      have hlt' : (j : Int) < (n : Int) := by omega
      have hx := HBD.out _ (List.getElem_mem hltL)
      have hg := So.guess_bd HBD.out fw j
      obtain ⟨R, hR⟩ : ∃ R, j % fw = R := ⟨_, rfl⟩
      obtain ⟨Q, hQ⟩ : ∃ Q, j / fw = Q := ⟨_, rfl⟩
      have hQR : Q * fw + R = j := by rw [← hQ, ← hR]; exact Nat.div_add_mod' j fw
      have hRl : R < fw := by rw [← hR]; exact Nat.mod_lt _ (by omega)
      have hQl : Q ≤ j := by rw [← hQ]; exact Nat.div_le_self _ _
      have CG : ∀ w', Below wr.heap.size wr w' → Calls Tryz.prog 52 #[.slice (some ⟨b2, o2, none⟩) n c, .int .i64 fw, .int .i64 R, .int .i64 Q] w' fun e w'' => e = .returned (.int .i64 (So.guess L fw j)) ∧ Below w'.heap.size w' w'' := fun w' hb => by
        have h := guess_any (L := L) (w := fw) (x := R) (y := Q) (c := c) hw hRl (by rw [hQR]; omega) (by have := hNn.out; omega) HBD.out hwb (by omega) w' (HA.out.keep (hbel.trans (hb.mono hbel.size)))
        rw [hQR, hNn.out] at h
        exact h.mono fun e w'' ⟨he, m, hm⟩ => ⟨he, hm ▸ below_drewN (Below.refl _ _) m⟩
      have hz3' : ¬ fw = 0 := by omega
      have hz1' : ¬ (fw : Int) = 0 := by omega
      have hz2' : ((fw : Int) == 0) = false := by simpa using hz1'
      have hrem : Int.tmod (j : Int) (fw : Int) = (R : Int) := by rw [← hR]; rfl
      have hquo : IntKind.i64.wrap ((j : Int) / (fw : Int)) = (Q : Int) := by rw [show (j : Int) / (fw : Int) = (Q : Int) by rw [← hQ]; rfl]; exact IntWalk.i64_in _ (by omega)
      have hfold := Lib.hid (folds_snoc (w := fw) hltL)
      have hsn := Lib.hid (set_take (So.foldAt L fw j) (show j < F.length by have := hFl.out; omega))
      have hfa : So.foldAt L fw j = Co.fold (L[j] - So.guess L fw j) := by unfold So.foldAt; rw [getD_at hltL]
      rw [hfa] at hsn hfold
      obtain ⟨x, hxe⟩ : ∃ x, L[j] = x := ⟨_, rfl⟩
      obtain ⟨g, hge⟩ : ∃ g, So.guess L fw j = g := ⟨_, rfl⟩
      rw [hxe] at k2 hx hsn hfold
      rw [hge] at hg CG hsn hfold
      have hsub : IntKind.i64.wrap (x - g) = x - g := IntWalk.i64_in _ (by omega)
      have HOW := Lib.hid hown
      have HBK := Lib.hid hblk
      have CF : ∀ w', Below wr.heap.size wr w' → Calls Tryz.prog 51 #[.int .i64 (x - g)] w' fun e w'' => e = .returned (.int .i64 (Co.fold (x - g))) ∧ Below w'.heap.size w' w'' := fun w' _ => (Fold_any (x - g) (by omega) w').mono fun e w'' h => ⟨h.1, h.2 ▸ Below.refl _ _⟩
      have C1 := Lib.hid (Calls.grown CG)
      have C2 := Lib.hid (Calls.grown CF)
      clear hR hQ hQR hRl hfa hown hxe hge hQl CG CF hblk
      go_wp2_with fail
      have G0 := fun p : Go.Regrown => Go.cell_regrown hc0 p.d p.os
      have G2 := fun p : Go.Regrown => Go.cell_regrown hc2 p.d p.os
      (refine hqt_start 19 (by kernel_rfl) (by kernel_rfl) ?_; simp only [List.take_succ_cons, List.take_zero, List.drop_succ_cons, List.drop_zero]; (repeat (refine hq_step (fun K hK => ?_); go_simp; first | (refine hK _ ?_; clear hK K) | (apply Exists.intro; refine ⟨fun _ => ?_, hK _ ?_⟩; (focus (with_reducible first | exact C1.out _ | exact C2.out _)); clear hK K))); (refine hq_nil ?_))
      intro wq hwq
      have hbq := hwq.below
      have hnq := own_keep HOW.out hbq
      have HBQ := Lib.hid (HBK.out.keep hbq)
      have hBq : Below W.heap.size W wq := hbel.trans (hbq.mono hbel.size)
      clear hc0 hc2 k2 G0 G2 C1 C2 hwq hbel
      obtain ⟨_, _, hv, _, hg1, _, hcell, hfroz⟩ := own_form hnq (by omega)
      obtain ⟨rfl, rfl⟩ : W.heap.size + 1 = _ ∧ n = _ := by injection hv with h5 h6 h7; injection h5 with h5; injection h5 with h5; exact ⟨h5, h7⟩
      have k3 := hcell j _ (by rw [List.getElem?_map, List.getElem?_eq_getElem (show j < F.length by have := hFl.out; omega)]; rfl)
      have hf3 := hfroz j
      have hst := own_store hnq j (.int .i64 (Co.fold (x - g)))
      rw [← List.map_set] at hst
      obtain ⟨y, hy⟩ : ∃ y, F[j]'(by have := hFl.out; omega) = y := ⟨_, rfl⟩
      rw [hy] at k3
      have HST := Lib.hid hst
      clear hv hcell hfroz hst hy hnq
      go_wp2_with fail
      go_roundg (gk - 1)
      case measure => omega
      case rel =>
        refine ⟨j + 1, F.set j (Co.fold (x - g)), by omega, by go_num, Lib.hid (by rw [List.length_set]; exact hFl.out), Lib.hid ?_, HST.out, HBQ.out.far (by simp) _, hBq.setCell (by simp) _⟩
        rw [hsn.out, hfold.out, hFt.out]
    · obtain rfl : j = n := by omega
      have HO2 := Lib.hid hown
      have hFe : Hid (F = So.folds L fw) := Lib.hid (by
        have h := hFt.out
        rwa [List.take_of_length_le (by have := hFl.out; omega), List.take_of_length_le (by have := HN.out; have := hNn.out; omega)] at h)
      clear hown hFt hblk
      go_wp2_with fail
      go_ret
      have h := HO2.out
      rw [hFe.out] at h
      have hlen : j = (So.folds L fw).length := by have := HN.out; have := hNn.out; omega
      unfold NewI
      rw [← hlen]
      exact ⟨_, _, rfl, own_base h (by omega), hbel⟩

end Go.Proofs.YtnccebfapihpjaaGreatDoor
