/- Contract of source.frame: a frame out of a reader. -/
import Derived.Test.YtnccebfapihpjaaGreatDoorSourceEnc
import Derived.Test.YtnccebfapihpjaaGreatDoorCodesR2
namespace Go.Proofs.YtnccebfapihpjaaGreatDoor
open Go Go.RowKit Go.Extern.Stop Go.Stop Go.Extern

/-- What source.frame answers. -/
def FrOut (lo hi : Nat) (w : World) (g : Nat) (b : List Int) (fw fh : Nat) (r : So.Fr × Nat) (e : Ending) (w' : World) : Prop :=
  (match r.1 with
   | .ok pix => ∃ A c, e = .returned (.tuple #[.agg #[.int .i64 fw, .int .i64 fh, .slice A pix.length c], .nilIface]) ∧ w'.ownsRow w.heap.size 3 1 (.slice A pix.length c) pix.length (pix.map (Value.int .i64))
   | .bits q => ∃ v, e = .returned (.tuple #[.agg #[.int .i64 0, .int .i64 0, .slice none 0 0], v]) ∧ ErrR w' (gotP q) (gotC q) v
   | .sample => e = .returned (.tuple #[.agg #[.int .i64 0, .int .i64 0, .slice none 0 0], .iface 31 (.int .i64 3)])) ∧
  ROut 110 lo hi w g b r.2 w'

/-- The result's cells written. -/
theorem fr_set {w : World} {z : Nat} {a b c a' b' c' : Value} (h : Blk w z 48 #[a, b, c]) :
    Chg (fun i => i = z) w (((w.setCell ⟨z, 0, none⟩ a').setCell ⟨z, 1, none⟩ b').setCell ⟨z, 2, none⟩ c') ∧ Blk (((w.setCell ⟨z, 0, none⟩ a').setCell ⟨z, 1, none⟩ b').setCell ⟨z, 2, none⟩ c') z 48 #[a', b', c'] :=
  ⟨(((Chg.refl (fun i => i = z) w).setCell (p := ⟨z, 0, none⟩) (fun _ => rfl) _).setCell (p := ⟨z, 1, none⟩) (fun _ => rfl) _).setCell (p := ⟨z, 2, none⟩) (fun _ => rfl) _,
    by have := ((h.store 0 a').store 1 b').store 2 c'; simpa using this⟩
theorem fr_cells {w : World} {z : Nat} {a b c : Value} (h : Blk w z 48 #[a, b, c]) :
    (w.cell? ⟨z, 0, none⟩ = some a ∧ w.cell? ⟨z, 1, none⟩ = some b ∧ w.cell? ⟨z, 2, none⟩ = some c) ∧ w.frozen? ⟨z, 0, none⟩ = false ∧ w.frozen? ⟨z, 1, none⟩ = false ∧ w.frozen? ⟨z, 2, none⟩ = false :=
  ⟨⟨by rw [h.cell]; rfl, by rw [h.cell]; rfl, by rw [h.cell]; rfl⟩, h.frozen 0, h.frozen 1, h.frozen 2⟩
theorem ErrAt.chg {w w' : World} {z : Nat} {cs : Array Value} (hz : Blk w z 48 cs) (hc : Chg (fun i => i = z) w w') {path : List (ByteArray × Int)} {t v : Value} (h : ErrAt w path t v) : ErrAt w' path t v :=
  h.keep fun b cs' hB => hB.chg hc (fun e => by subst e; exact Blk.apart (t := 48) (t' := 108) hz hB (by decide) rfl)

set_option maxRecDepth 100000 in
set_option maxHeartbeats 1000000 in
theorem frame_any {lo hi g : Nat} {b : List Int} {p fw fh : Nat} (hb : b.length ≤ 1000000000) (hw1 : 8 ≤ fw ∧ fw ≤ 32) (hh1 : 8 ≤ fh ∧ fh ≤ 32) (w : World) (hhi : hi ≤ w.heap.size) (h : RdrT 110 lo hi w g b p) :
    Calls Tryz.prog 39 #[.pointer (some ⟨g, 0, none⟩), .int .i64 fw, .int .i64 fh] w (FrOut lo hi w g b fw fh (So.frame b (8 * b.length) fw (fw * fh) p)) := by
  obtain ⟨i0, hi0, hz0, hz1, hz2⟩ := info_parts intInfo
  have H := Lib.hid h
  have hg := h.lt
  clear h
  obtain ⟨n, hn⟩ : ∃ n, fw * fh = n := ⟨_, rfl⟩
  have hn1 : n ≤ 1024 := by rw [← hn]; exact Nat.mul_le_mul hw1.2 hh1.2
  have hni : IntKind.i64.wrap ((fw : Int) * (fh : Int)) = n := by rw [show (fw : Int) * (fh : Int) = n by rw [← hn]; simp]; exact IntWalk.i64_in _ (by omega)
  rw [hn]
  clear hn
  have hb1 := Lib.hid (show Below w.heap.size w (w.alloc (.cells #[.int .i64 0, .int .i64 0, .slice none 0 0] 48)) from (Below.refl _ _).alloc (Nat.le_refl _) _)
  have hr1 := Lib.hid (Blk.new w 48 #[.int .i64 0, .int .i64 0, .slice none 0 0])
  by_cases hs : 8 * b.length < p + 3
  · have hfr : Hid (So.frame b (8 * b.length) fw n p = (.bits (.short p), p)) := Lib.hid (by unfold So.frame; rw [if_pos hs])
    go_enter Tryz.func39, Tryz.ntmps39
    go_wp2_with (at_make; refine wpList_make_full _ rfl (.tmp 19) (.tmp 19) 46 rfl (w.heap.size + 1) 3 i0 _ 1 Tryz.underlying46 hi0 hz0 hz1 .i64 .i64 _ _ n rfl rfl (by first | rfl | omega) (by first | rfl | omega) (by rw [hz2]; omega) (by unfold maxLen; omega) (by simp) ?_; intro w1 hown1 hgrow1)
    have hbw : Below w.heap.size w w1 := hb1.out.grown hgrow1 (by simp) (fun k hk => by cases hk)
    have hz1' := hgrow1.size
    have HR1 := Lib.hid (hr1.out.grown hgrow1 (by simp))
    have HBW := Lib.hid (hbw.alloc hbw.size (.cells #[.int .i64 fw, .int .i64 fh, .slice (some ⟨w.heap.size + 1, 0, none⟩) n n] 48))
    clear hown1 hgrow1 hbw
    refine (Get_short (n := 3) hb (by omega) hs _ (H.out.keep HBW.out)).mono ?_
    rintro e w2 ⟨v, rfl, hE, hb2⟩
    obtain ⟨T9, x9, rfl⟩ := hE.iface
    have hr2 := (HR1.out.alloc (.cells #[.int .i64 fw, .int .i64 fh, .slice (some ⟨w.heap.size + 1, 0, none⟩) n n] 48)).keep hb2
    obtain ⟨⟨r0, r1, r2⟩, f0, f1, f2⟩ := fr_cells hr2
    obtain ⟨hc3, hr3⟩ := fr_set (a' := .int .i64 0) (b' := .int .i64 0) (c' := .slice none 0 0) hr2
    obtain ⟨⟨s0, s1, s2⟩, _⟩ := fr_cells hr3
    have HC3 := Lib.hid hc3
    have HR2 := Lib.hid hr2
    have HE2 := Lib.hid hE
    have HRd := Lib.hid ((H.out.keep HBW.out).keep hb2)
    have HBW2 := Lib.hid (HBW.out.trans (hb2.mono HBW.out.size))
    clear hc3 hr2 hr3 hE hb2
    go_wp2_with fail
    refine bodyPost_ret (v := .tuple #[.agg #[.int .i64 0, .int .i64 0, .slice none 0 0], .iface T9 x9]) (by simp [results, Tryz.results39, go_sem, s0, s1, s2]) rfl ?_
    unfold FrOut
    rw [hfr.out]
    refine ⟨⟨_, rfl, .inr ⟨show (1 : Int) ≠ 0 by decide, HE2.out.chg HR2.out HC3.out⟩⟩, HRd.out.chg HC3.out (by omega) (fun i h1 h2 => by omega), (Chg.of_below HBW2.out).step HC3.out (fun i h1 h2 => by omega)⟩
  · have hnb := Bi.num_bd b p 3
    obtain ⟨K, hK⟩ : ∃ K : Nat, Bi.num b p 3 = K := ⟨(Bi.num b p 3).toNat, by omega⟩
    rw [hK] at hnb
    have hK7 : K ≤ 7 := by have := hnb.2; simp only [Int.reducePow] at this; omega
    have HK := Lib.hid hK
    have hfr : Hid (So.frame b (8 * b.length) fw n p = So.samples b (8 * b.length) K fw n [] (p + 3)) := Lib.hid (by unfold So.frame; rw [if_neg hs, hK]; rfl)
    clear hnb hK
    go_enter Tryz.func39, Tryz.ntmps39
    go_wp2_with (at_make; refine wpList_make_full _ rfl (.tmp 19) (.tmp 19) 46 rfl (w.heap.size + 1) 3 i0 _ 1 Tryz.underlying46 hi0 hz0 hz1 .i64 .i64 _ _ n rfl rfl (by first | rfl | omega) (by first | rfl | omega) (by rw [hz2]; omega) (by unfold maxLen; omega) (by simp) ?_; intro w1 hown1 hgrow1)
    have hbw : Below w.heap.size w w1 := hb1.out.grown hgrow1 (by simp) (fun k hk => by cases hk)
    have hown2 : w1.ownsRow (w.heap.size + 1) 3 1 (.slice (some ⟨w.heap.size + 1, 0, none⟩) n n) n ((List.replicate n 0).map (Value.int .i64)) := by
      have e : (madeCells (Value.int .i64 0).cells (n * 1)).toList = (List.replicate n 0).map (Value.int .i64) := by
        rw [Nat.mul_one, List.map_replicate]
        exact toList_madeCells_one _ _
      rw [← e]; simpa using hown1
    have hsz1 : w.heap.size + 1 ≤ w1.heap.size := by have := hgrow1.size; simpa using this
    have hr1' := (hr1.out.grown hgrow1 (by simp)).alloc (.cells #[.int .i64 fw, .int .i64 fh, .slice (some ⟨w.heap.size + 1, 0, none⟩) n n] 48)
    have hbw2 := hbw.alloc hbw.size (.cells #[.int .i64 fw, .int .i64 fh, .slice (some ⟨w.heap.size + 1, 0, none⟩) n n] 48)
    have hf1 := Blk.new w1 48 #[.int .i64 fw, .int .i64 fh, .slice (some ⟨w.heap.size + 1, 0, none⟩) n n]
    have hown3 := hown2.alloc (.cells #[.int .i64 fw, .int .i64 fh, .slice (some ⟨w.heap.size + 1, 0, none⟩) n n] 48)
    have hp3 : p + 3 ≤ 8 * b.length := by omega
    clear hown1 hgrow1 hown2 hbw
    refine (Get_ok (n := 3) hb (by omega) hp3 _ (H.out.keep hbw2)).mono ?_
    rw [HK.out]
    rintro e w2 ⟨rfl, hrd2, hch2⟩
    have HRD2 := Lib.hid hrd2
    have HC2 := Lib.hid ((Chg.of_below (S := fun i => i = g) hbw2).trans hch2)
    have HR2 := Lib.hid (hr1'.chg hch2 (show ¬ w.heap.size = g by omega))
    have HF2 := Lib.hid (hf1.chg hch2 (show ¬ w1.heap.size = g by omega))
    have HO2 := Lib.hid (own_chg hown3 hch2 (fun i hi => show ¬ i = g by have := hown3.lt i hi; omega))
    obtain ⟨_, _, hcl2⟩ := (fr_cells HF2.out).1
    clear hr1' hbw2 hf1 hown3 hrd2 hch2
    go_wp2_with fail
    clear hcl2
    go_loopg [34] n (fun k v34 wr => ∃ (j q : Nat) (P F : List Int), j + k = n ∧ v34 = .int .i64 j ∧ Hid (P.length = j) ∧ Hid (F.length = n) ∧ Hid (F.take j = P) ∧ Hid (∀ v ∈ F, 0 ≤ v ∧ v ≤ 255) ∧
      Hid (So.frame b (8 * b.length) fw n p = So.samples b (8 * b.length) K fw k P q) ∧ RdrT 110 lo hi wr g b q ∧ Chg (fun i => i = g) w wr ∧
      wr.ownsRow (w.heap.size + 1) 3 1 (.slice (some ⟨w.heap.size + 1, 0, none⟩) n n) n (F.map (Value.int .i64)) ∧
      Blk wr w.heap.size 48 #[.int .i64 0, .int .i64 0, .slice none 0 0] ∧ Blk wr w1.heap.size 48 #[.int .i64 fw, .int .i64 fh, .slice (some ⟨w.heap.size + 1, 0, none⟩) n n])
    case atStart => exact ⟨0, p + 3, [], List.replicate n 0, by omega, rfl, Lib.hid rfl, Lib.hid (by simp), Lib.hid (by simp), Lib.hid (fun v hv => by have := (List.mem_replicate.1 hv).2; omega), hfr, HRD2.out, HC2.out, HO2.out, HR2.out, HF2.out⟩
    case round =>
      obtain ⟨j, q, P, F, hj, rfl, hPl, hFl, hFt, hFb, hrec, hrd, hch, hown, hres, hblk⟩ := hrel
      have HRD := Lib.hid hrd
      have HCH := Lib.hid hch
      have HOW := Lib.hid hown
      have HRES := Lib.hid hres
      have HBLK := Lib.hid hblk
      clear hrd hch hown hres hblk
      by_cases hlt : j < n
      · have hlt' : (j : Int) < (n : Int) := by omega
        obtain ⟨m, rfl⟩ : ∃ m, gk = m + 1 := ⟨gk - 1, by omega⟩
        go_wp2_with fail
        refine (GetRice_any 510 (by omega) hb _ HRD.out).mono ?_
        obtain ⟨⟨G1, G2⟩, hG⟩ : ∃ G, Co.getRice b (8 * b.length) q K 510 = G := ⟨_, rfl⟩
        rw [hG]
        rintro e w5 ⟨v, rfl, hE5, hrd5, hch5⟩
        simp only at hE5 hrd5
        rcases G1 with u | a | a
        · have hv0 : v = .nilIface := by
            rcases hE5 with ⟨_, _, h⟩ | ⟨h0, _⟩
            · exact h
            · exact absurd rfl h0
          subst hv0
          dsimp only [gotV]
          obtain ⟨hu0, _, hu1, _, _, _⟩ := Co.rice_ok hG
          have hyb : -255 ≤ Co.unfold' u ∧ Co.unfold' u ≤ 255 := by
            rcases (show u % 2 = 1 ∨ u % 2 = 0 by omega) with h | h
            · rw [Co.unfold_odd hu0 (by omega) h]; omega
            · rw [Co.unfold_even hu0 (by omega) h]; omega
          have hgp : So.guess F fw j = So.guess P fw j := So.guess_congr (by omega) fun i hi => by
            rw [← hFt.out, List.getD_eq_getElem?_getD, List.getD_eq_getElem?_getD, List.getElem?_take, if_pos hi]
          have hstep : Hid (So.frame b (8 * b.length) fw n p = if 0 ≤ So.guess F fw j + Co.unfold' u ∧ So.guess F fw j + Co.unfold' u ≤ 255 then So.samples b (8 * b.length) K fw m (P ++ [So.guess F fw j + Co.unfold' u]) G2 else (.sample, G2)) := Lib.hid (by
            rw [hrec.out]; simp only [So.samples, hG]; rw [hPl.out, hgp])
          have hgb := So.guess_bd hFb.out fw j
          have HRd := Lib.hid hrd5
          have HCW := Lib.hid (HCH.out.trans hch5)
          have hb5 := HBLK.out.chg hch5 (show ¬ w1.heap.size = g by omega)
          have HRS := Lib.hid (HRES.out.chg hch5 (show ¬ w.heap.size = g by omega))
          have HO5 := Lib.hid (own_chg HOW.out hch5 (fun i hi => show ¬ i = g by have := HOW.out.lt i hi; omega))
          have HB5 := Lib.hid hb5
          have hc2 := (fr_cells hb5).1.2.2
          obtain ⟨R, hR⟩ : ∃ R, j % fw = R := ⟨_, rfl⟩
          obtain ⟨Q, hQ⟩ : ∃ Q, j / fw = Q := ⟨_, rfl⟩
          have hQR : Q * fw + R = j := by rw [← hQ, ← hR]; exact Nat.div_add_mod' j fw
          have hRl : R < fw := by rw [← hR]; exact Nat.mod_lt _ (by omega)
          have hQl : Q ≤ j := by rw [← hQ]; exact Nat.div_le_self _ _
          have hra5 := (RdI.of_own HO5.out).1
          have CG : ∀ w', Below w5.heap.size w5 w' → Calls Tryz.prog 52 #[.slice (some ⟨w.heap.size + 1, 0, none⟩) n n, .int .i64 fw, .int .i64 R, .int .i64 Q] w' fun e w'' => e = .returned (.int .i64 (So.guess F fw j)) ∧ Below w'.heap.size w' w'' := fun w' hb' => by
            have h := guess_any (L := F) (w := fw) (x := R) (y := Q) (c := n) (by omega) hRl (by rw [hQR, hFl.out]; omega) (by rw [hFl.out]; omega) hFb.out (by omega) (by omega) w' (hra5.keep hb')
            rw [hQR, hFl.out] at h
            exact h.mono fun e w'' ⟨he, m, hm⟩ => ⟨he, hm ▸ below_drewN (Below.refl _ _) m⟩
          obtain ⟨gs, hgs⟩ : ∃ gs, So.guess F fw j = gs := ⟨_, rfl⟩
          obtain ⟨y, hy⟩ : ∃ y, Co.unfold' u = y := ⟨_, rfl⟩
          rw [hgs] at CG hstep hgb
          rw [hy] at hstep hyb
          have CU : ∀ w', Below w5.heap.size w5 w' → Calls Tryz.prog 66 #[.int .i64 u] w' fun e w'' => e = .returned (.int .i64 y) ∧ Below w'.heap.size w' w'' := fun w' _ => by
            rw [← hy]; exact (Unfold_any u (by omega) w').mono fun e w'' h => ⟨h.1, h.2 ▸ Below.refl _ _⟩
          have hz3' : ¬ fw = 0 := by omega
          have hz1'' : ¬ (fw : Int) = 0 := by omega
          have hrem : Int.tmod (j : Int) (fw : Int) = (R : Int) := by rw [← hR]; rfl
          have hquo : IntKind.i64.wrap ((j : Int) / (fw : Int)) = (Q : Int) := by rw [show (j : Int) / (fw : Int) = (Q : Int) by rw [← hQ]; rfl]; exact IntWalk.i64_in _ (by omega)
          have hsum : IntKind.i64.wrap (gs + y) = gs + y := IntWalk.i64_in _ (by omega)
          have C1 := Lib.hid (Calls.grown CG)
          have C2 := Lib.hid (Calls.grown CU)
          have GC2 := fun p : Go.Regrown => Go.cell_regrown hc2 p.d p.os
          clear hE5 hG hgp hrd5 hch5 hb5 hR hQ hQR hRl hQl hra5 CG CU hgs hy
          go_wp2_with fail
          (refine hq_start (by kernel_rfl) (by kernel_rfl) ?_; (repeat (refine hq_step (fun K hK => ?_); go_simp; first | (refine hK _ ?_; clear hK K) | (apply Exists.intro; refine ⟨fun _ => ?_, hK _ ?_⟩; (focus (with_reducible first | exact C1.out _ | exact C2.out _)); clear hK K))); (refine hq_nil ?_))
          intro wq hwq
          have hbq := hwq.below
          have HRq := Lib.hid (HRd.out.keep hbq)
          have HCq := Lib.hid (HCW.out.trans (Chg.of_below hbq))
          have HSq := Lib.hid (HRS.out.keep hbq)
          have HOq := own_keep HO5.out hbq
          have hbl := HB5.out.keep hbq
          have HBq := Lib.hid hbl
          have hcq2 := (fr_cells hbl).1.2.2
          obtain ⟨z, hz⟩ : ∃ z, gs + y = z := ⟨_, rfl⟩
          rw [hz] at hstep hsum
          clear C1 C2 GC2 hc2 hbq hwq hbl
          by_cases hin : 0 ≤ z ∧ z ≤ 255
          · have hcl : So.clip z = z := (So.clip_id.2 hin).symm
            have hstep2 := Lib.hid (hstep.out.trans (if_pos hin))
            have hFj : j < F.length := by rw [hFl.out]; exact hlt
            have hsn := Lib.hid (set_take z hFj)
            have hne9 : Hid (w1.heap.size ≠ w.heap.size + 1) := Lib.hid (fun e => own_notBlk HOq HBq.out (by decide) (by rw [e]; rfl))
            have hin' := Lib.hid hin
            obtain ⟨_, _, hv, _, _, _, hcell, hfroz⟩ := own_form HOq (by omega)
            obtain ⟨rfl, rfl⟩ : w.heap.size + 1 = _ ∧ n = _ := by injection hv with h5 h6 h7; injection h5 with h5; injection h5 with h5; exact ⟨h5, h7⟩
            obtain ⟨x, hx⟩ : ∃ x, F[j] = x := ⟨_, rfl⟩
            have k3 := hcell j (.int .i64 x) (by rw [List.getElem?_map, List.getElem?_eq_getElem hFj, hx]; rfl)
            have hf3 := hfroz j
            have hst := own_store HOq j (.int .i64 z)
            rw [← List.map_set] at hst
            have HST := Lib.hid hst
            clear hv hcell hfroz hst HOq hFj hx
            go_wp2_with fail
            refine (clip_any _ _).mono ?_
            rw [hcl]
            rintro e w7 ⟨rfl, rfl⟩
            go_wp2_with fail
            go_roundg m
            case measure => omega
            case rel =>
              have C9 := (Chg.refl (fun i => i = w.heap.size + 1) wq).setCell (p := ⟨w.heap.size + 1, j, none⟩) (fun _ => rfl) (.int .i64 z)
              exact ⟨j + 1, G2, P ++ [z], F.set j z, by omega, by go_num, Lib.hid (by simp [hPl.out]), Lib.hid (by simp [hFl.out]), Lib.hid (by rw [hsn.out, hFt.out]),
                Lib.hid (fun v hv => by
                  rcases List.mem_or_eq_of_mem_set hv with h | h
                  · exact hFb.out v h
                  · subst h; exact hin'.out),
                hstep2, HRq.out.chg C9 (by omega) (fun i h1 h2 => by omega), HCq.out.setCell (p := ⟨w.heap.size + 1, j, none⟩) (fun h => by have : w.heap.size + 1 < w.heap.size := h; omega) _,
                HST.out, HSq.out.far (show w.heap.size ≠ w.heap.size + 1 by omega) _, HBq.out.far hne9.out _⟩
          · obtain ⟨c9, hc9⟩ : ∃ c9, So.clip z = c9 := ⟨_, rfl⟩
            have hzc : (z != c9) = true := by rw [← hc9]; simpa using fun e => hin (So.clip_id.1 e)
            have hstep2 := Lib.hid (hstep.out.trans (if_neg hin))
            obtain ⟨⟨r0, r1, r2⟩, f0, f1, f2⟩ := fr_cells HSq.out
            obtain ⟨hc3, hr3⟩ := fr_set (a' := .int .i64 0) (b' := .int .i64 0) (c' := .slice none 0 0) HSq.out
            obtain ⟨⟨s0, s1, s2⟩, _⟩ := fr_cells hr3
            have HC3 := Lib.hid hc3
            have CC : Hid (Calls Tryz.prog 67 #[.int .i64 z] wq fun e w' => e = .returned (.int .i64 c9) ∧ wq = w') := Lib.hid (by rw [← hc9]; exact clip_any z wq)
            clear hc3 hr3 hc9 hin hcq2 HOq
            go_wp2_with fail
            refine CC.out.mono ?_
            rintro e w7 ⟨rfl, rfl⟩
            go_wp2_with fail
            refine bodyPost_ret (v := .tuple #[.agg #[.int .i64 0, .int .i64 0, .slice none 0 0], .iface 31 (.int .i64 3)]) (by simp [results, Tryz.results39, go_sem, s0, s1, s2]) rfl ?_
            unfold FrOut
            rw [hstep2.out]
            exact ⟨rfl, HRq.out.chg HC3.out (by omega) (fun i h1 h2 => by omega), HCq.out.step HC3.out (fun i h1 h2 => by omega)⟩
        · have hE6 : ErrAt w5 (gotP (.short a)) (.iface 31 (.int .i64 1)) v := by
            rcases hE5 with ⟨h0, _⟩ | ⟨_, h1⟩
            · exact absurd h0 (show (1 : Int) ≠ 0 by decide)
            · exact h1
          obtain ⟨T9, x9, rfl⟩ := hE6.iface
          have hend : Hid (So.frame b (8 * b.length) fw n p = (.bits (.short a), G2)) := Lib.hid (by rw [hrec.out]; simp only [So.samples, hG])
          have hr2 := HRES.out.chg hch5 (show ¬ w.heap.size = g by omega)
          obtain ⟨⟨r0, r1, r2⟩, f0, f1, f2⟩ := fr_cells hr2
          obtain ⟨hc3, hr3⟩ := fr_set (a' := .int .i64 0) (b' := .int .i64 0) (c' := .slice none 0 0) hr2
          obtain ⟨⟨s0, s1, s2⟩, _⟩ := fr_cells hr3
          have HC3 := Lib.hid hc3
          have HR2' := Lib.hid hr2
          have HE2 := Lib.hid hE6
          have HRd := Lib.hid hrd5
          have HCW := Lib.hid (HCH.out.trans hch5)
          clear hc3 hr2 hr3 hE5 hE6 hrd5 hch5 hG
          go_wp2_with fail
          refine bodyPost_ret (v := .tuple #[.agg #[.int .i64 0, .int .i64 0, .slice none 0 0], .iface T9 x9]) (by simp [results, Tryz.results39, go_sem, s0, s1, s2]) rfl ?_
          unfold FrOut
          rw [hend.out]
          exact ⟨⟨_, rfl, .inr ⟨show (1 : Int) ≠ 0 by decide, HE2.out.chg HR2'.out HC3.out⟩⟩, HRd.out.chg HC3.out (by omega) (fun i h1 h2 => by omega), HCW.out.step HC3.out (fun i h1 h2 => by omega)⟩
        · have hE6 : ErrAt w5 (gotP (.range a)) (.iface 31 (.int .i64 3)) v := by
            rcases hE5 with ⟨h0, _⟩ | ⟨_, h1⟩
            · exact absurd h0 (show (3 : Int) ≠ 0 by decide)
            · exact h1
          obtain ⟨T9, x9, rfl⟩ := hE6.iface
          have hend : Hid (So.frame b (8 * b.length) fw n p = (.bits (.range a), G2)) := Lib.hid (by rw [hrec.out]; simp only [So.samples, hG])
          have hr2 := HRES.out.chg hch5 (show ¬ w.heap.size = g by omega)
          obtain ⟨⟨r0, r1, r2⟩, f0, f1, f2⟩ := fr_cells hr2
          obtain ⟨hc3, hr3⟩ := fr_set (a' := .int .i64 0) (b' := .int .i64 0) (c' := .slice none 0 0) hr2
          obtain ⟨⟨s0, s1, s2⟩, _⟩ := fr_cells hr3
          have HC3 := Lib.hid hc3
          have HR2' := Lib.hid hr2
          have HE2 := Lib.hid hE6
          have HRd := Lib.hid hrd5
          have HCW := Lib.hid (HCH.out.trans hch5)
          clear hc3 hr2 hr3 hE5 hE6 hrd5 hch5 hG
          go_wp2_with fail
          refine bodyPost_ret (v := .tuple #[.agg #[.int .i64 0, .int .i64 0, .slice none 0 0], .iface T9 x9]) (by simp [results, Tryz.results39, go_sem, s0, s1, s2]) rfl ?_
          unfold FrOut
          rw [hend.out]
          exact ⟨⟨_, rfl, .inr ⟨show (3 : Int) ≠ 0 by decide, HE2.out.chg HR2'.out HC3.out⟩⟩, HRd.out.chg HC3.out (by omega) (fun i h1 h2 => by omega), HCW.out.step HC3.out (fun i h1 h2 => by omega)⟩
      · obtain rfl : j = n := by omega
        obtain rfl : gk = 0 := by omega
        have hPF : F = P := by rw [← hFt.out, List.take_of_length_le (by rw [hFl.out]; exact Nat.le_refl _)]
        have hfin : Hid (So.frame b (8 * b.length) fw j p = (.ok F, q)) := Lib.hid (by rw [hrec.out, hPF]; rfl)
        obtain ⟨k0, k1, k2⟩ := (fr_cells HBLK.out).1
        obtain ⟨⟨r0, r1, r2⟩, f0, f1, f2⟩ := fr_cells HRES.out
        obtain ⟨hc3, hr3⟩ := fr_set (a' := .int .i64 fw) (b' := .int .i64 fh) (c' := .slice (some ⟨w.heap.size + 1, 0, none⟩) j j) HRES.out
        obtain ⟨⟨s0, s1, s2⟩, _⟩ := fr_cells hr3
        have HC3 := Lib.hid hc3
        have HO3 := Lib.hid (own_base (own_chg HOW.out hc3 (fun i hi => show ¬ i = w.heap.size by have := HOW.out.lt i hi; omega)) (show w.heap.size ≤ w.heap.size + 1 by omega))
        clear hc3 hr3 hPF hlt
        go_wp2_with fail
        refine bodyPost_ret (v := .tuple #[.agg #[.int .i64 fw, .int .i64 fh, .slice (some ⟨w.heap.size + 1, 0, none⟩) j j], .nilIface]) (by simp [results, Tryz.results39, go_sem, s0, s1, s2]) rfl ?_
        unfold FrOut
        rw [hfin.out]
        exact ⟨⟨_, _, by rw [hFl.out], by rw [hFl.out]; exact HO3.out⟩, HRD.out.chg HC3.out (by omega) (fun i h1 h2 => by omega), HCH.out.step HC3.out (fun i h1 h2 => by omega)⟩

end Go.Proofs.YtnccebfapihpjaaGreatDoor
