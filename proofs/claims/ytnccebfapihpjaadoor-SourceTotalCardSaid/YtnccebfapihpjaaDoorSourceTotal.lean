/- The walk of SourceTotal: whatever the bytes are. -/
import Derived.Test.YtnccebfapihpjaaDoorSourceFirst
import Derived.Test.YtnccebfapihpjaaDoorFaultIs
namespace Go.Proofs.YtnccebfapihpjaaDoor
open Go Go.RowKit Go.Extern.Stop Go.Stop Go.Extern

theorem dec_may {b : List Int} {fs : List (List Int)} (h : decF b = .ok fs) {f : List Int} (hf : f ∈ fs) : mayF (wOf b) (hOf b) f = true := by
  obtain ⟨h0, _, h2⟩ := decF_ok h
  obtain ⟨_, _, _, h3, h4, _⟩ := head_zero h0
  obtain ⟨h5, h6⟩ := h2 f hf
  have hw : (wOf b : Int) = 8 * b.getD 2 0 := by unfold wOf; omega
  have hh : (hOf b : Int) = 8 * b.getD 3 0 := by unfold hOf; omega
  unfold mayF
  simp only [Bool.and_eq_true]
  refine ⟨⟨⟨decide_eq_true ⟨by omega, by omega, by omega⟩, decide_eq_true ⟨by omega, by omega, by omega⟩⟩, decide_eq_true (by rw [h5]; simp)⟩, (Vb.within_iff _ _ _).2 h6⟩

set_option maxRecDepth 100000 in
set_option maxHeartbeats 4000000 in
theorem SourceTotal_err {b : List Int} {A : Option Addr} {c : Nat} {path : List (ByteArray × Int)} {k : Int} (hl : b.length ≤ 20000) (hc : b.length ≤ c) (hbd : ∀ x ∈ b, 0 ≤ x ∧ x ≤ 255) (hdec : decF b = .error (path, k)) (w : World) (ha : RdI .u8 w A b) (hg : Gl w) (hT : Tb w) :
    Calls Tryd.prog 6 #[.slice A b.length c] w fun e w' => e = .returned (.bool true) ∧ Below w.heap.size w w' := by
  have HA := Lib.hid ha
  have HG := Lib.hid hg
  have HT := Lib.hid hT
  have C1 := Lib.hid (first_true w hg hT)
  have hl2 : (b.length : Int) ≤ 20000 := by omega
  have HBD := Lib.hid hbd
  obtain ⟨hk, i, r, hpath, hi0, hi1, hr⟩ := decF_err hdec
  have CD : Hid (∀ W, Below w.heap.size w W → Calls Tryd.prog 10 #[.slice A b.length c] W fun e w' => (∃ v, e = .returned (.tuple #[.slice none 0 0, v]) ∧ ErrAt w' ((sSource, i) :: r) (.iface 42 (.int .i64 k)) v) ∧ Below W.heap.size W w') := Lib.hid (fun W hW => by
    refine (Decode_any (by omega) hc HBD.out W (HA.out.keep hW)).mono ?_
    unfold DecOut
    rw [hdec, hpath]
    exact fun e w' h => h)
  obtain ⟨n, hn⟩ : ∃ n, b.length = n := ⟨_, rfl⟩
  rw [hn] at CD hl2 ⊢
  clear ha hg hT hbd hdec hpath hl hc hn
  rcases hk with rfl | rfl | rfl | rfl
  all_goals
    go_enter Tryd.func6, Tryd.ntmps6
    go_wp2_with fail
    refine C1.out.mono ?_
    rintro e w1 ⟨rfl, hb1⟩
    have HB1 := Lib.hid hb1
    clear hb1
    go_wp2_with fail
    refine (CD.out _ HB1.out).mono ?_
    rintro e w2 ⟨⟨v, rfl, hE⟩, hb2⟩
    have HE := Lib.hid hE
    obtain ⟨bb, u, rfl, hB, -⟩ := hE
    have HB2 := Lib.hid (HB1.out.trans (hb2.mono HB1.out.size))
    have HBB := Lib.hid hB
    have hba : Below w2.heap.size w2 (w2.alloc (.cells #[.pointer none] 41)) := (Below.refl _ _).alloc (Nat.le_refl _) _
    have HB3 := Lib.hid (HB2.out.trans (hba.mono HB2.out.size))
    have HE3 := Lib.hid (HE.out.below hba)
    have HBB3 := Lib.hid (hB.keep hba)
    have HV3 := Lib.hid (Blk.new w2 41 #[.pointer none])
    have CO := Lib.hid (Of_code _ (HG.out.keep HB3.out) HE3.out)
    clear hb2 hB hba
    go_wp2_with fail
    refine CO.out.mono ?_
    rintro e w4 ⟨rfl, hb4⟩
    have HB4 := Lib.hid (HB3.out.trans (hb4.mono HB3.out.size))
    have HE4 := Lib.hid (HE3.out.below hb4)
    have HBB4 := Lib.hid (HBB3.out.keep hb4)
    have HV4 := Lib.hid (HV3.out.keep hb4)
    clear hb4
    go_wp2_with fail
    refine (first_true _ (HG.out.keep HB4.out) (HT.out.keep HB4.out)).mono ?_
    rintro e w5 ⟨rfl, hb5⟩
    have HB5 := Lib.hid (HB4.out.trans (hb5.mono HB4.out.size))
    have HE5 := Lib.hid (HE4.out.below hb5)
    have HBB5 := Lib.hid (HBB4.out.keep hb5)
    have HV5 := Lib.hid (HV4.out.keep hb5)
    clear hb5
    go_wp2_with fail
    refine (Is_code _ HE5.out).mono ?_
    rintro e w6 ⟨rfl, rfl⟩
    go_wp2_with fail
    refine (As_fault _ (HG.out.keep HB5.out) HV5.out).mono ?_
    rintro e w7 ⟨rfl, hs7⟩
    have hne : w2.heap.size ≠ bb := fun e => Blk.apart (t := 41) (t' := 48) HV5.out HBB5.out (by decide) e
    have hB7 := HBB5.out.grown hs7.1 (fun e => hne (by injection e with e; exact e.symm))
    have hv7 : w7.cell? ⟨w2.heap.size, 0, none⟩ = some (.pointer (some ⟨bb, 0, none⟩)) := by rw [hs7.2.cell]; rfl
    have y0 : w7.cell? ⟨bb, 0, none⟩ = some (.string ⟨#[115, 111, 117, 114, 99, 101]⟩) := by rw [hB7.cell]; rfl
    have y1 : w7.cell? ⟨bb, 1, none⟩ = some (.int .i64 i) := by rw [hB7.cell]; rfl
    have HB7 := Lib.hid (HB5.out.grown hs7.1 HB5.out.size (fun g hg => by injection hg with hg; have := HB2.out.size; omega))
    clear hs7 hB7 hne
    go_wp2_with fail
    go_ret
    exact ⟨rfl, HB7.out⟩

set_option maxRecDepth 100000 in
set_option maxHeartbeats 4000000 in
theorem SourceTotal_ok {b : List Int} {A : Option Addr} {c : Nat} {fs : List (List Int)} (hl : b.length ≤ 20000) (hc : b.length ≤ c) (hbd : ∀ x ∈ b, 0 ≤ x ∧ x ≤ 255) (hdec : decF b = .ok fs) (w : World) (ha : RdI .u8 w A b) (hg : Gl w) (hT : Tb w) :
    Calls Tryd.prog 6 #[.slice A b.length c] w fun e w' => e = .returned (.bool true) ∧ Below w.heap.size w w' := by
  have HA := Lib.hid ha
  have HG := Lib.hid hg
  have HT := Lib.hid hT
  have C1 := Lib.hid (first_true w hg hT)
  have hl2 : (b.length : Int) ≤ 20000 := by omega
  have HBD := Lib.hid hbd
  obtain ⟨h0, hfn, -⟩ := decF_ok hdec
  obtain ⟨h5, -, -, -, -, h16, h17⟩ := head_zero h0
  have HMAY := Lib.hid (fun f hf => dec_may hdec (f := f) hf)
  have CD : Hid (∀ W, Below w.heap.size w W → Calls Tryd.prog 10 #[.slice A b.length c] W fun e w' => (∃ A' c' l, e = .returned (.tuple #[.slice A' l.length c', .nilIface]) ∧ RdF w' A' l ∧ l.map Frm.pix = fs ∧ ∀ f ∈ l, f.w = wOf b ∧ f.h = hOf b) ∧ Below W.heap.size W w') := Lib.hid (fun W hW => by
    refine (Decode_any (by omega) hc HBD.out W (HA.out.keep hW)).mono ?_
    unfold DecOut
    rw [hdec]
    exact fun e w' h => h)
  obtain ⟨q, o, n0, n1, n2, n3, n4, rfl, HN, -, k0, k1, k2, k3, k4⟩ := head_cells ha h5 hbd
  rw [HN.out.2.2.2.2] at h16 h17
  have hn4 : nOf b = n4 := by unfold nOf; rw [HN.out.2.2.2.2]; rfl
  rw [hn4] at hfn
  have HFN := Lib.hid hfn
  obtain ⟨fw, hfw⟩ : ∃ fw, wOf b = fw := ⟨_, rfl⟩
  obtain ⟨fh, hfh⟩ : ∃ fh, hOf b = fh := ⟨_, rfl⟩
  rw [hfw, hfh] at CD HMAY
  obtain ⟨n, hn⟩ : ∃ n, b.length = n := ⟨_, rfl⟩
  rw [hn] at CD hl2 h5 ⊢
  clear ha hg hT hbd hdec hl hc hn hfn hn4 hfw hfh h0 k0 k1 k2 k3
  go_enter Tryd.func6, Tryd.ntmps6
  go_wp2_with fail
  refine C1.out.mono ?_
  rintro e w1 ⟨rfl, hb1⟩
  have HB1 := Lib.hid hb1
  clear hb1
  go_wp2_with fail
  refine (CD.out _ HB1.out).mono ?_
  rintro e w2 ⟨⟨A2, c2, l, rfl, hrd, hpx, hwh⟩, hb2⟩
  have HRD := Lib.hid hrd
  have HPX := Lib.hid hpx
  have HWH := Lib.hid hwh
  have HB2 := Lib.hid (HB1.out.trans (hb2.mono HB1.out.size))
  have hln : l.length = n4 := by rw [← HFN.out, ← hpx, List.length_map]
  have HLN := Lib.hid hln
  have q4 := cell_keep k4 HB2.out
  have hq0 : ¬ n4 = 0 := by omega
  have hq1 : ¬ 16 < (n4 : Int) := by omega
  have hq2 : ¬ (n : Int) < 5 := by omega
  have hq3 : ((n4 : Int) != (n4 : Int)) = false := by simp
  have hq4 : ((n4 : Int) == 0) = false := by rw [beq_eq_false_iff_ne]; omega
  have hv4 : IntKind.i64.wrap (n4 : Int) = n4 := IntWalk.i64_in _ (by omega)
  have hi4 : (4 : Int) < (n : Int) := by omega
  rw [hln]
  clear hrd hpx hwh hb2 hln k4
  go_wp2_with fail
  clear q4 hv4 hi4 hq0 hq1 hq2 hq3 hq4
  go_loopg [5] n4 (fun k v5 wr => ∃ j, j + k = n4 ∧ v5 = .int .i64 j ∧ Below w.heap.size w wr ∧ Below w2.heap.size w2 wr)
  case atStart => exact ⟨0, by omega, rfl, HB2.out, Below.refl _ _⟩
  case round =>
    obtain ⟨j, hj, rfl, hbel, hbel2⟩ := hrel
    by_cases hlt : j < n4
    · obtain ⟨m, rfl⟩ : ∃ m, gk = m + 1 := ⟨gk - 1, by omega⟩
      have hltL : j < l.length := by rw [HLN.out]; exact hlt
      have h0L : 0 < l.length := by omega
      obtain ⟨b3, o3, rfl, y0, y1, y2⟩ := (HRD.out.keep hbel2).at_ hltL
      obtain ⟨b4, o4, hA4, z0, z1, -⟩ := (HRD.out.keep hbel2).at_ h0L
      obtain ⟨rfl, rfl⟩ : b3 = b4 ∧ o3 = o4 := by injection hA4 with h; injection h with h1 h2; exact ⟨h1, h2⟩
      simp only [Nat.zero_mul, Nat.add_zero] at z0 z1
      obtain ⟨w0, v0⟩ := HWH.out _ (List.getElem_mem h0L)
      obtain ⟨wj, vj⟩ := HWH.out _ (List.getElem_mem hltL)
      rw [w0] at z0
      rw [v0] at z1
      obtain ⟨hp1, hp2⟩ := (HRD.out.keep hbel2).pix hltL
      have hm := HMAY.out (l[j]).pix (by rw [← HPX.out]; exact List.mem_map_of_mem (List.getElem_mem hltL))
      obtain ⟨f, hf⟩ : ∃ f, l[j] = f := ⟨_, rfl⟩
      rw [hf] at y0 y1 y2 wj vj hp1 hp2 hm
      obtain ⟨w9, h9, A9, p9, c9⟩ := f
      simp only at y0 y1 y2 wj vj hp1 hp2 hm
      subst wj vj
      have D : ∀ w', Below wr.heap.size wr w' → Calls Tryd.prog 15 #[.agg #[.int .i64 fw, .int .i64 fh, .slice A9 p9.length c9]] w' fun e w'' => e = .returned (.bool true) ∧ Below w'.heap.size w' w'' := fun w' hb' => by
        have h := RMay_any (fw := fw) (fh := fh) (c := c9) hp2 w' (hp1.keep hb')
        rw [hm] at h
        exact h.mono fun e w'' ⟨he, hw⟩ => ⟨he, hw ▸ (Below.refl _ _).alloc (Nat.le_refl _) _⟩
      have C3 := Lib.hid (Calls.grown D)
      have G0 := fun p : Go.Regrown => Go.cell_regrown y0 p.d p.os
      have G1 := fun p : Go.Regrown => Go.cell_regrown y1 p.d p.os
      have G2 := fun p : Go.Regrown => Go.cell_regrown y2 p.d p.os
      have G3 := fun p : Go.Regrown => Go.cell_regrown z0 p.d p.os
      have G4 := fun p : Go.Regrown => Go.cell_regrown z1 p.d p.os
      have e1 : ((fw : Int) != (fw : Int)) = false := by simp
      have e2 : ((fh : Int) != (fh : Int)) = false := by simp
      have hj0 : (0 : Int) ≤ (j : Int) := by omega
      have hj1 : (j : Int) < (n4 : Int) := by omega
      have hj2 : (0 : Int) < (n4 : Int) := by omega
      have hj3 : 0 < n4 := by omega
      have HBEL := Lib.hid hbel
      have HBEL2 := Lib.hid hbel2
      clear hA4 w0 v0 hp1 hp2 hm hf D hbel hbel2
      go_wp2_with fail
      (refine hq_start (by kernel_rfl) (by kernel_rfl) ?_; (repeat (refine hq_step (fun K hK => ?_); go_simp; first | (refine hK _ ?_; clear hK K) | (apply Exists.intro; refine ⟨fun _ => ?_, hK _ ?_⟩; (focus (with_reducible exact C3.out _)); clear hK K))); (refine hq_nil ?_))
      intro wq hwq
      have hbq := hwq.below
      have HBQ := Lib.hid (HBEL.out.trans (hbq.mono HBEL.out.size))
      have HBQ2 := Lib.hid (HBEL2.out.trans (hbq.mono HBEL2.out.size))
      clear hbq hwq G0 G1 G2 G3 G4 C3 e1 e2 y0 y1 y2 z0 z1
      go_wp2_with fail
      go_roundg m
      case measure => omega
      case rel => exact ⟨j + 1, by omega, by go_num, HBQ.out, HBQ2.out⟩
    · obtain rfl : j = n4 := by omega
      obtain rfl : gk = 0 := by omega
      have HBEL := Lib.hid hbel
      clear hbel hbel2
      go_wp2_with fail
      refine (first_true _ (HG.out.keep HBEL.out) (HT.out.keep HBEL.out)).mono ?_
      rintro e w5 ⟨rfl, hb5⟩
      have HB5 := Lib.hid (HBEL.out.trans (hb5.mono HBEL.out.size))
      clear hb5
      go_wp2_with fail
      go_ret
      exact ⟨rfl, HB5.out⟩

set_option maxRecDepth 100000 in
set_option maxHeartbeats 1000000 in
theorem SourceTotal_walk {b : List Int} {A : Option Addr} {c : Nat} (hl : b.length ≤ 9223372036854775807) (hc : b.length ≤ c) (hbd : ∀ x ∈ b, 0 ≤ x ∧ x ≤ 255) (w : World) (ha : RdI .u8 w A b) (hg : Gl w) (hT : Tb w) :
    Calls Tryd.prog 6 #[.slice A b.length c] w fun e w' => e = .returned (.bool true) ∧ Below w.heap.size w w' := by
  by_cases hbig : b.length ≤ 20000
  · cases hdec : decF b with
    | ok fs => exact SourceTotal_ok hbig hc hbd hdec w ha hg hT
    | error pc => exact SourceTotal_err hbig hc hbd hdec w ha hg hT
  · have C1 := Lib.hid (first_true w hg hT)
    have HG := Lib.hid hg
    have HT := Lib.hid hT
    have hbig' : 20000 < (b.length : Int) := by omega
    clear ha hg hT hbd hbig
    go_enter Tryd.func6, Tryd.ntmps6
    go_wp2_with fail
    refine C1.out.mono ?_
    rintro e w1 ⟨rfl, hb1⟩
    have HB1 := Lib.hid hb1
    clear hb1
    go_wp2_with fail
    refine (first_true _ (HG.out.keep HB1.out) (HT.out.keep HB1.out)).mono ?_
    rintro e w2 ⟨rfl, hb2⟩
    have HB2 := Lib.hid (HB1.out.trans (hb2.mono HB1.out.size))
    clear hb2
    go_wp2_with fail
    go_ret
    exact ⟨rfl, HB2.out⟩

end Go.Proofs.YtnccebfapihpjaaDoor
