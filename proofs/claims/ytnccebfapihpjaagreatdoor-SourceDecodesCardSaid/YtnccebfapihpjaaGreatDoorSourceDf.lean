/- Contract of source.Decode: bytes with a head that may be. -/
import Derived.Test.YtnccebfapihpjaaGreatDoorSourceDe
namespace Go.Proofs.YtnccebfapihpjaaGreatDoor
open Go Go.RowKit Go.Extern.Stop Go.Stop Go.Extern

theorem frameInfo : (Tryz.prog.info? 48).map (fun i => (i.zero, i.size, i.bytes)) = some (some (.agg #[.int .i64 0, .int .i64 0, .slice none 0 0]), 3, 40) := by kernel_rfl

/-- Frames whose samples lie in rows of their own. -/
def OwnF (w : World) (B : Nat) (l : List Frm) : Prop := ∀ f ∈ l, w.ownsRow B 3 1 (.slice f.A f.pix.length f.c) f.pix.length (f.pix.map (Value.int .i64))

theorem frame_good {lo hi g : Nat} {b pix : List Int} {p q fw fh : Nat} (hb : b.length ≤ 1000000000) (hw1 : 8 ≤ fw ∧ fw ≤ 32) (hh1 : 8 ≤ fh ∧ fh ≤ 32) (hf : So.frame b (8 * b.length) fw (fw * fh) p = (.ok pix, q)) (w : World) (hhi : hi ≤ w.heap.size) (h : RdrT 110 lo hi w g b p) :
    Calls Tryz.prog 39 #[.pointer (some ⟨g, 0, none⟩), .int .i64 fw, .int .i64 fh] w fun e w' => ∃ A c, e = .returned (.tuple #[.agg #[.int .i64 fw, .int .i64 fh, .slice A pix.length c], .nilIface]) ∧
      w'.ownsRow w.heap.size 3 1 (.slice A pix.length c) pix.length (pix.map (Value.int .i64)) ∧ ROut 110 lo hi w g b q w' := by
  refine (frame_any hb hw1 hh1 w hhi h).mono ?_
  rw [hf]
  rintro e w' ⟨⟨A, c, he, ho⟩, hr⟩
  exact ⟨A, c, he, ho, hr⟩
theorem frame_fails {lo hi g : Nat} {b : List Int} {fr : So.Fr} {p q fw fh : Nat} (hb : b.length ≤ 1000000000) (hw1 : 8 ≤ fw ∧ fw ≤ 32) (hh1 : 8 ≤ fh ∧ fh ≤ 32) (hf : So.frame b (8 * b.length) fw (fw * fh) p = (fr, q)) (hbad : Bad fr) (w : World) (hhi : hi ≤ w.heap.size) (h : RdrT 110 lo hi w g b p) :
    Calls Tryz.prog 39 #[.pointer (some ⟨g, 0, none⟩), .int .i64 fw, .int .i64 fh] w fun e w' => ∃ T x, e = .returned (.tuple #[.agg #[.int .i64 0, .int .i64 0, .slice none 0 0], .iface T x]) ∧
      ErrAt w' (frP fr) (.iface 31 (.int .i64 (frC fr))) (.iface T x) ∧ ROut 110 lo hi w g b q w' := by
  refine (frame_any hb hw1 hh1 w hhi h).mono ?_
  rw [hf]
  unfold FrOut
  rintro e w' ⟨h1, hr⟩
  have hbits : ∀ a, (∃ v, e = .returned (.tuple #[.agg #[.int .i64 0, .int .i64 0, .slice none 0 0], v]) ∧ ErrR w' (gotP a) (gotC a) v) → gotC a ≠ 0 → ∃ T x, e = .returned (.tuple #[.agg #[.int .i64 0, .int .i64 0, .slice none 0 0], .iface T x]) ∧ ErrAt w' (gotP a) (.iface 31 (.int .i64 (gotC a))) (.iface T x) := by
    rintro a ⟨v, he, hE⟩ hne
    rcases hE with ⟨h0, _⟩ | ⟨_, hE⟩
    · exact absurd h0 hne
    · obtain ⟨T, x, rfl⟩ := hE.iface
      exact ⟨T, x, he, hE⟩
  rcases hbad with ⟨a, rfl⟩ | ⟨a, rfl⟩ | rfl
  · obtain ⟨T, x, he, hE⟩ := hbits _ h1 (by simp [gotC])
    exact ⟨T, x, he, hE, hr⟩
  · obtain ⟨T, x, he, hE⟩ := hbits _ h1 (by simp [gotC])
    exact ⟨T, x, he, hE, hr⟩
  · exact ⟨_, _, h1, rfl, hr⟩

theorem frames_ok {b pix : List Int} {T w s n p q : Nat} {fs : List (List Int)} (h : So.frame b T w s p = (.ok pix, q)) : So.frames b T w s (n + 1) fs p = So.frames b T w s n (fs ++ [pix]) q := by simp only [So.frames, h]
theorem frames_no {b : List Int} {T w s n p q : Nat} {fr : So.Fr} {fs : List (List Int)} (h : So.frame b T w s p = (fr, q)) (hb : Bad fr) : So.frames b T w s (n + 1) fs p = (.error (fs.length, fr), q) := by
  simp only [So.frames, h]
  rcases hb with ⟨a, rfl⟩ | ⟨a, rfl⟩ | rfl <;> rfl

section
variable {w wr W0 w8 W9 w9 : World} {g z p p2 : Nat} {x pix : List Int} {AL A8 : Option Addr} {cL c8 : Nat} {l : List Frm} {cs : Array Value}
/-- Behind a frame's reading: what stands. -/
theorem dec_step (hbel : Below w.heap.size w wr) (hg : w.heap.size ≤ g) (hgr : g < wr.heap.size) (hrd : RdrT 110 w.heap.size g wr g x p)
    (hrow : wr.ownsRow (g + 1) 48 3 (.slice AL l.length cL) l.length (flatF l)) (hof : OwnF wr w.heap.size l) (B0 : Below wr.heap.size wr W0) (hrd8 : RdrT 110 w.heap.size g w8 g x p2) (hch8 : Chg (fun i => i = g) W0 w8)
    (hch9 : Chg (fun i => i = z) w8 W9) (hz : wr.heap.size ≤ z) (hBz : Blk W9 z 48 cs) :
    Below w.heap.size w W9 ∧ RdrT 110 w.heap.size g W9 g x p2 ∧ W9.ownsRow (g + 1) 48 3 (.slice AL l.length cL) l.length (flatF l) ∧ OwnF W9 w.heap.size l ∧ g < W9.heap.size ∧ Blk W9 z 48 cs := by
  have hr0 := hrd.keep B0
  obtain ⟨_, _, A0, c0, hB0, _⟩ := hr0
  have h0 := B0.size
  have h8 := hch8.size
  have h9 := hch9.size
  refine ⟨((hbel.trans (B0.mono hbel.size)).trans (hch8.below (by have := hbel.size; omega) (fun i e => by omega))).trans (hch9.below (by have := hbel.size; omega) (fun i e => by have := hbel.size; omega)),
    hrd8.chg hch9 (by omega) (fun i h1 h2 => by omega), ?_, ?_, by omega, hBz⟩
  · refine own_chg (own_chg (own_keep hrow B0) hch8 (fun i hi e => ?_)) hch9 (fun i hi e => ?_)
    · exact own_notBlk (own_keep hrow B0) hB0 (by decide) (by rw [hi, e])
    · have := (hrow.lt i hi).2; omega
  · intro f hf
    refine own_chg (own_chg (own_keep (hof f hf) B0) hch8 (fun i hi e => ?_)) hch9 (fun i hi e => ?_)
    · exact own_notBlk (own_keep (hof f hf) B0) hB0 (by decide) (by rw [hi, e])
    · have := ((hof f hf).lt i hi).2; omega
/-- Behind the append of a frame: what stands. -/
theorem dec_push (hbel : Below w.heap.size w W9) (hg : w.heap.size ≤ g) (hgr : g < W9.heap.size) (hrd : RdrT 110 w.heap.size g W9 g x p2)
    (hrow : W9.ownsRow (g + 1) 48 3 (.slice AL l.length cL) l.length (flatF l)) (hof : OwnF W9 w.heap.size l) (hpx : W9.ownsRow w.heap.size 3 1 (.slice A8 pix.length c8) pix.length (pix.map (Value.int .i64)))
    (fw fh : Int) (o : Obj) (hgrow : (W9.alloc o).grownBy w9 (Value.slice AL l.length cL).ownBlock) :
    OwnF w9 w.heap.size (l ++ [⟨fw, fh, A8, pix, c8⟩]) ∧ RdrT 110 w.heap.size g w9 g x p2 ∧ Below w.heap.size w w9 ∧ g < w9.heap.size := by
  have B0 : Below W9.heap.size W9 (W9.alloc o) := (Below.refl _ _).alloc (Nat.le_refl _) _
  have hc : Chg (fun i => (Value.slice AL l.length cL).ownBlock = some i) (W9.alloc o) w9 := Chg.of_grown hgrow (fun i _ e => e.symm)
  have hsz := hc.size
  have hs0 := B0.size
  have hlow : ∀ i, (Value.slice AL l.length cL).ownBlock = some i → g < i := fun i hi => by have := (hrow.lt i hi).1; omega
  refine ⟨fun f hf => ?_, (hrd.keep B0).chg hc (fun e => by have := hlow _ e; omega) (fun i h1 h2 e => by have := hlow _ e; omega), (hbel.alloc hbel.size o).trans (hc.below (by have := hbel.size; simp; omega) (fun i e => by have := hlow _ e; omega)), by omega⟩
  have key : ∀ f : Frm, W9.ownsRow w.heap.size 3 1 (.slice f.A f.pix.length f.c) f.pix.length (f.pix.map (Value.int .i64)) → w9.ownsRow w.heap.size 3 1 (.slice f.A f.pix.length f.c) f.pix.length (f.pix.map (Value.int .i64)) :=
    fun f h => own_chg (own_keep h B0) hc (fun i hi e => own_own (own_keep h B0) (own_keep hrow B0) (by decide) i hi e)
  rcases List.mem_append.1 hf with h | h
  · exact key f (hof f h)
  · simp at h; subst h; exact key _ hpx
end
theorem OwnF.rd {w : World} {B : Nat} {l : List Frm} {AL : Option Addr} {cL base : Nat} (hrow : w.ownsRow base 48 3 (.slice AL l.length cL) l.length (flatF l)) (hof : OwnF w B l) (h : ∀ f ∈ l, f.pix.length ≤ 9223372036854775807) : RdF w AL l :=
  ⟨Rd.of_own hrow, fun f hf => ⟨(RdI.of_own (hof f hf)).1, h f hf⟩⟩

set_option maxRecDepth 100000 in
set_option maxHeartbeats 1000000 in
theorem Decode_body {b : List Int} {A : Option Addr} {c : Nat} (hbl : b.length ≤ 1000000000) (hcap : b.length ≤ c) (hbd : ∀ x ∈ b, 0 ≤ x ∧ x ≤ 255) (h0 : headF b = 0) (w : World) (ha : RdI .u8 w A b) :
    Calls Tryz.prog 14 #[.slice A b.length c] w (DecOut w b) := by
  obtain ⟨i0, hi, hz0, hz1, hz2⟩ := info_parts frameInfo
  obtain ⟨h5, h75, h83, h2, h3, h4⟩ := head_zero h0
  obtain ⟨q, o, n0, n1, n2, n3, n4, hA, HN, -, k0, k1, k2, k3, k4⟩ := head_cells ha h5 hbd
  obtain ⟨e0, e1, e2, e3, e4⟩ := HN.out
  rw [e0] at h75
  rw [e1] at h83
  rw [e2] at h2
  rw [e3] at h3
  rw [e4] at h4
  obtain rfl : n0 = 75 := by omega
  obtain rfl : n1 = 83 := by omega
  have C2 := Lib.hid (sideU_any n2 (by omega))
  have C3 := Lib.hid (sideU_any n3 (by omega))
  rw [show sideU n2 = true from decide_eq_true h2] at C2
  rw [show sideU n3 = true from decide_eq_true h3] at C3
  have hlt : ¬ (n4 : Int) < 1 := by omega
  have hgt : ¬ 16 < (n4 : Int) := by omega
  have hd : Hid (decF b = bodyF (b.drop 5) (8 * n2) (8 * n2 * (8 * n3)) n4) := Lib.hid (by
    unfold decF wOf hOf nOf
    rw [if_pos h0, e2, e3, e4]
    rfl)
  have HWO : Hid (wOf b = 8 * n2 ∧ hOf b = 8 * n3) := Lib.hid (by unfold wOf hOf; rw [e2, e3]; exact ⟨rfl, rfl⟩)
  have hx : RdI .u8 w (if c = 5 then A else A.map (·.add (5 * 1))) (b.drop 5) := by
    have := Rd.cut (k := 5) ha hcap
    unfold RdI
    rw [List.length_drop, List.map_drop]
    exact this
  have HXB : Hid (∀ x ∈ b.drop 5, 0 ≤ x ∧ x ≤ 255) := Lib.hid fun x hx => hbd x (List.mem_of_mem_drop hx)
  have HA := Lib.hid ha
  have hxl : (b.drop 5).length = b.length - 5 := List.length_drop
  have HXL := Lib.hid hxl
  have hx9 : (b.drop 5).length ≤ 1000000000 := by omega
  subst hA
  have HX1 : Hid (c = 5 → RdI .u8 w (some ⟨q, o, none⟩) (b.drop 5)) := Lib.hid fun h => by rw [if_pos h] at hx; exact hx
  have HX2 : Hid (¬ c = 5 → RdI .u8 w (some ⟨q, o + 5, none⟩) (b.drop 5)) := Lib.hid fun h => by
    rw [if_neg h] at hx
    simpa [add_lit] using hx
  obtain ⟨x, hxe⟩ : ∃ x, b.drop 5 = x := ⟨_, rfl⟩
  rw [hxe] at hd HXB HX1 HX2 HXL hx9
  obtain ⟨fw, hfw⟩ : ∃ fw, 8 * n2 = fw := ⟨_, rfl⟩
  obtain ⟨fh, hfh⟩ : ∃ fh, 8 * n3 = fh := ⟨_, rfl⟩
  rw [hfw, hfh] at hd
  rw [hfw, hfh] at HWO
  have hw1 : 8 ≤ fw ∧ fw ≤ 32 := by omega
  have hh1 : 8 ≤ fh ∧ fh ≤ 32 := by omega
  have HW8 : Hid (IntKind.i64.wrap (8 * (n2 : Int)) = fw) := Lib.hid (by rw [show 8 * (n2 : Int) = (fw : Int) by omega]; exact IntWalk.i64_in _ (by omega))
  have HH8 : Hid (IntKind.i64.wrap (8 * (n3 : Int)) = fh) := Lib.hid (by rw [show 8 * (n3 : Int) = (fh : Int) by omega]; exact IntWalk.i64_in _ (by omega))
  have hbd : Hid (decF b = match So.frames x (8 * x.length) fw (fw * fh) n4 [] 0 with
    | (.error (i, fr), _) => .error ((sSource, (i : Int)) :: frP fr, frC fr)
    | (.ok fs, p) => endF x n4 fs p) := Lib.hid hd.out
  clear ha hx hxl h0 e0 e1 e2 e3 e4 h75 h83 hxe hfw hfh hd
  go_enter Tryz.func14, Tryz.ntmps14
  go_wp2_with fail
  refine (C2.out _).mono ?_
  rintro e w' ⟨rfl, rfl⟩
  go_wp2_with fail
  refine (C3.out _).mono ?_
  rintro e w' ⟨rfl, rfl⟩
  go_wp2_with fail
  all_goals
    rw [← HXL.out]
    refine (NewReader_any hx9 HXB.out _ (by first | exact HX1.out (by assumption) | exact HX2.out (by assumption))).mono ?_
    rintro e w1 ⟨g, rfl, hrd1, hg1, hb1⟩
    have hgl := hrd1.lt
    have HRD1 := Lib.hid hrd1
    have HB1 := Lib.hid hb1
    have kk4 := cell_keep k4 hb1
    clear hrd1 hb1
    go_wp2_with fail
    clear kk4
    go_loopg [6, 67] n4 (fun k v6 v67 wr => ∃ (j p : Nat) (AL : Option Addr) (cL : Nat) (l : List Frm), j + k = n4 ∧ v67 = .int .i64 j ∧ Hid (l.length = j) ∧ v6 = .slice AL l.length cL ∧
      wr.ownsRow (g + 1) 48 3 (.slice AL l.length cL) l.length (flatF l) ∧ OwnF wr w.heap.size l ∧ Hid (∀ f ∈ l, f.w = fw ∧ f.h = fh ∧ f.pix.length ≤ 9223372036854775807) ∧
      Hid (So.frames x (8 * x.length) fw (fw * fh) n4 [] 0 = So.frames x (8 * x.length) fw (fw * fh) k (l.map Frm.pix) p) ∧
      RdrT 110 w.heap.size g wr g x p ∧ Below w.heap.size w wr ∧ g < wr.heap.size)
    case atStart => exact ⟨0, 0, none, 0, [], by omega, rfl, Lib.hid rfl, rfl, ⟨rfl, .inl ⟨rfl, rfl⟩⟩, (fun f hf => by cases hf), Lib.hid (fun f hf => by cases hf), Lib.hid rfl, HRD1.out, HB1.out, hgl⟩
    case round =>
      obtain ⟨j, p, AL, cL, l, hj, rfl, hll, rfl, hrow, hof, hfl, hrec, hrd, hbel, hgr⟩ := hrel
      have HROW := Lib.hid hrow
      have HOF := Lib.hid hof
      have HRD := Lib.hid hrd
      have kk2 := cell_keep k2 hbel
      have kk3 := cell_keep k3 hbel
      have HBEL := Lib.hid hbel
      clear hrow hof hrd hbel
      by_cases hlt4 : j < n4
      · obtain ⟨m, rfl⟩ : ∃ m, gk = m + 1 := ⟨gk - 1, by omega⟩
        have hlt4' : (j : Int) < (n4 : Int) := by omega
        have hw8 := HW8.out
        have hh8 := HH8.out
        have hv2 : IntKind.i64.wrap (n2 : Int) = n2 := IntWalk.i64_in _ (by omega)
        have hv3 : IntKind.i64.wrap (n3 : Int) = n3 := IntWalk.i64_in _ (by omega)
        cases hfr : So.frame x (8 * x.length) fw (fw * fh) p with
        | mk fr p2 =>
        rcases frame_bad hfr with ⟨pix, rfl⟩ | hbad
        · have CF : Hid (∀ W, Below wr.heap.size wr W → Calls Tryz.prog 39 #[.pointer (some ⟨g, 0, none⟩), .int .i64 fw, .int .i64 fh] W fun e w' => ∃ A c, e = .returned (.tuple #[.agg #[.int .i64 fw, .int .i64 fh, .slice A pix.length c], .nilIface]) ∧
              w'.ownsRow W.heap.size 3 1 (.slice A pix.length c) pix.length (pix.map (Value.int .i64)) ∧ ROut 110 w.heap.size g W g x p2 w') := Lib.hid fun W hW => frame_good hx9 hw1 hh1 hfr W (by have := hW.size; omega) (HRD.out.keep hW)
          have B1 : Below wr.heap.size wr wr.drew := (Below.refl _ _).drew
          have B2 : Below wr.heap.size wr (wr.alloc (.cells #[.int .i64 0, .int .i64 0, .slice none 0 0] 48)).drew := ((Below.refl _ _).alloc (Nat.le_refl _) _).drew
          have hZ2 := Lib.hid (Blk.new wr 48 #[.int .i64 0, .int .i64 0, .slice none 0 0]).drew
          have hsr : w.heap.size ≤ wr.heap.size := HBEL.out.size
          have h2l : (2 : Int) < (b.length : Int) := by omega
          have h3l : (3 : Int) < (b.length : Int) := by omega
          have hstep := Lib.hid (hrec.out.trans (frames_ok hfr))
          have HPL : Hid (pix.length ≤ 9223372036854775807) := Lib.hid (by
            have h1 := (So.frame_more (b' := x) (Nat.le_refl _) (fun _ _ => rfl) hfr).2.2.1
            have h2 : fw * fh ≤ 32 * 32 := Nat.mul_le_mul hw1.2 hh1.2
            omega)
          have hqz : ¬ q = wr.heap.size := by have := lt_of_cell k2; simp at this; omega
          clear hfr
          go_wp2_with fail
          go_region_held3 (fun W => W.cell? ⟨q, o + 2, none⟩ = some (.int .u8 n2) ∧ W.cell? ⟨q, o + 3, none⟩ = some (.int .u8 n3))
            (first | go_keep | exact hs8 | exact ⟨cell_chg hs8.1 (fr_set hz8).1 hqz, cell_chg hs8.2 (fr_set hz8).1 hqz⟩ | exact ⟨cell_keep hs8.1 ((Below.refl w8.heap.size w8).alloc (Nat.le_refl _) _), cell_keep hs8.2 ((Below.refl w8.heap.size w8).alloc (Nat.le_refl _) _)⟩ | fail)
            (first
              | (go_at_call 39; refine (CF.out _ B2).mono ?_; rintro e w8 ⟨A8, c8, rfl, ho8, hrd8, hch8⟩; have hs8 := And.intro (cell_chg (cell_keep kk2 B2) hch8 (show ¬ q = g by have := lt_of_cell k2; simp at this; omega)) (cell_chg (cell_keep kk3 B2) hch8 (show ¬ q = g by have := lt_of_cell k2; simp at this; omega)); have hz8 := hZ2.out.chg hch8 (show ¬ wr.heap.size = g by omega); have hf8 := fr_cells hz8)
              | (go_at_call 39; refine (CF.out _ B1).mono ?_; rintro e w8 ⟨A8, c8, rfl, ho8, hrd8, hch8⟩; have hs8 := And.intro (cell_chg (cell_keep kk2 B1) hch8 (show ¬ q = g by have := lt_of_cell k2; simp at this; omega)) (cell_chg (cell_keep kk3 B1) hch8 (show ¬ q = g by have := lt_of_cell k2; simp at this; omega)))
              | fail)
          all_goals
            first
              | (have hD := dec_step HBEL.out hg1 hgr HRD.out HROW.out HOF.out B1 hrd8 hch8 (z := w8.heap.size) (Chg.of_below ((Below.refl _ _).alloc (Nat.le_refl _) _)) (by have := hch8.size; exact this) (Blk.new w8 48 #[.int .i64 fw, .int .i64 fh, .slice A8 pix.length c8])
                 have hp9 := own_base (ho8.alloc (.cells #[.int .i64 fw, .int .i64 fh, .slice A8 pix.length c8] 48)) (show w.heap.size ≤ wr.drew.heap.size from hsr)
                 obtain ⟨W9, hW9⟩ : ∃ W9, w8.alloc (.cells #[.int .i64 fw, .int .i64 fh, .slice A8 pix.length c8] 48) = W9 := ⟨_, rfl⟩
                 obtain ⟨z, hz⟩ : ∃ z, w8.heap.size = z := ⟨_, rfl⟩
                 rw [hW9, hz] at hD ⊢
                 rw [hW9] at hp9)
              | (have hst := fr_set (a' := .int .i64 fw) (b' := .int .i64 fh) (c' := .slice A8 pix.length c8) hz8
                 have hD := dec_step HBEL.out hg1 hgr HRD.out HROW.out HOF.out B2 hrd8 hch8 hst.1 (Nat.le_refl _) hst.2
                 have hp9 := own_chg (own_base ho8 (show w.heap.size ≤ _ by simp; omega)) hst.1 (fun i hi e => own_notBlk ho8 hz8 (by decide) (by rw [hi, e]))
                 obtain ⟨W9, hW9⟩ : ∃ W9, ((w8.setCell ⟨wr.heap.size, 0, none⟩ (.int .i64 fw)).setCell ⟨wr.heap.size, 1, none⟩ (.int .i64 fh)).setCell ⟨wr.heap.size, 2, none⟩ (.slice A8 pix.length c8) = W9 := ⟨_, rfl⟩
                 obtain ⟨z, hz⟩ : ∃ z, wr.heap.size = z := ⟨_, rfl⟩
                 rw [hW9] at hp9
                 rw [hW9, hz] at hD ⊢)
          all_goals
            obtain ⟨hbel9, hrd9, hrow9, hof9, hg9, hz9⟩ := hD
            obtain ⟨⟨y0, y1, y2⟩, -⟩ := fr_cells hz9
            have HBEL9 := Lib.hid hbel9
            have HRD9 := Lib.hid hrd9
            have HROW9 := Lib.hid hrow9
            have HOF9 := Lib.hid hof9
            have HP9 := Lib.hid hp9
            have hlj : l.length ≤ 16 := by have := hll.out; omega
            clear hbel9 hrd9 hrow9 hof9 hp9 hz9 ho8 hrd8 hch8 hs8 hz hW9 hw8 hh8 hv2 hv3 kk2 kk3 B1 B2 hZ2
            go_wp2_with (at_builtin; refine wpList_append_lies _ rfl (.tmp 90) (.tmp 92) _ rfl (g + 1) 48 i0 _ 3 40 Tryz.underlying22 hi hz0 hz1 hz2 rfl (by omega) (.slice AL l.length cL) l.length _ rfl (HROW9.out.alloc _) ⟨W9.heap.size, 0, none⟩ 1 1 [.int .i64 fw, .int .i64 fh, .slice A8 pix.length c8] rfl rfl (World.news_of_block (cs := #[.int .i64 fw, .int .i64 fh, .slice A8 pix.length c8]) (t := 48) (fr := (0, 0)) (heap_alloc_new W9 _)) (by simp [Value.oneCell']) (by omega) (by unfold maxLen; omega) (by omega) (by simp; omega) _ rfl ?_; intro gb cap w9 hown9 hgrow9 hat9 hlt9)
            have hP := dec_push HBEL9.out hg1 hg9 HRD9.out HROW9.out HOF9.out HP9.out fw fh _ hgrow9
            have hfl9 : flatF (l ++ [(⟨fw, fh, A8, pix, c8⟩ : Frm)]) = flatF l ++ [.int .i64 fw, .int .i64 fh, .slice A8 pix.length c8] := by rw [flatF_app]; rfl
            have hln : (l ++ [(⟨fw, fh, A8, pix, c8⟩ : Frm)]).length = l.length + 1 := by simp
            have HOWN9 := Lib.hid hown9
            have HP := Lib.hid hP
            have HFL9 := Lib.hid hfl9
            have HLN := Lib.hid hln
            clear hown9 hgrow9 hat9 hP hfl9 hln y0 y1 y2
            go_roundg m
            case measure => omega
            case rel =>
              obtain ⟨hq1, hq2, hq3, hq4⟩ := HP.out
              exact ⟨j + 1, p2, some ⟨gb, 0, none⟩, cap, l ++ [⟨fw, fh, A8, pix, c8⟩], by omega, by go_num, Lib.hid (by rw [HLN.out, hll.out]), by rw [HLN.out], by rw [HLN.out, HFL9.out]; exact HOWN9.out, hq1,
                Lib.hid (fun f hf => by
                  rcases List.mem_append.1 hf with h | h
                  · exact hfl.out f h
                  · simp at h; subst h; exact ⟨rfl, rfl, HPL.out⟩),
                Lib.hid (by rw [hstep.out, List.map_append]; rfl), hq2, hq3, hq4⟩
        · have CF : Hid (∀ W, Below wr.heap.size wr W → Calls Tryz.prog 39 #[.pointer (some ⟨g, 0, none⟩), .int .i64 fw, .int .i64 fh] W fun e w' => ∃ T y, e = .returned (.tuple #[.agg #[.int .i64 0, .int .i64 0, .slice none 0 0], .iface T y]) ∧
              ErrAt w' (frP fr) (.iface 31 (.int .i64 (frC fr))) (.iface T y) ∧ ROut 110 w.heap.size g W g x p2 w') := Lib.hid fun W hW => frame_fails hx9 hw1 hh1 hfr hbad W (by have := hW.size; omega) (HRD.out.keep hW)
          have B1 : Below wr.heap.size wr wr.drew := (Below.refl _ _).drew
          have B2 : Below wr.heap.size wr (wr.alloc (.cells #[.int .i64 0, .int .i64 0, .slice none 0 0] 48)).drew := ((Below.refl _ _).alloc (Nat.le_refl _) _).drew
          have hZ2 := Lib.hid (Blk.new wr 48 #[.int .i64 0, .int .i64 0, .slice none 0 0]).drew
          have hsr : w.heap.size ≤ wr.heap.size := HBEL.out.size
          have h2l : (2 : Int) < (b.length : Int) := by omega
          have h3l : (3 : Int) < (b.length : Int) := by omega
          have hqz : ¬ q = wr.heap.size := by have := lt_of_cell k2; simp at this; omega
          have hend : Hid (decF b = .error ((sSource, (j : Int)) :: frP fr, frC fr)) := Lib.hid (by
            rw [hbd.out, hrec.out, frames_no hfr hbad]
            simp only [List.length_map]
            rw [hll.out])
          clear hfr hbad
          go_wp2_with fail
          go_region_held3 (fun W => W.cell? ⟨q, o + 2, none⟩ = some (.int .u8 n2) ∧ W.cell? ⟨q, o + 3, none⟩ = some (.int .u8 n3))
            (first | go_keep | exact hs8 | exact ⟨cell_chg hs8.1 (fr_set hz8).1 hqz, cell_chg hs8.2 (fr_set hz8).1 hqz⟩ | exact ⟨cell_keep hs8.1 ((Below.refl w8.heap.size w8).alloc (Nat.le_refl _) _), cell_keep hs8.2 ((Below.refl w8.heap.size w8).alloc (Nat.le_refl _) _)⟩ | fail)
            (first
              | (go_at_call 39; refine (CF.out _ B2).mono ?_; rintro e w8 ⟨T8, y8, rfl, hE8, hrd8, hch8⟩; have hs8 := And.intro (cell_chg (cell_keep kk2 B2) hch8 (show ¬ q = g by have := lt_of_cell k2; simp at this; omega)) (cell_chg (cell_keep kk3 B2) hch8 (show ¬ q = g by have := lt_of_cell k2; simp at this; omega)); have hz8 := hZ2.out.chg hch8 (show ¬ wr.heap.size = g by omega); have hf8 := fr_cells hz8)
              | (go_at_call 39; refine (CF.out _ B1).mono ?_; rintro e w8 ⟨T8, y8, rfl, hE8, hrd8, hch8⟩; have hs8 := And.intro (cell_chg (cell_keep kk2 B1) hch8 (show ¬ q = g by have := lt_of_cell k2; simp at this; omega)) (cell_chg (cell_keep kk3 B1) hch8 (show ¬ q = g by have := lt_of_cell k2; simp at this; omega)))
              | fail)
          all_goals
            first
              | (have hD := (dec_step HBEL.out hg1 hgr HRD.out HROW.out HOF.out B1 hrd8 hch8 (z := w8.heap.size) (Chg.of_below ((Below.refl _ _).alloc (Nat.le_refl _) _)) (by have := hch8.size; exact this) (Blk.new w8 48 #[.int .i64 0, .int .i64 0, .slice none 0 0])).1
                 have hE9 := hE8.below ((Below.refl w8.heap.size w8).alloc (Nat.le_refl _) (.cells #[.int .i64 0, .int .i64 0, .slice none 0 0] 48))
                 obtain ⟨W9, hW9⟩ : ∃ W9, w8.alloc (.cells #[.int .i64 0, .int .i64 0, .slice none 0 0] 48) = W9 := ⟨_, rfl⟩
                 rw [hW9] at hE9
                 rw [hW9] at hD ⊢)
              | (have hst := fr_set (a' := .int .i64 0) (b' := .int .i64 0) (c' := .slice none 0 0) hz8
                 have hD := (dec_step HBEL.out hg1 hgr HRD.out HROW.out HOF.out B2 hrd8 hch8 hst.1 (Nat.le_refl _) hst.2).1
                 have hE9 := hE8.chg hz8 hst.1
                 obtain ⟨W9, hW9⟩ : ∃ W9, ((w8.setCell ⟨wr.heap.size, 0, none⟩ (.int .i64 0)).setCell ⟨wr.heap.size, 1, none⟩ (.int .i64 0)).setCell ⟨wr.heap.size, 2, none⟩ (.slice none 0 0) = W9 := ⟨_, rfl⟩
                 rw [hW9] at hE9
                 rw [hW9] at hD ⊢)
          all_goals
            have HBEL9 := Lib.hid hD
            have HE9 := Lib.hid hE9
            clear hD hE9 hE8 hrd8 hch8 hs8 hW9 hw8 hh8 hv2 hv3 kk2 kk3 B1 B2 hZ2
            go_wp2_with fail
            refine (In_some _ _ _ _ _).mono ?_
            rintro e w10 ⟨rfl, hB10, hb10⟩
            go_wp2_with fail
            go_ret2
            unfold DecOut
            rw [hend.out]
            exact ⟨⟨_, rfl, _, _, rfl, hB10, HE9.out.below hb10⟩, HBEL9.out.trans (hb10.mono HBEL9.out.size)⟩
      · obtain rfl : j = n4 := by omega
        obtain rfl : gk = 0 := by omega
        have hbd2 : Hid (decF b = endF x j (l.map Frm.pix) p) := Lib.hid (by rw [hbd.out, hrec.out]; rfl)
        obtain ⟨fo, hfo⟩ : ∃ fo, firstOne x p (padTo p) = fo := ⟨_, rfl⟩
        have CA := Lib.hid (Align_any hx9 _ HRD.out)
        rw [hfo] at CA
        have HFO := Lib.hid hfo
        have HS : Hid (∀ a, firstOne x p (padTo p) = some a → decF b = .error ([(sSource, (j : Int)), (sBits, (a : Int))], 2)) := Lib.hid (fun a h => by rw [hbd2.out]; unfold endF; rw [h])
        have HN0 : Hid (firstOne x p (padTo p) = none → decF b = if p + padTo p < 8 * x.length then .error ([(sSource, (j : Int))], 5) else .ok (l.map Frm.pix)) := Lib.hid (fun h => by rw [hbd2.out]; unfold endF; rw [h])
        clear hfo hlt4 kk2 kk3
        go_wp2_with fail
        refine CA.out.mono ?_
        rintro e w5 ⟨v, rfl, hE5, hrd5, hch5⟩
        have hb5 := HBEL.out.trans (hch5.below HBEL.out.size (fun i e => by omega))
        obtain ⟨_, _, A0, c0, hBg, _⟩ := HRD.out
        have hrow5 := own_chg HROW.out hch5 (fun i hi e => own_notBlk HROW.out hBg (by decide) (by rw [hi, e]))
        have hof5 : OwnF w5 w.heap.size l := fun f hf => own_chg (HOF.out f hf) hch5 (fun i hi e => own_notBlk (HOF.out f hf) hBg (by decide) (by rw [hi, e]))
        have HR5 := Lib.hid (hof5.rd hrow5 (fun f hf => (hfl.out f hf).2.2))
        have HB5 := Lib.hid hb5
        clear hb5 hBg hrow5 hof5 hch5
        rcases fo with _ | a
        · have hv0 : v = .nilIface := by
            rcases hE5 with ⟨_, _, h⟩ | ⟨h, _⟩
            · exact h
            · exact absurd rfl h
          subst hv0
          obtain ⟨P, hP⟩ : ∃ P, p + padTo p = P := ⟨_, rfl⟩
          have hrd6 := hrd5
          rw [hP] at hrd6
          have hends := Lib.hid (HN0.out HFO.out)
          rw [hP] at hends
          have hP8 := hrd6.1
          have CL := Lib.hid (Left_any hx9 _ hrd6)
          clear hE5 hrd5 hrd6 hP
          by_cases hlt9 : P < 8 * x.length
          · have hend := Lib.hid (hends.out.trans (if_pos hlt9))
            go_wp2_with fail
            refine CL.out.mono ?_
            rintro e w6 ⟨rfl, nq, rfl⟩
            have hb6 := below_drewN HB5.out nq
            generalize w5.drewN nq = w6 at *
            go_wp2_with fail
            refine (In_some _ _ _ _ _).mono ?_
            rintro e w7 ⟨rfl, hB7, hb7⟩
            go_wp2_with fail
            go_ret2
            unfold DecOut
            rw [hend.out]
            rw [hll.out] at hB7
            exact ⟨⟨_, rfl, _, _, rfl, hB7, rfl⟩, hb6.trans (hb7.mono hb6.size)⟩
          · have hend := Lib.hid (hends.out.trans (if_neg hlt9))
            go_wp2_with fail
            refine CL.out.mono ?_
            rintro e w6 ⟨rfl, nq, rfl⟩
            have hb6 := below_drewN HB5.out nq
            have hr6 := HR5.out.keep (below_drewN (Below.refl _ w5) nq)
            generalize w5.drewN nq = w6 at *
            go_wp2_with fail
            go_ret2
            unfold DecOut
            rw [hend.out, HWO.out.1, HWO.out.2]
            exact ⟨⟨_, _, l, rfl, hr6, rfl, fun f hf => ⟨(hfl.out f hf).1, (hfl.out f hf).2.1⟩⟩, hb6⟩
        · have hE6 : ErrAt w5 [(sBits, (a : Int))] (.iface 31 (.int .i64 2)) v := by
            rcases hE5 with ⟨h, _⟩ | ⟨_, h⟩
            · exact absurd h (show (2 : Int) ≠ 0 by decide)
            · exact h
          obtain ⟨T9, y9, rfl⟩ := hE6.iface
          have HE6 := Lib.hid hE6
          have hend := Lib.hid (HS.out a HFO.out)
          clear hE5 hE6 hrd5
          go_wp2_with fail
          refine (In_some _ _ _ _ _).mono ?_
          rintro e w7 ⟨rfl, hB7, hb7⟩
          go_wp2_with fail
          go_ret2
          unfold DecOut
          rw [hend.out]
          rw [hll.out] at hB7
          exact ⟨⟨_, rfl, _, _, rfl, hB7, HE6.out.below hb7⟩, HB5.out.trans (hb7.mono HB5.out.size)⟩

theorem Decode_any {b : List Int} {A : Option Addr} {c : Nat} (hbl : b.length ≤ 1000000000) (hcap : b.length ≤ c) (hbd : ∀ x ∈ b, 0 ≤ x ∧ x ≤ 255) (w : World) (ha : RdI .u8 w A b) :
    Calls Tryz.prog 14 #[.slice A b.length c] w (DecOut w b) := by
  by_cases h5 : b.length < 5
  · exact Decode_1 h5 w
  · by_cases h2 : b.getD 0 0 = 75 ∧ b.getD 1 0 = 83
    · by_cases h3 : (1 ≤ b.getD 2 0 ∧ b.getD 2 0 ≤ 4) ∧ (1 ≤ b.getD 3 0 ∧ b.getD 3 0 ≤ 4) ∧ 1 ≤ b.getD 4 0 ∧ b.getD 4 0 ≤ 16
      · refine Decode_body hbl hcap hbd ?_ w ha
        unfold headF
        rw [if_neg h5, if_neg (fun h => h h2), if_neg (fun h => h h3)]
      · exact Decode_3 (by omega) hbd h2 h3 w ha
    · exact Decode_2 (by omega) hbd h2 w ha

end Go.Proofs.YtnccebfapihpjaaGreatDoor
