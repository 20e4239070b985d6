/- The walk of SourceGuesses: the guess at any place of any frame. -/
import Derived.Test.YtnccebfapihpjaaDoorSourceFirst
namespace Go.Proofs.YtnccebfapihpjaaDoor
open Go Go.RowKit Go.Extern.Stop Go.Stop Go.Extern

set_option maxRecDepth 100000 in
set_option maxHeartbeats 1000000 in
theorem SourceGuesses_walk {fw fh x y : Int} {pix : List Int} {A : Option Addr} {c : Nat} (hl : pix.length ≤ 9223372036854775807) (w : World) (ha : RdI .i64 w A pix) (hg : Gl w) (hT : Tb w) :
    Calls Tryd.prog 5 #[.agg #[.int .i64 fw, .int .i64 fh, .slice A pix.length c], .int .i64 x, .int .i64 y] w fun e w' => e = .returned (.bool true) ∧ Below w.heap.size w w' := by
  have HA := Lib.hid ha
  have HG := Lib.hid hg
  have HT := Lib.hid hT
  have hb0 : Below w.heap.size w (w.alloc (.cells #[.int .i64 fw, .int .i64 fh, .slice A pix.length c] 36)) := (Below.refl _ _).alloc (Nat.le_refl _) _
  have hB0 := Blk.new w 36 #[.int .i64 fw, .int .i64 fh, .slice A pix.length c]
  obtain ⟨n, hn⟩ : ∃ n, pix.length = n := ⟨_, rfl⟩
  have HL := Lib.hid hn
  rw [hn] at hb0 hB0 hl ⊢
  have HB0 := Lib.hid hb0
  have HBL0 := Lib.hid hB0
  have C1 := Lib.hid (first_true _ (hg.keep hb0) (hT.keep hb0))
  clear ha hg hT hb0 hB0 hn
  go_enter Tryd.func5, Tryd.ntmps5
  go_wp2_with fail
  refine C1.out.mono ?_
  rintro e w1 ⟨rfl, hb1⟩
  have hb1' := HB0.out.trans (hb1.mono HB0.out.size)
  have hB1 := HBL0.out.keep hb1
  obtain ⟨⟨r0, r1, r2⟩, -⟩ := fr_cells hB1
  have HB1 := Lib.hid hb1'
  have HBL1 := Lib.hid hB1
  clear hb1 hb1' hB1 C1
  by_cases hbig : 20000 < (n : Int)
  · go_wp2_with fail
    refine (first_true _ (HG.out.keep HB1.out) (HT.out.keep HB1.out)).mono ?_
    rintro e w2 ⟨rfl, hb2⟩
    have HB2 := Lib.hid (HB1.out.trans (hb2.mono HB1.out.size))
    clear hb2
    go_wp2_with fail
    go_ret
    exact ⟨rfl, HB2.out⟩
  · have C2 := Lib.hid (Guess_any (fw := fw) (fh := fh) (x := x) (y := y) (c := c) (by rw [HL.out]; exact hl) _ (HA.out.keep HB1.out))
    rw [HL.out] at C2
    obtain ⟨gv, hgv⟩ : ∃ gv, guessF fw fh pix x y = gv := ⟨_, rfl⟩
    have hgb := guessF_bd fw fh pix x y
    rw [hgv] at C2 hgb
    have HGV := Lib.hid hgv
    clear hgv
    go_wp2_with fail
    refine C2.out.mono ?_
    rintro e w2 ⟨rfl, hb2⟩
    have hb2' := HB1.out.trans (hb2.mono HB1.out.size)
    have hB2 := HBL1.out.keep hb2
    have HB2 := Lib.hid hb2'
    have HBL2 := Lib.hid hB2
    clear hb2 hb2' hB2 C2 r0 r1 r2
    go_wp2_with fail
    refine (first_true _ (HG.out.keep HB2.out) (HT.out.keep HB2.out)).mono ?_
    rintro e w3 ⟨rfl, hb3⟩
    have hb3' := HB2.out.trans (hb3.mono HB2.out.size)
    obtain ⟨⟨r0, r1, r2⟩, -⟩ := fr_cells (HBL2.out.keep hb3)
    have HB3 := Lib.hid hb3'
    have C3 := Lib.hid (RGuess_any (fw := fw) (fh := fh) (x := x) (y := y) (c := c) (by rw [HL.out]; exact hl) _ (HA.out.keep hb3'))
    rw [HL.out, HGV.out] at C3
    clear hb3 hb3'
    go_wp2_with fail
    refine C3.out.mono ?_
    rintro e w4 ⟨rfl, hb4⟩
    have HB4 := Lib.hid (HB3.out.trans (hb4.mono HB3.out.size))
    have heq : (gv == gv) = true := by simp
    clear hb4 r0 r1 r2
    go_wp2_with fail
    go_ret
    exact ⟨rfl, HB4.out⟩

end Go.Proofs.YtnccebfapihpjaaDoor
