/- Contract of kinref15.frame. -/
import Derived.Test.YtnccebfapihpjaaGreatDoorSourceRN
import Derived.Test.YtnccebfapihpjaaGreatDoorDecL
import Derived.Test.YtnccebfapihpjaaGreatDoorCodesRR3
import Derived.Test.YtnccebfapihpjaaGreatDoorSourceFr
import Derived.RegionTactic
namespace Go.Proofs.YtnccebfapihpjaaGreatDoor
open Go Go.RowKit Go.Extern.Stop Go.Stop Go.Extern

theorem OK_below (c : Int) (s : Value) (w : World) : Calls Tryz.prog 32 #[.agg #[.int .i64 c, s]] w fun e w' => e = .returned (.bool (c == 0)) ∧ Below w.heap.size w w' :=
  (OK_any c s w).mono fun _ _ ⟨he, hw⟩ => ⟨he, hw ▸ (Below.refl _ _).alloc (Nat.le_refl _) _⟩

/-- What the document's frame answers, seen apart. -/
def RFrP (B : Nat) (fw fh : Nat) (fr : So.Fr) (a b c : Int) (v : Value) (A : Option Addr) (n cap : Nat) (w' : World) : Prop :=
  (∃ pix A' c', fr = .ok pix ∧ a = fw ∧ b = fh ∧ v = .slice A' pix.length c' ∧ w'.ownsRow B 3 1 (.slice A' pix.length c') pix.length (pix.map (Value.int .i64)) ∧ c = 0 ∧ A = none ∧ n = 0 ∧ cap = 0) ∨
  (Bad fr ∧ v = .slice none 0 0 ∧ c = frC fr ∧ n = (frP fr).length ∧ Rd w' 2 A n (flatP (frP fr)) ∧ ∀ x, A = some x → B ≤ x.block)
def RFrOut (lo hi : Nat) (w : World) (g : Nat) (x : List Int) (fw fh : Nat) (r : So.Fr × Nat) (e : Ending) (w' : World) : Prop :=
  ∃ (a b c : Int) (v : Value) (A : Option Addr) (n cap : Nat), e = .returned (.tuple #[.agg #[.int .i64 a, .int .i64 b, v], .agg #[.int .i64 c, .slice A n cap]]) ∧ RFrP w.heap.size fw fh r.1 a b c v A n cap w' ∧ ROut 85 lo hi w g x r.2 w'

/-- The call's own blocks, and the reader. -/
structure RFm (lo hi g : Nat) (x : List Int) (fw fh : Nat) (w : World) (e9 : Array Value) (z9 z10 : Nat) (q : Nat) (vP : Value) (wr : World) : Prop where
  f6 : Blk wr w.heap.size 48 #[.int .i64 0, .int .i64 0, .slice none 0 0]
  f7 : Blk wr (w.heap.size + 1) 34 #[.int .i64 0, .slice none 0 0]
  f9 : Blk wr z9 34 e9
  f10 : Blk wr z10 48 #[.int .i64 fw, .int .i64 fh, vP]
  rd : RdrT 85 lo hi wr g x q
  ch : Chg (fun i => i = g) w wr
  h9 : w.heap.size + 1 < z9
  h10 : w.heap.size + 1 < z10
  hg : g < w.heap.size
  hhi : hi ≤ w.heap.size

section
variable {lo hi g : Nat} {x : List Int} {fw fh : Nat} {w : World} {e9 : Array Value} {z9 z10 : Nat} {q q' : Nat} {vP : Value} {wr w' : World}
theorem RFm.below (h : RFm lo hi g x fw fh w e9 z9 z10 q vP wr) (hb : Below wr.heap.size wr w') : RFm lo hi g x fw fh w e9 z9 z10 q vP w' :=
  ⟨h.f6.keep hb, h.f7.keep hb, h.f9.keep hb, h.f10.keep hb, h.rd.keep hb, h.ch.trans (Chg.of_below hb), h.h9, h.h10, h.hg, h.hhi⟩
theorem RFm.read (h : RFm lo hi g x fw fh w e9 z9 z10 q vP wr) (ho : ROut 85 lo hi wr g x q' w') : RFm lo hi g x fw fh w e9 z9 z10 q' vP w' := by
  have hg := h.hg
  have h9 := h.h9
  have h10 := h.h10
  exact ⟨h.f6.chg ho.2 (by omega), h.f7.chg ho.2 (by omega), h.f9.chg ho.2 (by omega), h.f10.chg ho.2 (by omega), ho.1, h.ch.trans ho.2, h.h9, h.h10, h.hg, h.hhi⟩
/-- Behind the append of a sample. -/
theorem RFm.push {n : Nat} {v0 : Value} {xs : List Value} {w9 : World} (h : RFm lo hi g x fw fh w e9 z9 z10 q vP wr) (hown : wr.ownsRow w.heap.size 3 1 v0 n xs) (o : Obj) (hgrow : (wr.alloc o).grownBy w9 v0.ownBlock) :
    RFm lo hi g x fw fh w e9 z9 z10 q vP w9 := by
  have B0 : Below wr.heap.size wr (wr.alloc o) := (Below.refl _ _).alloc (Nat.le_refl _) _
  have h1 := h.below B0
  have ho1 := own_keep hown B0
  have hc : Chg (fun i => v0.ownBlock = some i) (wr.alloc o) w9 := Chg.of_grown hgrow (fun i _ e => e.symm)
  have hlow : ∀ i, v0.ownBlock = some i → w.heap.size ≤ i := fun i hi => (hown.lt i hi).1
  have hhi := h.hhi
  obtain ⟨_, _, A0, c0, hBr, _⟩ := h1.rd
  exact ⟨h1.f6.chg hc (own_notBlk ho1 h1.f6 (by decide)), h1.f7.chg hc (own_notBlk ho1 h1.f7 (by decide)), h1.f9.chg hc (own_notBlk ho1 h1.f9 (by decide)), h1.f10.chg hc (own_notBlk ho1 h1.f10 (by decide)),
    h1.rd.chg hc (own_notBlk ho1 hBr (by decide)) (fun i _ h3 e => by have := hlow i e; omega), h1.ch.step hc (fun i h3 e => by have := hlow i e; omega), h.h9, h.h10, h.hg, h.hhi⟩
theorem RFm.put (h : RFm lo hi g x fw fh w e9 z9 z10 q vP wr) (hne : z9 ≠ z10) (v : Value) : RFm lo hi g x fw fh w e9 z9 z10 q v (wr.setCell ⟨z10, 2, none⟩ v) := by
  have h10 := h.h10
  have hg := h.hg
  have hhi := h.hhi
  have hc := (Chg.refl (fun i => i = z10) wr).setCell (p := ⟨z10, 2, none⟩) (fun _ => rfl) v
  refine ⟨h.f6.chg hc (by omega), h.f7.chg hc (by omega), h.f9.chg hc hne, ?_, h.rd.chg hc (by omega) (fun i _ h2 => by omega), h.ch.step hc (fun i h1 h2 => by omega), h.h9, h.h10, h.hg, h.hhi⟩
  have := h.f10.store 2 v
  simpa using this
/-- Behind stores into the result's two cells. -/
theorem RFm.out (h : RFm lo hi g x fw fh w e9 z9 z10 q vP wr) (hc : Chg (fun i => i = w.heap.size ∨ i = w.heap.size + 1) wr w') : ROut 85 lo hi w g x q w' := by
  have hg := h.hg
  have hhi := h.hhi
  exact ⟨h.rd.chg hc (by omega) (fun i h1 h2 => by omega), h.ch.step hc (fun i h1 h2 => by omega)⟩
end
theorem res_set {w wr : World} {a b v a' b' v' c s c' s' : Value} (h6 : Blk wr w.heap.size 48 #[a, b, v]) (h7 : Blk wr (w.heap.size + 1) 34 #[c, s]) :
    Chg (fun i => i = w.heap.size ∨ i = w.heap.size + 1) wr (((((wr.setCell ⟨w.heap.size, 0, none⟩ a').setCell ⟨w.heap.size, 1, none⟩ b').setCell ⟨w.heap.size, 2, none⟩ v').setCell ⟨w.heap.size + 1, 0, none⟩ c').setCell ⟨w.heap.size + 1, 1, none⟩ s') ∧
    Blk (((((wr.setCell ⟨w.heap.size, 0, none⟩ a').setCell ⟨w.heap.size, 1, none⟩ b').setCell ⟨w.heap.size, 2, none⟩ v').setCell ⟨w.heap.size + 1, 0, none⟩ c').setCell ⟨w.heap.size + 1, 1, none⟩ s') w.heap.size 48 #[a', b', v'] ∧
    Blk (((((wr.setCell ⟨w.heap.size, 0, none⟩ a').setCell ⟨w.heap.size, 1, none⟩ b').setCell ⟨w.heap.size, 2, none⟩ v').setCell ⟨w.heap.size + 1, 0, none⟩ c').setCell ⟨w.heap.size + 1, 1, none⟩ s') (w.heap.size + 1) 34 #[c', s'] := by
  obtain ⟨c1, b1⟩ := fr_set (a' := a') (b' := b') (c' := v') h6
  have h7' := h7.chg c1 (show ¬ w.heap.size + 1 = w.heap.size by omega)
  obtain ⟨c2, b2⟩ := er_set (a' := c') (b' := s') h7'
  exact ⟨(c1.mono (fun i _ h => Or.inl h)).trans (c2.mono (fun i _ h => Or.inr h)), b1.chg c2 (show ¬ w.heap.size = w.heap.size + 1 by omega), b2⟩

set_option maxRecDepth 100000 in
set_option maxHeartbeats 4000000 in
theorem rframe_short {lo hi g : Nat} {b : List Int} {p fw fh : Nat} (hb : b.length ≤ 1000000000) (hs : 8 * b.length < p + 3) (w : World) (hhi : hi ≤ w.heap.size) (h : RdrT 85 lo hi w g b p) :
    Calls Tryz.prog 43 #[.pointer (some ⟨g, 0, none⟩), .int .i64 fw, .int .i64 fh] w (RFrOut lo hi w g b fw fh (.bits (.short p), p)) := by
  have hg := h.lt
  have hb1 : Below w.heap.size w (w.alloc (.cells #[.int .i64 0, .int .i64 0, .slice none 0 0] 48)) := (Below.refl _ _).alloc (Nat.le_refl _) _
  have hb2 := hb1.alloc hb1.size (.cells #[.int .i64 0, .slice none 0 0] 34)
  have hz6 := (Blk.new w 48 #[.int .i64 0, .int .i64 0, .slice none 0 0]).alloc (.cells #[.int .i64 0, .slice none 0 0] 34)
  have hz7 := Blk.new1 w (.cells #[.int .i64 0, .int .i64 0, .slice none 0 0] 48) 34 #[.int .i64 0, .slice none 0 0]
  have CS := Lib.hid (RGet_short (n := 3) hb (by omega) hs _ (h.keep hb2))
  have HB2 := Lib.hid hb2
  have HZ6 := Lib.hid hz6
  have HZ7 := Lib.hid hz7
  have HRD := Lib.hid h
  clear h hb1 hb2 hz6 hz7
  go_enter Tryz.func43, Tryz.ntmps43
  go_wp2_with fail
  refine CS.out.mono ?_
  unfold RErr
  rintro e w3 ⟨A3, cap3, rfl, hrd3, hfar3, hb3⟩
  have hs3 := hb3.size
  simp only [World.alloc, Array.size_push] at hs3
  have hbw3 := HB2.out.trans (hb3.mono HB2.out.size)
  have al : Below w3.heap.size w3 ((w3.alloc (.cells #[.int .i64 1, .slice A3 1 cap3] 34)).alloc (.cells #[.int .i64 fw, .int .i64 fh, .slice none 0 0] 48)) := ((Below.refl _ _).alloc (Nat.le_refl _) _).alloc (by simp) _
  have HF : Hid (RFm lo hi g b fw fh w #[.int .i64 1, .slice A3 1 cap3] w3.heap.size (w3.heap.size + 1) p (.slice none 0 0) ((w3.alloc (.cells #[.int .i64 1, .slice A3 1 cap3] 34)).alloc (.cells #[.int .i64 fw, .int .i64 fh, .slice none 0 0] 48))) :=
    Lib.hid ⟨(HZ6.out.keep hb3).keep al, (HZ7.out.keep hb3).keep al, (Blk.new w3 34 #[.int .i64 1, .slice A3 1 cap3]).alloc _, Blk.new1 _ _ _ _, (HRD.out.keep hbw3).keep al, (Chg.of_below hbw3).trans (Chg.of_below al), by omega, by omega, hg, hhi⟩
  have HP3 := Lib.hid (show Rd w3 2 A3 1 (flatP [(sBits, (p : Int))]) from hrd3)
  have hfar : Hid (∀ a, A3 = some a → w.heap.size + 2 ≤ a.block ∧ a.block < w3.heap.size) := Lib.hid fun a ha => ⟨by have := hfar3 a ha; simpa using this, by
    obtain ⟨b', o', hA, hc⟩ := hrd3.2 (by simp)
    have h1 := lt_of_cell (hc 0 (.string sBits) rfl)
    rw [ha] at hA
    injection hA with hA
    subst hA
    exact h1⟩
  have HAL := Lib.hid al
  clear hrd3 hfar3 hb3 hbw3 al CS
  go_wp2_with fail
  go_loopg [11] (0 : Nat) (fun k v11 wr => v11 = .int .i64 0 ∧ RFm lo hi g b fw fh w #[.int .i64 1, .slice A3 1 cap3] w3.heap.size (w3.heap.size + 1) p (.slice none 0 0) wr ∧ Rd wr 2 A3 1 (flatP [(sBits, (p : Int))]))
  case atStart => exact ⟨rfl, HF.out, HP3.out.keep HAL.out⟩
  case round =>
    obtain ⟨rfl, hf, hpr⟩ := hrel
    have HFR := Lib.hid hf
    have HPR := Lib.hid hpr
    obtain ⟨⟨r0, r1⟩, -⟩ := er_cells hf.f9
    clear hf hpr
    go_wp2_with fail
    refine (OK_below _ _ _).mono ?_
    rintro e w5 ⟨rfl, hb5⟩
    have hf5 := HFR.out.below hb5
    have hp5 := HPR.out.keep hb5
    obtain ⟨⟨t0, t1⟩, -⟩ := er_cells hf5.f9
    obtain ⟨⟨y0, y1, y2⟩, -⟩ := fr_cells hf5.f10
    obtain ⟨⟨u0, u1, u2⟩, g0, g1, g2⟩ := fr_cells hf5.f6
    obtain ⟨⟨x0, x1⟩, g3, g4⟩ := er_cells hf5.f7
    obtain ⟨hst, hs6, hs7⟩ := res_set (a' := .int .i64 fw) (b' := .int .i64 fh) (v' := .slice none 0 0) (c' := .int .i64 1) (s' := .slice A3 1 cap3) hf5.f6 hf5.f7
    obtain ⟨⟨s0, s1, s2⟩, -⟩ := fr_cells hs6
    obtain ⟨⟨s3, s4⟩, -⟩ := er_cells hs7
    have HF5 := Lib.hid hf5
    have HST := Lib.hid hst
    have HP5 := Lib.hid hp5
    clear hf5 hst hs6 hs7 hp5 hb5 r0 r1
    go_wp2_with fail
    go_region
    all_goals
      go_wp2_with fail
      refine bodyPost_ret (v := .tuple #[.agg #[.int .i64 fw, .int .i64 fh, .slice none 0 0], .agg #[.int .i64 1, .slice A3 1 cap3]]) (by simp [results, Tryz.results43, go_sem, s0, s1, s2, s3, s4]) rfl ?_
      exact ⟨fw, fh, 1, .slice none 0 0, A3, 1, cap3, rfl, .inr ⟨.inl ⟨p, rfl⟩, rfl, rfl, rfl, (HP5.out.chg HST.out (fun a ha => by have := (hfar.out a ha).1; omega)).drew, fun a ha => by have := (hfar.out a ha).1; omega⟩, HF5.out.out HST.out.drew⟩

set_option maxRecDepth 100000 in
set_option maxHeartbeats 8000000 in
theorem rframe_long {lo hi g : Nat} {b : List Int} {p fw fh : Nat} (hb : b.length ≤ 1000000000) (hw1 : 8 ≤ fw ∧ fw ≤ 32) (hh1 : 8 ≤ fh ∧ fh ≤ 32) (hs : ¬ 8 * b.length < p + 3) (w : World) (hhi : hi ≤ w.heap.size) (h : RdrT 85 lo hi w g b p) :
    Calls Tryz.prog 43 #[.pointer (some ⟨g, 0, none⟩), .int .i64 fw, .int .i64 fh] w (RFrOut lo hi w g b fw fh (So.frame b (8 * b.length) fw (fw * fh) p)) := by
  obtain ⟨i0, hi0, hz0, hz1, hz2⟩ := info_parts intInfo
  have hg := h.lt
  obtain ⟨n, hn⟩ : ∃ n, fw * fh = n := ⟨_, rfl⟩
  have hn1 : n ≤ 1024 := by rw [← hn]; exact Nat.mul_le_mul hw1.2 hh1.2
  have hmi : (fw : Int) * (fh : Int) = (n : Int) := by rw [← hn]; simp
  have HNI : Hid (IntKind.i64.wrap ((fw : Int) * (fh : Int)) = n) := Lib.hid (by rw [hmi]; exact IntWalk.i64_in _ (by omega))
  rw [hn]
  have hnb := Bi.num_bd b p 3
  obtain ⟨K, hK⟩ : ∃ K : Nat, Bi.num b p 3 = K := ⟨(Bi.num b p 3).toNat, by omega⟩
  rw [hK] at hnb
  have hK7 : K ≤ 7 := by have := hnb.2; simp only [Int.reducePow] at this; omega
  have hfr : Hid (So.frame b (8 * b.length) fw n p = So.samples b (8 * b.length) K fw n [] (p + 3)) := Lib.hid (by unfold So.frame; rw [if_neg hs, hK]; rfl)
  have hp3 : p + 3 ≤ 8 * b.length := by omega
  have hb1 : Below w.heap.size w (w.alloc (.cells #[.int .i64 0, .int .i64 0, .slice none 0 0] 48)) := (Below.refl _ _).alloc (Nat.le_refl _) _
  have hb2 := hb1.alloc hb1.size (.cells #[.int .i64 0, .slice none 0 0] 34)
  have hz6 := (Blk.new w 48 #[.int .i64 0, .int .i64 0, .slice none 0 0]).alloc (.cells #[.int .i64 0, .slice none 0 0] 34)
  have hz7 := Blk.new1 w (.cells #[.int .i64 0, .int .i64 0, .slice none 0 0] 48) 34 #[.int .i64 0, .slice none 0 0]
  have CS := Lib.hid (RGet_ok (n := 3) hb (by omega) hp3 _ (Nat.le_trans hhi hb2.size) (h.keep hb2))
  rw [hK] at CS
  have HB2 := Lib.hid hb2
  have HZ6 := Lib.hid hz6
  have HZ7 := Lib.hid hz7
  clear h hb1 hb2 hz6 hz7 hn hmi hnb hK hs
  go_enter Tryz.func43, Tryz.ntmps43
  go_wp2_with fail
  refine CS.out.mono ?_
  rintro e w3 ⟨rfl, hrd3, hch3⟩
  have hs3 := hch3.size
  simp only [World.alloc, Array.size_push] at hs3
  have al : Below w3.heap.size w3 ((w3.alloc (.cells #[.int .i64 0, .slice none 0 0] 34)).alloc (.cells #[.int .i64 fw, .int .i64 fh, .slice none 0 0] 48)) := ((Below.refl _ _).alloc (Nat.le_refl _) _).alloc (by simp) _
  have HF : Hid (RFm lo hi g b fw fh w #[.int .i64 0, .slice none 0 0] w3.heap.size (w3.heap.size + 1) (p + 3) (.slice none 0 0) ((w3.alloc (.cells #[.int .i64 0, .slice none 0 0] 34)).alloc (.cells #[.int .i64 fw, .int .i64 fh, .slice none 0 0] 48))) :=
    Lib.hid ⟨(HZ6.out.chg hch3 (show ¬ w.heap.size = g by omega)).keep al, (HZ7.out.chg hch3 (show ¬ w.heap.size + 1 = g by omega)).keep al, (Blk.new w3 34 #[.int .i64 0, .slice none 0 0]).alloc _, Blk.new1 _ _ _ _, hrd3.keep al, ((Chg.of_below HB2.out).trans hch3).trans (Chg.of_below al), by omega, by omega, hg, hhi⟩
  obtain ⟨Z, hZ⟩ : ∃ Z, w3.heap.size = Z := ⟨_, rfl⟩
  rw [hZ] at HF
  have hZw : w.heap.size + 2 ≤ Z := by omega
  clear hrd3 hch3 al CS
  go_wp2_with fail
  clear hZ
  go_loopg [11] n (fun k v11 wr => ∃ (j q : Nat) (P : List Int) (AP : Option Addr) (cP : Nat), j + k = n ∧ v11 = .int .i64 j ∧ Hid (P.length = j) ∧ Hid (∀ v ∈ P, 0 ≤ v ∧ v ≤ 255) ∧
    Hid (So.frame b (8 * b.length) fw n p = So.samples b (8 * b.length) K fw k P q) ∧ RFm lo hi g b fw fh w #[.int .i64 0, .slice none 0 0] Z (Z + 1) q (.slice AP j cP) wr ∧
    wr.ownsRow w.heap.size 3 1 (.slice AP j cP) j (P.map (Value.int .i64)))
  case atStart => exact ⟨0, p + 3, [], none, 0, by omega, rfl, Lib.hid rfl, Lib.hid (fun v hv => by cases hv), hfr, HF.out, ⟨rfl, .inl ⟨rfl, rfl⟩⟩⟩
  case round =>
    obtain ⟨j, q, P, AP, cP, hj, rfl, hPl, hPb, hrec, hf, hown⟩ := hrel
    have HFR := Lib.hid hf
    have HOW := Lib.hid hown
    obtain ⟨⟨r0, r1⟩, -⟩ := er_cells hf.f9
    have hni := HNI.out
    clear hf hown
    go_wp2_with fail
    refine (OK_below _ _ _).mono ?_
    rintro e w5 ⟨rfl, hb5⟩
    have hf5 := HFR.out.below hb5
    have HF5 := Lib.hid hf5
    have HO5 := Lib.hid (own_keep HOW.out hb5)
    obtain ⟨⟨t0, t1⟩, -⟩ := er_cells hf5.f9
    clear hf5 hb5 r0 r1
    by_cases hlt : j < n
    · obtain ⟨m, rfl⟩ : ∃ m, gk = m + 1 := ⟨gk - 1, by omega⟩
      have hlt' : (j : Int) < (n : Int) := by omega
      go_wp2_with fail
      refine (RGetRice_any 510 (by omega) hb _ (by have := HF5.out.ch.size; omega) HF5.out.rd).mono ?_
      obtain ⟨⟨G1, G2⟩, hG⟩ : ∃ G, Co.getRice b (8 * b.length) q K 510 = G := ⟨_, rfl⟩
      rw [hG]
      unfold RGOut
      rintro e w6 ⟨A6, cap6, rfl, hrd6, hfar6, ho6⟩
      simp only at hrd6 ho6
      by_cases hnum : ∃ u, G1 = .num u
      · obtain ⟨u, rfl⟩ := hnum
        dsimp only [gotV, gotC, gotP]
        simp only [List.length_nil]
        have hf6 := HF5.out.read ho6
        have HF6 := Lib.hid hf6
        have hO6 : Hid (w6.ownsRow w.heap.size 3 1 (.slice AP j cP) j (P.map (Value.int .i64))) := Lib.hid (own_chg HO5.out ho6.2 (fun i hi => show ¬ i = g by have := (HO5.out.lt i hi).1; omega))
        obtain ⟨hu0, _, hu1, _, _, _⟩ := Co.rice_ok hG
        have hyb : -255 ≤ Co.unfold' u ∧ Co.unfold' u ≤ 255 := by
          rcases (show u % 2 = 1 ∨ u % 2 = 0 by omega) with h | h
          · rw [Co.unfold_odd hu0 (by omega) h]; omega
          · rw [Co.unfold_even hu0 (by omega) h]; omega
        have hstep : Hid (So.frame b (8 * b.length) fw n p = if 0 ≤ So.guess P fw j + Co.unfold' u ∧ So.guess P fw j + Co.unfold' u ≤ 255 then So.samples b (8 * b.length) K fw m (P ++ [So.guess P fw j + Co.unfold' u]) G2 else (.sample, G2)) := Lib.hid (by
          rw [hrec.out]; simp only [So.samples, hG]; rw [hPl.out])
        have hgb := So.guess_bd hPb.out fw j
        obtain ⟨R, hR⟩ : ∃ R, j % fw = R := ⟨_, rfl⟩
        obtain ⟨Q, hQ⟩ : ∃ Q, j / fw = Q := ⟨_, rfl⟩
        have hQR : Q * fw + R = j := by rw [← hQ, ← hR]; exact Nat.div_add_mod' j fw
        have hRl : R < fw := by rw [← hR]; exact Nat.mod_lt _ (by omega)
        have hQl : Q ≤ j := by rw [← hQ]; exact Nat.div_le_self _ _
        obtain ⟨gs, hgs⟩ : ∃ gs, So.guess P fw j = gs := ⟨_, rfl⟩
        obtain ⟨y, hy⟩ : ∃ y, Co.unfold' u = y := ⟨_, rfl⟩
        have alz : Below w6.heap.size w6 (w6.alloc (.cells #[.int .i64 0, .slice A6 0 cap6] 34)) := (Below.refl _ _).alloc (Nat.le_refl _) _
        have HF7 := Lib.hid (hf6.below alz)
        have HO7 := Lib.hid (own_keep hO6.out alz)
        rw [hgs] at hstep hgb
        rw [hy] at hstep hyb
        clear hf6 hrd6 hfar6 ho6 alz t0 t1
        go_wp2_with fail
        refine (OK_below _ _ _).mono ?_
        rintro e w7 ⟨rfl, hb7⟩
        have hf7 := HF7.out.below hb7
        have hO7 := own_keep HO7.out hb7
        have HF8 := Lib.hid hf7
        have HO8 := Lib.hid hO7
        obtain ⟨⟨_, _, t2⟩, -⟩ := fr_cells hf7.f10
        have hra : RdI .i64 w7 AP P := by
          rw [← hPl.out] at hO7
          exact (RdI.of_own hO7).1
        have CG : ∀ w', Below w7.heap.size w7 w' → Calls Tryz.prog 60 #[.slice AP j cP, .int .i64 fw, .int .i64 R, .int .i64 Q] w' fun e w'' => e = .returned (.int .i64 gs) ∧ Below w'.heap.size w' w'' := fun w' hb' => by
          have h := rguess_any (L := P) (w := fw) (x := R) (y := Q) (c := cP) (by omega) hRl (by rw [hQR, hPl.out]; exact Nat.le_refl _) (by rw [hPl.out]; omega) hPb.out (by omega) (by omega) w' (hra.keep hb')
          rw [hQR, hPl.out, hgs] at h
          exact h.mono fun e w'' ⟨he, m, hm⟩ => ⟨he, hm ▸ below_drewN (Below.refl _ _) m⟩
        have CU : ∀ w', Below w7.heap.size w7 w' → Calls Tryz.prog 70 #[.int .i64 u] w' fun e w'' => e = .returned (.int .i64 y) ∧ Below w'.heap.size w' w'' := fun w' _ => by
          rw [← hy]; exact (RUnfold_any u (by omega) w').mono fun e w'' h => ⟨h.1, h.2 ▸ Below.refl _ _⟩
        have hz3' : ¬ fw = 0 := by omega
        have hz1'' : ¬ (fw : Int) = 0 := by omega
        have hrem : Int.tmod (j : Int) (fw : Int) = (R : Int) := by rw [← hR]; rfl
        have hquo : IntKind.i64.wrap ((j : Int) / (fw : Int)) = (Q : Int) := by rw [show (j : Int) / (fw : Int) = (Q : Int) by rw [← hQ]; rfl]; exact IntWalk.i64_in _ (by omega)
        have hsum : IntKind.i64.wrap (gs + y) = gs + y := IntWalk.i64_in _ (by omega)
        have C1 := Lib.hid (Calls.grown CG)
        have C2 := Lib.hid (Calls.grown CU)
        have GC2 := fun p : Go.Regrown => Go.cell_regrown t2 p.d p.os
        clear hG hb7 hf7 hO7 hR hQ hQR hRl hQl hra CG CU hgs hy
        go_wp2_with fail
        (refine hq_start (by kernel_rfl) (by kernel_rfl) ?_; (repeat (refine hq_step (fun K hK => ?_); go_simp; first | (refine hK _ ?_; clear hK K) | (apply Exists.intro; refine ⟨fun _ => ?_, hK _ ?_⟩; (focus (with_reducible first | exact C1.out _ | exact C2.out _)); clear hK K))); (refine hq_nil ?_))
        intro wq hwq
        have hbq := hwq.below
        have hfq := HF8.out.below hbq
        have HFq := Lib.hid hfq
        have HOq := Lib.hid (own_keep HO8.out hbq)
        obtain ⟨z, hz⟩ : ∃ z, gs + y = z := ⟨_, rfl⟩
        rw [hz] at hstep hsum
        clear C1 C2 GC2 t2 hbq hwq hrem hquo
        by_cases hin : 0 ≤ z ∧ z ≤ 255
        · have hstep2 := Lib.hid (hstep.out.trans (if_pos hin))
          have hz1' : ¬ z < 0 := by omega
          have hz2' : ¬ 255 < z := by omega
          have HIN := Lib.hid hin
          obtain ⟨⟨_, _, t2⟩, -⟩ := fr_cells hfq.f10
          have hwz : w.heap.size ≤ wq.heap.size := hfq.ch.size
          clear hfq hin
          go_wp2_with (at_builtin; refine wpList_append_lies _ rfl (.tmp 67) (.tmp 69) _ rfl w.heap.size 3 i0 _ 1 8 Tryz.underlying46 hi0 hz0 hz1 hz2 rfl (by omega) (.slice AP j cP) j _ rfl (HOq.out.alloc _) ⟨wq.heap.size, 0, none⟩ 1 1 [.int .i64 z] rfl rfl (World.news_of_block (cs := #[.int .i64 z]) (t := 3) (fr := (0, 0)) (heap_alloc_new wq _)) (by simp [Value.oneCell']) (by omega) (by unfold maxLen; omega) (by omega) (by simp; omega) _ rfl ?_; intro gb cap w9 hown9 hgrow9 hat9 hlt9; have hf9 := HFq.out.push HOq.out _ hgrow9; obtain ⟨⟨-, -, v2⟩, -, -, gv2⟩ := fr_cells hf9.f10)
          have HF9 := Lib.hid (hf9.put (show Z ≠ Z + 1 by omega) (.slice (some ⟨gb, 0, none⟩) (j + 1) cap))
          have HO9 := Lib.hid (own_chg hown9 ((Chg.refl (fun i => i = Z + 1) w9).setCell (p := ⟨Z + 1, 2, none⟩) (fun _ => rfl) (.slice (some ⟨gb, 0, none⟩) (j + 1) cap)) (fun i hi e => own_notBlk hown9 hf9.f10 (by decide) (by rw [hi, e])))
          have hmap : P.map (Value.int .i64) ++ [Value.int .i64 z] = (P ++ [z]).map (Value.int .i64) := by simp
          have HMAP := Lib.hid hmap
          clear hown9 hgrow9 hat9 hf9 v2 gv2 hmap t2
          go_roundg m
          case measure => omega
          case rel =>
            exact ⟨j + 1, G2, P ++ [z], some ⟨gb, 0, none⟩, cap, by omega, by go_num, Lib.hid (by simp [hPl.out]), Lib.hid (fun v hv => by
              rcases List.mem_append.1 hv with h | h
              · exact hPb.out v h
              · simp only [List.mem_singleton] at h; subst h; exact HIN.out), hstep2, HF9.out, by rw [← HMAP.out]; exact HO9.out⟩
        · have hstep2 := Lib.hid (hstep.out.trans (if_neg hin))
          have hd : (z < 0) ∨ (¬ z < 0 ∧ 255 < z) := by omega
          clear hin hfq
          rcases hd with hd | ⟨hd1, hd2⟩
          all_goals
            go_wp2_with fail
            refine (Fail_any 3 _).mono ?_
            rintro e w10 ⟨rfl, hb10⟩
            have hf10 := HFq.out.below hb10
            obtain ⟨⟨u0, u1, u2⟩, g0, g1, g2⟩ := fr_cells hf10.f6
            obtain ⟨⟨x0, x1⟩, g3, g4⟩ := er_cells hf10.f7
            obtain ⟨hst, hs6, hs7⟩ := res_set (a' := .int .i64 0) (b' := .int .i64 0) (v' := .slice none 0 0) (c' := .int .i64 3) (s' := .slice none 0 0) hf10.f6 hf10.f7
            obtain ⟨⟨s0, s1, s2⟩, -⟩ := fr_cells hs6
            obtain ⟨⟨s3, s4⟩, -⟩ := er_cells hs7
            have HF10 := Lib.hid hf10
            have HST := Lib.hid hst
            clear hf10 hst hs6 hs7 hb10
            go_wp2_with fail
            refine bodyPost_ret (v := .tuple #[.agg #[.int .i64 0, .int .i64 0, .slice none 0 0], .agg #[.int .i64 3, .slice none 0 0]]) (by simp [results, Tryz.results43, go_sem, s0, s1, s2, s3, s4]) rfl ?_
            rw [hstep2.out]
            exact ⟨0, 0, 3, .slice none 0 0, none, 0, 0, rfl, .inr ⟨.inr (.inr rfl), rfl, rfl, rfl, Rd.nil, fun a ha => by cases ha⟩, HF10.out.out HST.out⟩
      · have hbad : Bad (.bits G1) := by
          rcases G1 with u | a | a
          · exact absurd ⟨u, rfl⟩ hnum
          · exact .inl ⟨a, rfl⟩
          · exact .inr (.inl ⟨a, rfl⟩)
        have hc0 : (gotC G1 == 0) = false := by
          rcases G1 with u | a | a
          · exact absurd ⟨u, rfl⟩ hnum
          · rfl
          · rfl
        have hend : Hid (So.frame b (8 * b.length) fw n p = (.bits G1, G2)) := Lib.hid (by
          rw [hrec.out]; simp only [So.samples, hG]
          rcases G1 with u | a | a
          · exact absurd ⟨u, rfl⟩ hnum
          · rfl
          · rfl)
        have HBAD := Lib.hid hbad
        have hf6 := HF5.out.read ho6
        have hz66 : w.heap.size + 1 < w6.heap.size := hf6.f7.lt
        have hwz5 : w.heap.size + 1 < w5.heap.size := HF5.out.f7.lt
        obtain ⟨c9, hc9⟩ : ∃ c9, gotC G1 = c9 := ⟨_, rfl⟩
        obtain ⟨L9, hL9⟩ : ∃ L9, (gotP G1).length = L9 := ⟨_, rfl⟩
        have HC9 := Lib.hid hc9
        have HL9 := Lib.hid hL9
        dsimp only
        rw [hL9] at hrd6
        rw [hc9] at hc0
        have alz : Below w6.heap.size w6 (w6.alloc (.cells #[.int .i64 c9, .slice A6 L9 cap6] 34)) := (Below.refl _ _).alloc (Nat.le_refl _) _
        have HF7 := Lib.hid (hf6.below alz)
        have HZ7' := Lib.hid (Blk.new w6 34 #[.int .i64 c9, .slice A6 L9 cap6])
        have HP7 := Lib.hid (show Rd (w6.alloc (.cells #[.int .i64 c9, .slice A6 L9 cap6] 34)) 2 A6 L9 (flatP (gotP G1)) from hrd6.keep alz)
        have HFAR := Lib.hid (fun a (ha : A6 = some a) => (show w.heap.size + 2 ≤ a.block by have := hfar6 a ha; omega))
        rw [hc9, hL9]
        clear hf6 hrd6 hfar6 ho6 alz t0 t1 hG hbad hc9 hL9 hnum
        go_wp2_with fail
        refine (OK_below _ _ _).mono ?_
        rintro e w7 ⟨rfl, hb7⟩
        have hf7 := HF7.out.below hb7
        obtain ⟨⟨v0, v1⟩, -⟩ := er_cells (HZ7'.out.keep hb7)
        obtain ⟨⟨u0, u1, u2⟩, g0, g1, g2⟩ := fr_cells hf7.f6
        obtain ⟨⟨x0, x1⟩, g3, g4⟩ := er_cells hf7.f7
        obtain ⟨hst, hs6, hs7⟩ := res_set (a' := .int .i64 0) (b' := .int .i64 0) (v' := .slice none 0 0) (c' := .int .i64 c9) (s' := .slice A6 L9 cap6) hf7.f6 hf7.f7
        obtain ⟨⟨s0, s1, s2⟩, -⟩ := fr_cells hs6
        obtain ⟨⟨s3, s4⟩, -⟩ := er_cells hs7
        have HF8 := Lib.hid hf7
        have HST := Lib.hid hst
        have HP8 := Lib.hid (HP7.out.keep hb7)
        have hzz : w6.heap.size < w7.heap.size := by have := hb7.size; simp at this; omega
        clear hf7 hst hs6 hs7 hb7
        go_wp2_with fail
        go_region
        all_goals
          go_wp2_with fail
          refine bodyPost_ret (v := .tuple #[.agg #[.int .i64 0, .int .i64 0, .slice none 0 0], .agg #[.int .i64 c9, .slice A6 L9 cap6]]) (by simp [results, Tryz.results43, go_sem, s0, s1, s2, s3, s4]) rfl ?_
          rw [hend.out]
          exact ⟨0, 0, c9, .slice none 0 0, A6, L9, cap6, rfl, .inr ⟨HBAD.out, rfl, HC9.out.symm, HL9.out.symm, (HP8.out.chg HST.out (fun a ha => by have := HFAR.out a ha; omega)).drew, fun a ha => by have := HFAR.out a ha; omega⟩, HF8.out.out HST.out.drew⟩
    · obtain rfl : j = n := by omega
      obtain rfl : gk = 0 := by omega
      have hfin : Hid (So.frame b (8 * b.length) fw j p = (.ok P, q)) := Lib.hid (by rw [hrec.out]; rfl)
      have hf5 := HF5.out
      obtain ⟨⟨y0, y1, y2⟩, -⟩ := fr_cells hf5.f10
      obtain ⟨⟨u0, u1, u2⟩, g0, g1, g2⟩ := fr_cells hf5.f6
      obtain ⟨⟨x0, x1⟩, g3, g4⟩ := er_cells hf5.f7
      obtain ⟨hst, hs6, hs7⟩ := res_set (a' := .int .i64 fw) (b' := .int .i64 fh) (v' := .slice AP j cP) (c' := .int .i64 0) (s' := .slice none 0 0) hf5.f6 hf5.f7
      obtain ⟨⟨s0, s1, s2⟩, -⟩ := fr_cells hs6
      obtain ⟨⟨s3, s4⟩, -⟩ := er_cells hs7
      have HST := Lib.hid hst
      have HO6 := Lib.hid (own_chg HO5.out hst (fun i hi e => by
        rcases e with e | e
        · exact own_notBlk HO5.out hf5.f6 (by decide) (by rw [hi, e])
        · exact own_notBlk HO5.out hf5.f7 (by decide) (by rw [hi, e])))
      clear hf5 hst hs6 hs7 hlt
      go_wp2_with fail
      go_region
      all_goals
        go_wp2_with fail
        refine bodyPost_ret (v := .tuple #[.agg #[.int .i64 fw, .int .i64 fh, .slice AP j cP], .agg #[.int .i64 0, .slice none 0 0]]) (by simp [results, Tryz.results43, go_sem, s0, s1, s2, s3, s4]) rfl ?_
        rw [hfin.out]
        exact ⟨fw, fh, 0, .slice AP j cP, none, 0, 0, rfl, .inl ⟨P, AP, cP, rfl, rfl, rfl, by rw [hPl.out], by rw [hPl.out]; exact own_keep HO6.out ((Below.refl _ _).drew), rfl, rfl, rfl, rfl⟩, HF5.out.out HST.out.drew⟩

theorem rframe_any {lo hi g : Nat} {b : List Int} {p fw fh : Nat} (hb : b.length ≤ 1000000000) (hw1 : 8 ≤ fw ∧ fw ≤ 32) (hh1 : 8 ≤ fh ∧ fh ≤ 32) (w : World) (hhi : hi ≤ w.heap.size) (h : RdrT 85 lo hi w g b p) :
    Calls Tryz.prog 43 #[.pointer (some ⟨g, 0, none⟩), .int .i64 fw, .int .i64 fh] w (RFrOut lo hi w g b fw fh (So.frame b (8 * b.length) fw (fw * fh) p)) := by
  by_cases hs : 8 * b.length < p + 3
  · have hf : So.frame b (8 * b.length) fw (fw * fh) p = (.bits (.short p), p) := by unfold So.frame; rw [if_pos hs]
    rw [hf]
    exact rframe_short hb hs w hhi h
  · exact rframe_long hb hw1 hh1 hs w hhi h

end Go.Proofs.YtnccebfapihpjaaGreatDoor
