/- Contract of kinref15.Decode: bytes with a head that may be. -/
import Derived.Test.YtnccebfapihpjaaGreatDoorSourceRD
namespace Go.Proofs.YtnccebfapihpjaaGreatDoor
open Go Go.RowKit Go.Extern.Stop Go.Stop Go.Extern

theorem cell_al {w : World} {p : Addr} {v : Value} (h : w.cell? p = some v) (o : Obj) : (w.alloc o).cell? p = some v := cell_keep h ((Below.refl _ _).alloc (Nat.le_refl _) _)
theorem cell_dr {w : World} {p : Addr} {v : Value} (h : w.cell? p = some v) : w.drew.cell? p = some v := h
theorem cell_st {w : World} {p q : Addr} {v u : Value} (h : w.cell? p = some v) (hne : p.block ≠ q.block) : (w.setCell q u).cell? p = some v :=
  cell_chg h ((Chg.refl (fun i => i = q.block) w).setCell (fun _ => rfl) u) hne
theorem new_at {w : World} {n : Nat} (h : w.heap.size = n) (t : TypeId) (cs : Array Value) : Blk (w.alloc (.cells cs t)) n t cs := by
  subst h; exact Blk.new w t cs
theorem two_set {wr : World} {z8 z9 : Nat} {a b v a' b' v' c s c' s' : Value} (h6 : Blk wr z8 48 #[a, b, v]) (h7 : Blk wr z9 34 #[c, s]) (hne : z8 ≠ z9) :
    Chg (fun i => i = z8 ∨ i = z9) wr (((((wr.setCell ⟨z8, 0, none⟩ a').setCell ⟨z8, 1, none⟩ b').setCell ⟨z8, 2, none⟩ v').setCell ⟨z9, 0, none⟩ c').setCell ⟨z9, 1, none⟩ s') ∧
    Blk (((((wr.setCell ⟨z8, 0, none⟩ a').setCell ⟨z8, 1, none⟩ b').setCell ⟨z8, 2, none⟩ v').setCell ⟨z9, 0, none⟩ c').setCell ⟨z9, 1, none⟩ s') z8 48 #[a', b', v'] ∧
    Blk (((((wr.setCell ⟨z8, 0, none⟩ a').setCell ⟨z8, 1, none⟩ b').setCell ⟨z8, 2, none⟩ v').setCell ⟨z9, 0, none⟩ c').setCell ⟨z9, 1, none⟩ s') z9 34 #[c', s'] := by
  obtain ⟨c1, b1⟩ := fr_set (a' := a') (b' := b') (c' := v') h6
  have h7' := h7.chg c1 (show ¬ z9 = z8 from fun e => hne e.symm)
  obtain ⟨c2, b2⟩ := er_set (a' := c') (b' := s') h7'
  exact ⟨(c1.mono (fun i _ h => Or.inl h)).trans (c2.mono (fun i _ h => Or.inr h)), b1.chg c2 hne, b2⟩

/-- Behind the append of a frame: what stands. -/
theorem own_pushF {W9 w9 : World} {base B : Nat} {pix : List Int} {AL A8 : Option Addr} {cL c8 : Nat} {l : List Frm}
    (hrow : W9.ownsRow base 48 3 (.slice AL l.length cL) l.length (flatF l)) (hof : OwnF W9 B l) (hpx : W9.ownsRow B 3 1 (.slice A8 pix.length c8) pix.length (pix.map (Value.int .i64)))
    (fw fh : Int) (o : Obj) (hgrow : (W9.alloc o).grownBy w9 (Value.slice AL l.length cL).ownBlock) : OwnF w9 B (l ++ [⟨fw, fh, A8, pix, c8⟩]) := by
  have B0 : Below W9.heap.size W9 (W9.alloc o) := (Below.refl _ _).alloc (Nat.le_refl _) _
  have hc : Chg (fun i => (Value.slice AL l.length cL).ownBlock = some i) (W9.alloc o) w9 := Chg.of_grown hgrow (fun i _ e => e.symm)
  intro f hf
  have key : ∀ f : Frm, W9.ownsRow B 3 1 (.slice f.A f.pix.length f.c) f.pix.length (f.pix.map (Value.int .i64)) → w9.ownsRow B 3 1 (.slice f.A f.pix.length f.c) f.pix.length (f.pix.map (Value.int .i64)) :=
    fun f h => own_chg (own_keep h B0) hc (fun i hi e => own_own (own_keep h B0) (own_keep hrow B0) (by decide) i hi e)
  rcases List.mem_append.1 hf with h | h
  · exact key f (hof f h)
  · simp at h; subst h; exact key _ hpx

theorem RFrP.chg {S : Nat → Prop} {B fw fh n cap : Nat} {fr : So.Fr} {a b c : Int} {v : Value} {A : Option Addr} {w8 W9 : World} (h : RFrP B fw fh fr a b c v A n cap w8) (hc : Chg S w8 W9) (hS : ∀ i, S i → i < B ∨ w8.heap.size ≤ i) :
    RFrP B fw fh fr a b c v A n cap W9 := by
  rcases h with ⟨pix, A', c', h1, h2, h3, h4, h5, h6⟩ | ⟨h1, h1', h2, h3, h4, h5⟩
  · refine .inl ⟨pix, A', c', h1, h2, h3, h4, own_chg h5 hc (fun i hi e => ?_), h6⟩
    have h7 := h5.lt i hi
    have h8 := hS i e
    omega
  · refine .inr ⟨h1, h1', h2, h3, ?_, h5⟩
    refine ⟨h4.1, fun hn => ?_⟩
    obtain ⟨b', o', hA, hcell⟩ := h4.2 hn
    refine ⟨b', o', hA, fun j u hu => ?_⟩
    have h6 := hcell j u hu
    refine cell_chg h6 hc (fun e => ?_)
    have h7 := lt_of_cell h6
    have h8 := hS _ e
    have h9 := h5 _ hA
    simp only at h7 h8 h9
    omega

/-- The same, the samples' slice written out. -/
def RFrO (lo hi : Nat) (w : World) (g : Nat) (x : List Int) (fw fh : Nat) (r : So.Fr × Nat) (e : Ending) (w' : World) : Prop :=
  ∃ (a b c : Int) (Av : Option Addr) (nv cv : Nat) (A : Option Addr) (n cap : Nat), e = .returned (.tuple #[.agg #[.int .i64 a, .int .i64 b, .slice Av nv cv], .agg #[.int .i64 c, .slice A n cap]]) ∧ RFrP w.heap.size fw fh r.1 a b c (.slice Av nv cv) A n cap w' ∧ ROut 85 lo hi w g x r.2 w'
theorem RFrOut.cut {lo hi g fw fh : Nat} {w w' : World} {x : List Int} {r : So.Fr × Nat} {e : Ending} (h : RFrOut lo hi w g x fw fh r e w') : RFrO lo hi w g x fw fh r e w' := by
  obtain ⟨a, b, c, v, A, n, cap, he, hp, ho⟩ := h
  rcases hp with ⟨pix, A', c', h1, h2, h3, h4, h5⟩ | ⟨h1, h2, h3⟩
  · subst h4
    exact ⟨a, b, c, A', pix.length, c', A, n, cap, he, .inl ⟨pix, A', c', h1, h2, h3, rfl, h5⟩, ho⟩
  · subst h2
    exact ⟨a, b, c, none, 0, 0, A, n, cap, he, .inr ⟨h1, rfl, h3⟩, ho⟩

/-- What stands at each round. -/
structure RDm (g : Nat) (x : List Int) (w : World) (p : Nat) (AL : Option Addr) (cL : Nat) (l : List Frm) (wr : World) : Prop where
  f3 : Blk wr w.heap.size 34 #[.int .i64 0, .slice none 0 0]
  rd : RdrT 85 0 w.heap.size wr g x p
  row : wr.ownsRow w.heap.size 48 3 (.slice AL l.length cL) l.length (flatF l)
  of : OwnF wr w.heap.size l
  be : Below w.heap.size w wr
  hg : w.heap.size < g
section
variable {g : Nat} {x : List Int} {w : World} {p p2 : Nat} {AL : Option Addr} {cL : Nat} {l : List Frm} {wr W0 w8 W9 w9 w' : World}
theorem RDm.below (h : RDm g x w p AL cL l wr) (hb : Below wr.heap.size wr w') : RDm g x w p AL cL l w' :=
  ⟨h.f3.keep hb, h.rd.keep hb, own_keep h.row hb, fun f hf => own_keep (h.of f hf) hb, h.be.trans (hb.mono h.be.size), h.hg⟩
theorem RDm.read (h : RDm g x w p AL cL l wr) (ho : ROut 85 0 w.heap.size wr g x p2 w8) : RDm g x w p2 AL cL l w8 := by
  have hg := h.hg
  obtain ⟨_, _, A0, c0, hBr, _⟩ := h.rd
  exact ⟨h.f3.chg ho.2 (by omega), ho.1, own_chg h.row ho.2 (fun i hi e => own_notBlk h.row hBr (by decide) (by rw [hi, e])), fun f hf => own_chg (h.of f hf) ho.2 (fun i hi e => own_notBlk (h.of f hf) hBr (by decide) (by rw [hi, e])),
    h.be.trans (ho.2.below h.be.size (fun i e => by omega)), h.hg⟩
theorem RDm.put {S : Nat → Prop} (h : RDm g x w p AL cL l w8) (hc : Chg S w8 W9) (hS : ∀ i, S i → i ≠ w.heap.size ∧ i ≠ g ∧ w.heap.size ≤ i) (hr : ∀ i, (Value.slice AL l.length cL).ownBlock = some i → ¬ S i) (ho : ∀ f ∈ l, ∀ i, (Value.slice f.A f.pix.length f.c).ownBlock = some i → ¬ S i) : RDm g x w p AL cL l W9 :=
  ⟨h.f3.chg hc (fun e => (hS _ e).1 rfl), h.rd.chg hc (fun e => (hS _ e).2.1 rfl) (fun i _ h2 e => by have := (hS _ e).2.2; omega), own_chg h.row hc hr, fun f hf => own_chg (h.of f hf) hc (ho f hf), h.be.trans (hc.below h.be.size (fun i e => (hS _ e).2.2)), h.hg⟩
theorem RDm.step {S : Nat → Prop} (h : RDm g x w p AL cL l wr) (B0 : Below wr.heap.size wr W0) (ho : ROut 85 0 w.heap.size W0 g x p2 w8) (hc : Chg S w8 W9) (hS : ∀ i, S i → wr.heap.size ≤ i) : RDm g x w p2 AL cL l W9 := by
  have h3 := h.f3.lt
  have hg := h.rd.lt
  have hbe := h.be.size
  exact ((h.below B0).read ho).put hc (fun i e => by have := hS i e; omega) (fun i hi e => by have := hS i e; have := (h.row.lt i hi).2; omega) (fun f hf i hi e => by have := hS i e; have := ((h.of f hf).lt i hi).2; omega)
theorem RDm.push {pix : List Int} {A8 : Option Addr} {c8 : Nat} (h : RDm g x w p AL cL l wr) (hpx : wr.ownsRow w.heap.size 3 1 (.slice A8 pix.length c8) pix.length (pix.map (Value.int .i64)))
    (fw fh : Int) {gb cap : Nat} (hgrow : (wr.alloc (.cells #[.int .i64 fw, .int .i64 fh, .slice A8 pix.length c8] 48)).grownBy w9 (Value.slice AL l.length cL).ownBlock)
    (hown : w9.ownsRow w.heap.size 48 3 (.slice (some ⟨gb, 0, none⟩) (l ++ [(⟨fw, fh, A8, pix, c8⟩ : Frm)]).length cap) (l ++ [(⟨fw, fh, A8, pix, c8⟩ : Frm)]).length (flatF (l ++ [⟨fw, fh, A8, pix, c8⟩]))) :
    RDm g x w p (some ⟨gb, 0, none⟩) cap (l ++ [⟨fw, fh, A8, pix, c8⟩]) w9 := by
  have B0 : Below wr.heap.size wr (wr.alloc (.cells #[.int .i64 fw, .int .i64 fh, .slice A8 pix.length c8] 48)) := (Below.refl _ _).alloc (Nat.le_refl _) _
  have h1 := h.below B0
  have hc : Chg (fun i => (Value.slice AL l.length cL).ownBlock = some i) (wr.alloc (.cells #[.int .i64 fw, .int .i64 fh, .slice A8 pix.length c8] 48)) w9 := Chg.of_grown hgrow (fun i _ e => e.symm)
  have hlow : ∀ i, (Value.slice AL l.length cL).ownBlock = some i → w.heap.size ≤ i := fun i hi => (h.row.lt i hi).1
  obtain ⟨_, _, A0, c0, hBr, _⟩ := h1.rd
  exact ⟨h1.f3.chg hc (own_notBlk h1.row h1.f3 (by decide)), h1.rd.chg hc (own_notBlk h1.row hBr (by decide)) (fun i _ h2 e => by have := hlow i e; omega), hown, own_pushF h.row h.of hpx fw fh _ hgrow,
    h1.be.trans (hc.below h1.be.size (fun i e => hlow i e)), h.hg⟩
end

theorem start0 {w : World} {x : List Int} {A5 : Option Addr} {n5 c5 : Nat} (hl : x.length = n5) (hxb : ∀ v ∈ x, 0 ≤ v ∧ v ≤ 255) (hx : RdI .u8 w A5 x) (hA : ∀ p, A5 = some p → p.block < w.heap.size) :
    RDm (w.heap.size + 1) x w 0 none 0 [] ((w.alloc (.cells #[.int .i64 0, .slice none 0 0] 34)).alloc (.cells #[.slice A5 n5 c5, .int .i64 0] 85)) := by
  subst hl
  have B0 : Below w.heap.size w ((w.alloc (.cells #[.int .i64 0, .slice none 0 0] 34)).alloc (.cells #[.slice A5 x.length c5, .int .i64 0] 85)) := ((Below.refl _ _).alloc (Nat.le_refl _) _).alloc (by simp) _
  exact ⟨(Blk.new w _ _).alloc _, ⟨by omega, hxb, A5, c5, Blk.new1 _ _ _ _, hx.keep B0, fun p hp _ => ⟨Nat.zero_le _, hA p hp, by have := hA p hp; omega⟩⟩, ⟨rfl, .inl ⟨rfl, rfl⟩⟩, fun f hf => (by cases hf), B0, by omega⟩

set_option maxRecDepth 100000 in
set_option maxHeartbeats 16000000 in
theorem RDecode_body {b : List Int} {A : Option Addr} {c : Nat} (hbl : b.length ≤ 1000000000) (hcap : b.length ≤ c) (hbd : ∀ x ∈ b, 0 ≤ x ∧ x ≤ 255) (h0 : headF b = 0) (w : World) (ha : RdI .u8 w A b) :
    Calls Tryz.prog 15 #[.slice A b.length c] w (RDecOut w b) := by
  obtain ⟨i0, hi, hz0, hz1, hz2⟩ := info_parts frameInfo
  obtain ⟨h5, h75, h83, h2, h3, h4⟩ := head_zero h0
  obtain ⟨q, o, n0, n1, n2, n3, n4, hA, HN, -, k0, k1, k2, k3, k4⟩ := head_cells ha h5 hbd
  obtain ⟨e0, e1, e2, e3, e4⟩ := HN.out
  rw [e0] at h75
  rw [e1] at h83
  rw [e2] at h2
  rw [e3] at h3
  rw [e4] at h4
  obtain rfl : n0 = 75 := by omega
  obtain rfl : n1 = 83 := by omega
  have a1 : ¬ (n2 : Int) < 1 := by omega
  have a2 : ¬ 4 < (n2 : Int) := by omega
  have a3 : ¬ (n3 : Int) < 1 := by omega
  have a4 : ¬ 4 < (n3 : Int) := by omega
  have a5 : ¬ (n4 : Int) < 1 := by omega
  have a6 : ¬ 16 < (n4 : Int) := by omega
  have hd : Hid (decF b = bodyF (b.drop 5) (8 * n2) (8 * n2 * (8 * n3)) n4) := Lib.hid (by
    unfold decF wOf hOf nOf
    rw [if_pos h0, e2, e3, e4]
    rfl)
  have HWO : Hid (wOf b = 8 * n2 ∧ hOf b = 8 * n3) := Lib.hid (by unfold wOf hOf; rw [e2, e3]; exact ⟨rfl, rfl⟩)
  have hx : RdI .u8 w (if c = 5 then A else A.map (·.add (5 * 1))) (b.drop 5) := by
    have := Rd.cut (k := 5) ha hcap
    unfold RdI
    rw [List.length_drop, List.map_drop]
    exact this
  have HXB : Hid (∀ x ∈ b.drop 5, 0 ≤ x ∧ x ≤ 255) := Lib.hid fun x hx => hbd x (List.mem_of_mem_drop hx)
  have hxl : (b.drop 5).length = b.length - 5 := List.length_drop
  have HXL := Lib.hid hxl
  have hx9 : (b.drop 5).length ≤ 1000000000 := by omega
  subst hA
  have HX1 : Hid (c = 5 → RdI .u8 w (some ⟨q, o, none⟩) (b.drop 5)) := Lib.hid fun h => by rw [if_pos h] at hx; exact hx
  have HX2 : Hid (¬ c = 5 → RdI .u8 w (some ⟨q, o + 5, none⟩) (b.drop 5)) := Lib.hid fun h => by
    rw [if_neg h] at hx
    simpa [add_lit] using hx
  obtain ⟨x, hxe⟩ : ∃ x, b.drop 5 = x := ⟨_, rfl⟩
  rw [hxe] at hd HXB HX1 HX2 HXL hx9
  obtain ⟨fw, hfw⟩ : ∃ fw, 8 * n2 = fw := ⟨_, rfl⟩
  obtain ⟨fh, hfh⟩ : ∃ fh, 8 * n3 = fh := ⟨_, rfl⟩
  rw [hfw, hfh] at hd
  rw [hfw, hfh] at HWO
  have hw1 : 8 ≤ fw ∧ fw ≤ 32 := by omega
  have hh1 : 8 ≤ fh ∧ fh ≤ 32 := by omega
  have HW8 : Hid (IntKind.i64.wrap (8 * (n2 : Int)) = fw) := Lib.hid (by rw [show 8 * (n2 : Int) = (fw : Int) by omega]; exact IntWalk.i64_in _ (by omega))
  have HH8 : Hid (IntKind.i64.wrap (8 * (n3 : Int)) = fh) := Lib.hid (by rw [show 8 * (n3 : Int) = (fh : Int) by omega]; exact IntWalk.i64_in _ (by omega))
  have hbd : Hid (decF b = match So.frames x (8 * x.length) fw (fw * fh) n4 [] 0 with
    | (.error (i, fr), _) => .error ((sSource, (i : Int)) :: frP fr, frC fr)
    | (.ok fs, p) => endF x n4 fs p) := Lib.hid hd.out
  have hqw : q < w.heap.size := by have := lt_of_cell k2; exact this
  have al : Below w.heap.size w (w.alloc (.cells #[.int .i64 0, .slice none 0 0] 34)) := (Below.refl _ _).alloc (Nat.le_refl _) _
  have j0 := cell_keep k0 al
  have j1 := cell_keep k1 al
  have j2 := cell_keep k2 al
  have j3 := cell_keep k3 al
  have j4 := cell_keep k4 al
  have K2 := Lib.hid k2
  have K3 := Lib.hid k3
  have K4 := Lib.hid k4
  have HAL := Lib.hid al
  clear ha hx hxl h0 e0 e1 e2 e3 e4 h75 h83 hxe hfw hfh hd k0 k1 k2 k3 k4 al
  go_enter Tryz.func15, Tryz.ntmps15
  go_wp2_with fail
  all_goals
    first
      | (have HD0 := Lib.hid (start0 (w := w) (x := x) (A5 := some ⟨q, o, none⟩) (c5 := 0) HXL.out HXB.out (HX1.out (by assumption)) (fun p hp => by injection hp with hp; subst hp; exact hqw)))
      | (have HD0 := Lib.hid (start0 (w := w) (x := x) (A5 := some ⟨q, o + 5, none⟩) (c5 := c - 5) HXL.out HXB.out (HX2.out (by assumption)) (fun p hp => by injection hp with hp; subst hp; exact hqw)))
  all_goals
    clear j0 j1 j2 j3 j4
    go_loopg [5, 7] n4 (fun k v5 v7 wr => ∃ (j p : Nat) (AL : Option Addr) (cL : Nat) (l : List Frm), j + k = n4 ∧ v7 = .int .i64 j ∧ Hid (l.length = j) ∧ v5 = .slice AL l.length cL ∧
      RDm (w.heap.size + 1) x w p AL cL l wr ∧ Hid (∀ f ∈ l, f.w = fw ∧ f.h = fh ∧ f.pix.length ≤ 9223372036854775807) ∧
      Hid (So.frames x (8 * x.length) fw (fw * fh) n4 [] 0 = So.frames x (8 * x.length) fw (fw * fh) k (l.map Frm.pix) p))
    case atStart => exact ⟨0, 0, none, 0, [], by omega, rfl, Lib.hid rfl, rfl, HD0.out, Lib.hid (fun f hf => by cases hf), Lib.hid rfl⟩
    case round =>
      obtain ⟨j, p, AL, cL, l, hj, rfl, hll, rfl, hD, hfl, hrec⟩ := hrel
      have HD := Lib.hid hD
      have hsr : w.heap.size + 1 < wr.heap.size := hD.rd.lt
      clear hD
      by_cases hlt4 : j < n4
      · obtain ⟨m, rfl⟩ : ∃ m, gk = m + 1 := ⟨gk - 1, by omega⟩
        have hlt4' : (j : Int) < (n4 : Int) := by omega
        have hw8 := HW8.out
        have hh8 := HH8.out
        have hv2 : IntKind.i64.wrap (n2 : Int) = n2 := IntWalk.i64_in _ (by omega)
        have hv3 : IntKind.i64.wrap (n3 : Int) = n3 := IntWalk.i64_in _ (by omega)
        have h2l : (2 : Int) < (b.length : Int) := by omega
        have h3l : (3 : Int) < (b.length : Int) := by omega
        have kk2 := cell_keep K2.out HD.out.be
        have kk3 := cell_keep K3.out HD.out.be
        have hqg : ¬ q = w.heap.size + 1 := by omega
        have hq1 : q ≠ wr.heap.size := by omega
        have hq2 : q ≠ wr.heap.size + 1 := by omega
        cases hfr : So.frame x (8 * x.length) fw (fw * fh) p with
        | mk fr p2 =>
        have CF : Hid (∀ W, Below wr.heap.size wr W → Calls Tryz.prog 43 #[.pointer (some ⟨w.heap.size + 1, 0, none⟩), .int .i64 fw, .int .i64 fh] W (RFrO 0 w.heap.size W (w.heap.size + 1) x fw fh (fr, p2))) := Lib.hid fun W hW => by
          have h := rframe_any hx9 hw1 hh1 W (by have := hW.size; omega) (HD.out.rd.keep hW)
          rw [hfr] at h
          exact h.mono fun e w' h => h.cut
        have B1 : Below wr.heap.size wr wr.drew := (Below.refl _ _).drew
        have B2 : Below wr.heap.size wr (wr.alloc (.cells #[.int .i64 0, .int .i64 0, .slice none 0 0] 48)).drew := ((Below.refl _ _).alloc (Nat.le_refl _) _).drew
        have B3 : Below wr.heap.size wr (wr.alloc (.cells #[.int .i64 0, .slice none 0 0] 34)).drew := ((Below.refl _ _).alloc (Nat.le_refl _) _).drew
        have B4 : Below wr.heap.size wr ((wr.alloc (.cells #[.int .i64 0, .int .i64 0, .slice none 0 0] 48)).alloc (.cells #[.int .i64 0, .slice none 0 0] 34)).drew := (((Below.refl _ _).alloc (Nat.le_refl _) _).alloc (by simp) _).drew
        have B5 : Below wr.heap.size wr ((wr.alloc (.cells #[.int .i64 0, .slice none 0 0] 34)).alloc (.cells #[.int .i64 0, .int .i64 0, .slice none 0 0] 48)).drew := (((Below.refl _ _).alloc (Nat.le_refl _) _).alloc (by simp) _).drew
        have hZ2 := Lib.hid (Blk.new wr 48 #[.int .i64 0, .int .i64 0, .slice none 0 0]).drew
        have hZ3 := Lib.hid (Blk.new wr 34 #[.int .i64 0, .slice none 0 0]).drew
        have hZ4a := Lib.hid ((Blk.new wr 48 #[.int .i64 0, .int .i64 0, .slice none 0 0]).alloc (.cells #[.int .i64 0, .slice none 0 0] 34)).drew
        have hZ4b := Lib.hid (Blk.new1 wr (.cells #[.int .i64 0, .int .i64 0, .slice none 0 0] 48) 34 #[.int .i64 0, .slice none 0 0]).drew
        have hZ5a := Lib.hid ((Blk.new wr 34 #[.int .i64 0, .slice none 0 0]).alloc (.cells #[.int .i64 0, .int .i64 0, .slice none 0 0] 48)).drew
        have hZ5b := Lib.hid (Blk.new1 wr (.cells #[.int .i64 0, .slice none 0 0] 34) 48 #[.int .i64 0, .int .i64 0, .slice none 0 0]).drew
        have HFR := Lib.hid hfr
        clear hfr
        go_wp2_with fail
        go_region_held3 (fun W => W.cell? ⟨q, o + 2, none⟩ = some (.int .u8 n2) ∧ W.cell? ⟨q, o + 3, none⟩ = some (.int .u8 n3))
          ((refine ⟨?_, ?_⟩ <;> (with_reducible (repeat (first | exact kk2 | exact kk3 | exact hs8.1 | exact hs8.2 | refine cell_dr ?_ | refine cell_al ?_ _ | refine cell_st ?_ hq1 | refine cell_st ?_ hq2)))))
          (first
              | (go_at_call 43; (with_reducible refine (CF.out _ B4).mono ?_); unfold RFrO; rintro e w8 ⟨a9, b9, c9, Av9, nv9, cv9, A9, n9, cap9, rfl, hP8, ho8⟩; have hs8 := And.intro (cell_chg (cell_keep kk2 B4) ho8.2 hqg) (cell_chg (cell_keep kk3 B4) ho8.2 hqg); have hB8 := B4; have hz8 := hZ4a.out.chg ho8.2 (show ¬ wr.heap.size = w.heap.size + 1 by omega); have hz9 := hZ4b.out.chg ho8.2 (show ¬ wr.heap.size + 1 = w.heap.size + 1 by omega); obtain ⟨⟨p0, p1, p2'⟩, p3, p4, p5⟩ := fr_cells hz8; obtain ⟨⟨p6, p7⟩, p8, p9⟩ := er_cells hz9; have hk8 : ((wr.alloc (.cells #[.int .i64 0, .int .i64 0, .slice none 0 0] 48)).alloc (.cells #[.int .i64 0, .slice none 0 0] 34)).drew.heap.size = wr.heap.size + 1 + 1 := by simp)
              | (go_at_call 43; (with_reducible refine (CF.out _ B5).mono ?_); unfold RFrO; rintro e w8 ⟨a9, b9, c9, Av9, nv9, cv9, A9, n9, cap9, rfl, hP8, ho8⟩; have hs8 := And.intro (cell_chg (cell_keep kk2 B5) ho8.2 hqg) (cell_chg (cell_keep kk3 B5) ho8.2 hqg); have hB8 := B5; have hz9 := hZ5a.out.chg ho8.2 (show ¬ wr.heap.size = w.heap.size + 1 by omega); have hz8 := hZ5b.out.chg ho8.2 (show ¬ wr.heap.size + 1 = w.heap.size + 1 by omega); obtain ⟨⟨p0, p1, p2'⟩, p3, p4, p5⟩ := fr_cells hz8; obtain ⟨⟨p6, p7⟩, p8, p9⟩ := er_cells hz9; have hk8 : ((wr.alloc (.cells #[.int .i64 0, .slice none 0 0] 34)).alloc (.cells #[.int .i64 0, .int .i64 0, .slice none 0 0] 48)).drew.heap.size = wr.heap.size + 1 + 1 := by simp)
              | (go_at_call 43; (with_reducible refine (CF.out _ B2).mono ?_); unfold RFrO; rintro e w8 ⟨a9, b9, c9, Av9, nv9, cv9, A9, n9, cap9, rfl, hP8, ho8⟩; have hs8 := And.intro (cell_chg (cell_keep kk2 B2) ho8.2 hqg) (cell_chg (cell_keep kk3 B2) ho8.2 hqg); have hB8 := B2; have hz8 := hZ2.out.chg ho8.2 (show ¬ wr.heap.size = w.heap.size + 1 by omega); obtain ⟨⟨p0, p1, p2'⟩, p3, p4, p5⟩ := fr_cells hz8; have hl8 := hz8.lt; have hk8 : (wr.alloc (.cells #[.int .i64 0, .int .i64 0, .slice none 0 0] 48)).drew.heap.size = wr.heap.size + 1 := by simp)
              | (go_at_call 43; (with_reducible refine (CF.out _ B3).mono ?_); unfold RFrO; rintro e w8 ⟨a9, b9, c9, Av9, nv9, cv9, A9, n9, cap9, rfl, hP8, ho8⟩; have hs8 := And.intro (cell_chg (cell_keep kk2 B3) ho8.2 hqg) (cell_chg (cell_keep kk3 B3) ho8.2 hqg); have hB8 := B3; have hz9 := hZ3.out.chg ho8.2 (show ¬ wr.heap.size = w.heap.size + 1 by omega); obtain ⟨⟨p6, p7⟩, p8, p9⟩ := er_cells hz9; have hl9 := hz9.lt; have hk8 : (wr.alloc (.cells #[.int .i64 0, .slice none 0 0] 34)).drew.heap.size = wr.heap.size + 1 := by simp)
              | (go_at_call 43; (with_reducible refine (CF.out _ B1).mono ?_); unfold RFrO; rintro e w8 ⟨a9, b9, c9, Av9, nv9, cv9, A9, n9, cap9, rfl, hP8, ho8⟩; have hs8 := And.intro (cell_chg (cell_keep kk2 B1) ho8.2 hqg) (cell_chg (cell_keep kk3 B1) ho8.2 hqg); have hB8 := B1; have hk8 : wr.drew.heap.size = wr.heap.size := rfl)
              | fail)
        all_goals
          first
              | (have hc9 : Chg (fun i => i = wr.heap.size ∨ i = wr.heap.size + 1) w8 (((((w8.setCell ⟨wr.heap.size, 0, none⟩ (.int .i64 a9)).setCell ⟨wr.heap.size, 1, none⟩ (.int .i64 b9)).setCell ⟨wr.heap.size, 2, none⟩ (.slice Av9 nv9 cv9)).setCell ⟨wr.heap.size + 1, 0, none⟩ (.int .i64 c9)).setCell ⟨wr.heap.size + 1, 1, none⟩ (.slice A9 n9 cap9)) := (two_set hz8 hz9 (by omega)).1
                 have hb8' : Blk (((((w8.setCell ⟨wr.heap.size, 0, none⟩ (.int .i64 a9)).setCell ⟨wr.heap.size, 1, none⟩ (.int .i64 b9)).setCell ⟨wr.heap.size, 2, none⟩ (.slice Av9 nv9 cv9)).setCell ⟨wr.heap.size + 1, 0, none⟩ (.int .i64 c9)).setCell ⟨wr.heap.size + 1, 1, none⟩ (.slice A9 n9 cap9)) (wr.heap.size) 48 #[.int .i64 a9, .int .i64 b9, .slice Av9 nv9 cv9] := (two_set hz8 hz9 (by omega)).2.1
                 have hb9' : Blk (((((w8.setCell ⟨wr.heap.size, 0, none⟩ (.int .i64 a9)).setCell ⟨wr.heap.size, 1, none⟩ (.int .i64 b9)).setCell ⟨wr.heap.size, 2, none⟩ (.slice Av9 nv9 cv9)).setCell ⟨wr.heap.size + 1, 0, none⟩ (.int .i64 c9)).setCell ⟨wr.heap.size + 1, 1, none⟩ (.slice A9 n9 cap9)) (wr.heap.size + 1) 34 #[.int .i64 c9, .slice A9 n9 cap9] := (two_set hz8 hz9 (by omega)).2.2
                 have hD := HD.out.step hB8 ho8 hc9 (fun i e => by have := hB8.size; have := ho8.2.size; rcases e with e | e <;> omega)
                 have hP9 := hP8.chg hc9 (fun i e => by have := hB8.size; have := ho8.2.size; rcases e with e | e <;> omega)
                 obtain ⟨W9, hW9⟩ : ∃ W9, (((((w8.setCell ⟨wr.heap.size, 0, none⟩ (.int .i64 a9)).setCell ⟨wr.heap.size, 1, none⟩ (.int .i64 b9)).setCell ⟨wr.heap.size, 2, none⟩ (.slice Av9 nv9 cv9)).setCell ⟨wr.heap.size + 1, 0, none⟩ (.int .i64 c9)).setCell ⟨wr.heap.size + 1, 1, none⟩ (.slice A9 n9 cap9)) = W9 := ⟨_, rfl⟩
                 obtain ⟨z8, hz8'⟩ : ∃ z, wr.heap.size = z := ⟨_, rfl⟩
                 obtain ⟨z9, hz9'⟩ : ∃ z, wr.heap.size + 1 = z := ⟨_, rfl⟩
                 rw [hW9] at hD hP9
                 rw [hW9, hz8'] at hb8'
                 rw [hW9, hz9'] at hb9'
                 rw [hW9, hz9', hz8'])
              | (have hc9 : Chg (fun i => i = wr.heap.size + 1 ∨ i = wr.heap.size) w8 (((((w8.setCell ⟨wr.heap.size + 1, 0, none⟩ (.int .i64 a9)).setCell ⟨wr.heap.size + 1, 1, none⟩ (.int .i64 b9)).setCell ⟨wr.heap.size + 1, 2, none⟩ (.slice Av9 nv9 cv9)).setCell ⟨wr.heap.size, 0, none⟩ (.int .i64 c9)).setCell ⟨wr.heap.size, 1, none⟩ (.slice A9 n9 cap9)) := (two_set hz8 hz9 (by omega)).1
                 have hb8' : Blk (((((w8.setCell ⟨wr.heap.size + 1, 0, none⟩ (.int .i64 a9)).setCell ⟨wr.heap.size + 1, 1, none⟩ (.int .i64 b9)).setCell ⟨wr.heap.size + 1, 2, none⟩ (.slice Av9 nv9 cv9)).setCell ⟨wr.heap.size, 0, none⟩ (.int .i64 c9)).setCell ⟨wr.heap.size, 1, none⟩ (.slice A9 n9 cap9)) (wr.heap.size + 1) 48 #[.int .i64 a9, .int .i64 b9, .slice Av9 nv9 cv9] := (two_set hz8 hz9 (by omega)).2.1
                 have hb9' : Blk (((((w8.setCell ⟨wr.heap.size + 1, 0, none⟩ (.int .i64 a9)).setCell ⟨wr.heap.size + 1, 1, none⟩ (.int .i64 b9)).setCell ⟨wr.heap.size + 1, 2, none⟩ (.slice Av9 nv9 cv9)).setCell ⟨wr.heap.size, 0, none⟩ (.int .i64 c9)).setCell ⟨wr.heap.size, 1, none⟩ (.slice A9 n9 cap9)) (wr.heap.size) 34 #[.int .i64 c9, .slice A9 n9 cap9] := (two_set hz8 hz9 (by omega)).2.2
                 have hD := HD.out.step hB8 ho8 hc9 (fun i e => by have := hB8.size; have := ho8.2.size; rcases e with e | e <;> omega)
                 have hP9 := hP8.chg hc9 (fun i e => by have := hB8.size; have := ho8.2.size; rcases e with e | e <;> omega)
                 obtain ⟨W9, hW9⟩ : ∃ W9, (((((w8.setCell ⟨wr.heap.size + 1, 0, none⟩ (.int .i64 a9)).setCell ⟨wr.heap.size + 1, 1, none⟩ (.int .i64 b9)).setCell ⟨wr.heap.size + 1, 2, none⟩ (.slice Av9 nv9 cv9)).setCell ⟨wr.heap.size, 0, none⟩ (.int .i64 c9)).setCell ⟨wr.heap.size, 1, none⟩ (.slice A9 n9 cap9)) = W9 := ⟨_, rfl⟩
                 obtain ⟨z8, hz8'⟩ : ∃ z, wr.heap.size + 1 = z := ⟨_, rfl⟩
                 obtain ⟨z9, hz9'⟩ : ∃ z, wr.heap.size = z := ⟨_, rfl⟩
                 rw [hW9] at hD hP9
                 rw [hW9, hz8'] at hb8'
                 rw [hW9, hz9'] at hb9'
                 rw [hW9, hz8', hz9'])
              | (have hc9 : Chg (fun i => i = wr.heap.size ∨ i = w8.heap.size) w8 ((((w8.setCell ⟨wr.heap.size, 0, none⟩ (.int .i64 a9)).setCell ⟨wr.heap.size, 1, none⟩ (.int .i64 b9)).setCell ⟨wr.heap.size, 2, none⟩ (.slice Av9 nv9 cv9)).alloc (.cells #[.int .i64 c9, .slice A9 n9 cap9] 34)) := ((fr_set hz8).1.mono (fun i _ h => Or.inl h)).trans (Chg.of_below ((Below.refl _ _).alloc (Nat.le_refl _) _))
                 have hb8' : Blk ((((w8.setCell ⟨wr.heap.size, 0, none⟩ (.int .i64 a9)).setCell ⟨wr.heap.size, 1, none⟩ (.int .i64 b9)).setCell ⟨wr.heap.size, 2, none⟩ (.slice Av9 nv9 cv9)).alloc (.cells #[.int .i64 c9, .slice A9 n9 cap9] 34)) (wr.heap.size) 48 #[.int .i64 a9, .int .i64 b9, .slice Av9 nv9 cv9] := (fr_set hz8).2.alloc _
                 have hb9' : Blk ((((w8.setCell ⟨wr.heap.size, 0, none⟩ (.int .i64 a9)).setCell ⟨wr.heap.size, 1, none⟩ (.int .i64 b9)).setCell ⟨wr.heap.size, 2, none⟩ (.slice Av9 nv9 cv9)).alloc (.cells #[.int .i64 c9, .slice A9 n9 cap9] 34)) (w8.heap.size) 34 #[.int .i64 c9, .slice A9 n9 cap9] := new_at (by simp [World.setCell]) _ _
                 have hD := HD.out.step hB8 ho8 hc9 (fun i e => by have := hB8.size; have := ho8.2.size; rcases e with e | e <;> omega)
                 have hP9 := hP8.chg hc9 (fun i e => by have := hB8.size; have := ho8.2.size; rcases e with e | e <;> omega)
                 obtain ⟨W9, hW9⟩ : ∃ W9, ((((w8.setCell ⟨wr.heap.size, 0, none⟩ (.int .i64 a9)).setCell ⟨wr.heap.size, 1, none⟩ (.int .i64 b9)).setCell ⟨wr.heap.size, 2, none⟩ (.slice Av9 nv9 cv9)).alloc (.cells #[.int .i64 c9, .slice A9 n9 cap9] 34)) = W9 := ⟨_, rfl⟩
                 obtain ⟨z8, hz8'⟩ : ∃ z, wr.heap.size = z := ⟨_, rfl⟩
                 obtain ⟨z9, hz9'⟩ : ∃ z, w8.heap.size = z := ⟨_, rfl⟩
                 rw [hW9] at hD hP9
                 rw [hW9, hz8'] at hb8'
                 rw [hW9, hz9'] at hb9'
                 rw [hW9, hz8', hz9'])
              | (have hc9 : Chg (fun i => i = w8.heap.size ∨ i = wr.heap.size) w8 (((w8.setCell ⟨wr.heap.size, 0, none⟩ (.int .i64 c9)).setCell ⟨wr.heap.size, 1, none⟩ (.slice A9 n9 cap9)).alloc (.cells #[.int .i64 a9, .int .i64 b9, .slice Av9 nv9 cv9] 48)) := ((er_set hz9).1.mono (fun i _ h => Or.inr h)).trans (Chg.of_below ((Below.refl _ _).alloc (Nat.le_refl _) _))
                 have hb8' : Blk (((w8.setCell ⟨wr.heap.size, 0, none⟩ (.int .i64 c9)).setCell ⟨wr.heap.size, 1, none⟩ (.slice A9 n9 cap9)).alloc (.cells #[.int .i64 a9, .int .i64 b9, .slice Av9 nv9 cv9] 48)) (w8.heap.size) 48 #[.int .i64 a9, .int .i64 b9, .slice Av9 nv9 cv9] := new_at (by simp [World.setCell]) _ _
                 have hb9' : Blk (((w8.setCell ⟨wr.heap.size, 0, none⟩ (.int .i64 c9)).setCell ⟨wr.heap.size, 1, none⟩ (.slice A9 n9 cap9)).alloc (.cells #[.int .i64 a9, .int .i64 b9, .slice Av9 nv9 cv9] 48)) (wr.heap.size) 34 #[.int .i64 c9, .slice A9 n9 cap9] := (er_set hz9).2.alloc _
                 have hD := HD.out.step hB8 ho8 hc9 (fun i e => by have := hB8.size; have := ho8.2.size; rcases e with e | e <;> omega)
                 have hP9 := hP8.chg hc9 (fun i e => by have := hB8.size; have := ho8.2.size; rcases e with e | e <;> omega)
                 obtain ⟨W9, hW9⟩ : ∃ W9, (((w8.setCell ⟨wr.heap.size, 0, none⟩ (.int .i64 c9)).setCell ⟨wr.heap.size, 1, none⟩ (.slice A9 n9 cap9)).alloc (.cells #[.int .i64 a9, .int .i64 b9, .slice Av9 nv9 cv9] 48)) = W9 := ⟨_, rfl⟩
                 obtain ⟨z8, hz8'⟩ : ∃ z, w8.heap.size = z := ⟨_, rfl⟩
                 obtain ⟨z9, hz9'⟩ : ∃ z, wr.heap.size = z := ⟨_, rfl⟩
                 rw [hW9] at hD hP9
                 rw [hW9, hz8'] at hb8'
                 rw [hW9, hz9'] at hb9'
                 rw [hW9, hz8', hz9'])
              | (have hc9 : Chg (fun i => i = w8.heap.size ∨ i = w8.heap.size + 1) w8 ((w8.alloc (.cells #[.int .i64 a9, .int .i64 b9, .slice Av9 nv9 cv9] 48)).alloc (.cells #[.int .i64 c9, .slice A9 n9 cap9] 34)) := Chg.of_below (((Below.refl _ _).alloc (Nat.le_refl _) _).alloc (by simp) _)
                 have hb8' : Blk ((w8.alloc (.cells #[.int .i64 a9, .int .i64 b9, .slice Av9 nv9 cv9] 48)).alloc (.cells #[.int .i64 c9, .slice A9 n9 cap9] 34)) (w8.heap.size) 48 #[.int .i64 a9, .int .i64 b9, .slice Av9 nv9 cv9] := (Blk.new w8 _ _).alloc _
                 have hb9' : Blk ((w8.alloc (.cells #[.int .i64 a9, .int .i64 b9, .slice Av9 nv9 cv9] 48)).alloc (.cells #[.int .i64 c9, .slice A9 n9 cap9] 34)) (w8.heap.size + 1) 34 #[.int .i64 c9, .slice A9 n9 cap9] := Blk.new1 _ _ _ _
                 have hD := HD.out.step hB8 ho8 hc9 (fun i e => by have := hB8.size; have := ho8.2.size; rcases e with e | e <;> omega)
                 have hP9 := hP8.chg hc9 (fun i e => by have := hB8.size; have := ho8.2.size; rcases e with e | e <;> omega)
                 obtain ⟨W9, hW9⟩ : ∃ W9, ((w8.alloc (.cells #[.int .i64 a9, .int .i64 b9, .slice Av9 nv9 cv9] 48)).alloc (.cells #[.int .i64 c9, .slice A9 n9 cap9] 34)) = W9 := ⟨_, rfl⟩
                 obtain ⟨z8, hz8'⟩ : ∃ z, w8.heap.size = z := ⟨_, rfl⟩
                 obtain ⟨z9, hz9'⟩ : ∃ z, w8.heap.size + 1 = z := ⟨_, rfl⟩
                 rw [hW9] at hD hP9
                 rw [hW9, hz8'] at hb8'
                 rw [hW9, hz9'] at hb9'
                 rw [hW9, hz9', hz8'])
              | (have hc9 : Chg (fun i => i = w8.heap.size + 1 ∨ i = w8.heap.size) w8 ((w8.alloc (.cells #[.int .i64 c9, .slice A9 n9 cap9] 34)).alloc (.cells #[.int .i64 a9, .int .i64 b9, .slice Av9 nv9 cv9] 48)) := Chg.of_below (((Below.refl _ _).alloc (Nat.le_refl _) _).alloc (by simp) _)
                 have hb8' : Blk ((w8.alloc (.cells #[.int .i64 c9, .slice A9 n9 cap9] 34)).alloc (.cells #[.int .i64 a9, .int .i64 b9, .slice Av9 nv9 cv9] 48)) (w8.heap.size + 1) 48 #[.int .i64 a9, .int .i64 b9, .slice Av9 nv9 cv9] := Blk.new1 _ _ _ _
                 have hb9' : Blk ((w8.alloc (.cells #[.int .i64 c9, .slice A9 n9 cap9] 34)).alloc (.cells #[.int .i64 a9, .int .i64 b9, .slice Av9 nv9 cv9] 48)) (w8.heap.size) 34 #[.int .i64 c9, .slice A9 n9 cap9] := (Blk.new w8 _ _).alloc _
                 have hD := HD.out.step hB8 ho8 hc9 (fun i e => by have := hB8.size; have := ho8.2.size; rcases e with e | e <;> omega)
                 have hP9 := hP8.chg hc9 (fun i e => by have := hB8.size; have := ho8.2.size; rcases e with e | e <;> omega)
                 obtain ⟨W9, hW9⟩ : ∃ W9, ((w8.alloc (.cells #[.int .i64 c9, .slice A9 n9 cap9] 34)).alloc (.cells #[.int .i64 a9, .int .i64 b9, .slice Av9 nv9 cv9] 48)) = W9 := ⟨_, rfl⟩
                 obtain ⟨z8, hz8'⟩ : ∃ z, w8.heap.size + 1 = z := ⟨_, rfl⟩
                 obtain ⟨z9, hz9'⟩ : ∃ z, w8.heap.size = z := ⟨_, rfl⟩
                 rw [hW9] at hD hP9
                 rw [hW9, hz8'] at hb8'
                 rw [hW9, hz9'] at hb9'
                 rw [hW9, hz8', hz9'])
        all_goals
          try dsimp only at hD hP9
          have HD9 := Lib.hid hD
          have HB8 := Lib.hid hb8'
          have HB9 := Lib.hid hb9'
          have hsW9 : w.heap.size + 1 < W9.heap.size := hD.rd.lt
          rcases hP9 with ⟨pix, A', c', rfl, rfl, rfl, hv, hown, rfl, rfl, rfl, rfl⟩ | ⟨hbad, hv, rfl, rfl, hrd, hfar⟩
          · injection hv with hv1 hv2 hv3
            subst hv1 hv2 hv3
            have HPX := Lib.hid (own_base hown (show w.heap.size ≤ _ by omega))
            have hstep := Lib.hid (hrec.out.trans (frames_ok HFR.out))
            have HPL : Hid (pix.length ≤ 9223372036854775807) := Lib.hid (by
              have h1 := (So.frame_more (b' := x) (Nat.le_refl _) (fun _ _ => rfl) HFR.out).2.2.1
              have h2 : fw * fh ≤ 32 * 32 := Nat.mul_le_mul hw1.2 hh1.2
              omega)
            obtain ⟨⟨y0, y1⟩, -⟩ := er_cells hb9'
            clear hD hown hb8' hb9' hc9 hW9 hz8' hz9' hk8 hP8 ho8 hs8 hB8 kk2 kk3 hw8 hh8 hv2 hv3 B1 B2 B3 B4 B5 hZ2 hZ3 hZ4a hZ4b hZ5a hZ5b
            go_wp2_with fail
            refine (OK_below _ _ _).mono ?_
            rintro e w10 ⟨rfl, hb10⟩
            obtain ⟨⟨x0, x1, x2⟩, -⟩ := fr_cells (HB8.out.keep hb10)
            have hD10 := HD9.out.below hb10
            have HD10 := Lib.hid hD10
            have HP10 := Lib.hid (own_keep HPX.out hb10)
            have hlj : l.length ≤ 16 := by have := hll.out; omega
            have hsz10 : w.heap.size ≤ w10.heap.size := hD10.be.size
            clear hb10 hD10 y0 y1
            go_wp2_with (at_builtin; refine wpList_append_lies _ rfl (.tmp 98) (.tmp 100) _ rfl w.heap.size 48 i0 _ 3 40 Tryz.underlying22 hi hz0 hz1 hz2 rfl (by omega) (.slice AL l.length cL) l.length _ rfl (HD10.out.row.alloc _) ⟨w10.heap.size, 0, none⟩ 1 1 [.int .i64 fw, .int .i64 fh, .slice Av9 pix.length cv9] rfl rfl (World.news_of_block (cs := #[.int .i64 fw, .int .i64 fh, .slice Av9 pix.length cv9]) (t := 48) (fr := (0, 0)) (heap_alloc_new w10 _)) (by simp [Value.oneCell']) (by omega) (by unfold maxLen; omega) (by omega) (by simp; omega) _ rfl ?_; intro gb cap w11 hown9 hgrow9 hat9 hlt9)
            have hfl9 : flatF (l ++ [(⟨fw, fh, Av9, pix, cv9⟩ : Frm)]) = flatF l ++ [.int .i64 fw, .int .i64 fh, .slice Av9 pix.length cv9] := by rw [flatF_app]; rfl
            have hln : (l ++ [(⟨fw, fh, Av9, pix, cv9⟩ : Frm)]).length = l.length + 1 := by simp
            have HP := Lib.hid (HD10.out.push HP10.out fw fh hgrow9 (by rw [hln, hfl9]; exact hown9))
            have HLN := Lib.hid hln
            clear hown9 hgrow9 hat9 hfl9 hln x0 x1 x2
            go_roundg m
            case measure => omega
            case rel =>
              exact ⟨j + 1, p2, some ⟨gb, 0, none⟩, cap, l ++ [⟨fw, fh, Av9, pix, cv9⟩], by omega, by go_num, Lib.hid (by rw [HLN.out, hll.out]), by rw [HLN.out], HP.out,
                Lib.hid (fun f hf => by
                  rcases List.mem_append.1 hf with h | h
                  · exact hfl.out f h
                  · simp at h; subst h; exact ⟨rfl, rfl, HPL.out⟩),
                Lib.hid (by rw [hstep.out, List.map_append]; rfl)⟩
          · injection hv with hv1 hv2 hv3
            subst hv1 hv2 hv3
            have hend : Hid (decF b = .error ((sSource, (j : Int)) :: frP fr, frC fr)) := Lib.hid (by
              rw [hbd.out, hrec.out, frames_no HFR.out hbad]
              simp only [List.length_map]
              rw [hll.out])
            obtain ⟨hcc, hpl⟩ := hbad.code
            obtain ⟨c0, hc0⟩ : ∃ c0, frC fr = c0 := ⟨_, rfl⟩
            rw [hc0] at hend hcc HB9 hb9'
            rw [hc0]
            have hne : (c0 == 0) = false := by rw [beq_eq_false_iff_ne]; omega
            have hne' : c0 ≠ 0 := by omega
            have HNE := Lib.hid hne'
            have HPL := Lib.hid hpl
            have HRP := Lib.hid hrd
            obtain ⟨⟨y0, y1⟩, -⟩ := er_cells hb9'
            clear hD hb8' hb9' hc9 hW9 hz8' hz9' hk8 hP8 ho8 hs8 hB8 kk2 kk3 hw8 hh8 hv2 hv3 B1 B2 B3 B4 B5 hZ2 hZ3 hZ4a hZ4b hZ5a hZ5b hbad hcc hpl hc0 hne' hrd hfar
            go_wp2_with fail
            refine (OK_below _ _ _).mono ?_
            rintro e w10 ⟨rfl, hb10⟩
            obtain ⟨⟨x0, x1⟩, -⟩ := er_cells (HB9.out.keep hb10)
            have hD10 := HD9.out.below hb10
            have HD10 := Lib.hid hD10
            have HRP10 := Lib.hid (HRP.out.keep hb10)
            have hsz10 : w.heap.size < w10.heap.size := by have := hb10.size; omega
            clear hb10 hD10 y0 y1
            go_wp2_with fail
            refine (RIn_some sSource (j : Int) (by have := HPL.out; omega) HNE.out _ HRP10.out).mono ?_
            unfold EOut
            obtain ⟨L12, hL12⟩ : ∃ L12, ((sSource, (j : Int)) :: frP fr).length = L12 := ⟨_, rfl⟩
            rw [hL12]
            rintro e w12 ⟨A12, cap12, rfl, hr12, hf12, hb12⟩
            have hz12 := HD10.out.f3.keep hb12
            obtain ⟨⟨r0, r1⟩, f0, f1⟩ := er_cells hz12
            obtain ⟨-, hs⟩ := er_set (a' := .int .i64 c0) (b' := .slice A12 L12 cap12) hz12
            obtain ⟨⟨s0, s1⟩, -⟩ := er_cells hs
            have hE := RDecOut.err (cap := cap12) hend.out hz12 hsz10 HD10.out.be (by rw [hL12]; exact hr12) hf12 hb12
            rw [hL12] at hE
            have HE := Lib.hid hE
            clear hr12 hf12 hb12 hz12 hs x0 x1 hE hL12
            go_wp2_with fail
            refine bodyPost_ret (v := .tuple #[.slice none 0 0, .agg #[.int .i64 c0, .slice A12 L12 cap12]]) (by simp [results, Tryz.results15, go_sem, s0, s1]) rfl ?_
            exact HE.out
      · obtain rfl : j = n4 := by omega
        obtain rfl : gk = 0 := by omega
        have hbd2 : Hid (decF b = endF x j (l.map Frm.pix) p) := Lib.hid (by rw [hbd.out, hrec.out]; rfl)
        have CA := Lib.hid (RAlign_any hx9 _ (by omega) HD.out.rd)
        obtain ⟨fo, hfo⟩ : ∃ fo, firstOne x p (padTo p) = fo := ⟨_, rfl⟩
        unfold RAOut at CA
        rw [hfo] at CA
        have HFO := Lib.hid hfo
        have HS : Hid (∀ a, firstOne x p (padTo p) = some a → decF b = .error ([(sSource, (j : Int)), (sBits, (a : Int))], 2)) := Lib.hid (fun a h => by rw [hbd2.out]; unfold endF; rw [h])
        have HN0 : Hid (firstOne x p (padTo p) = none → decF b = if p + padTo p < 8 * x.length then .error ([(sSource, (j : Int))], 5) else .ok (l.map Frm.pix)) := Lib.hid (fun h => by rw [hbd2.out]; unfold endF; rw [h])
        clear hfo hlt4
        go_wp2_with fail
        refine CA.out.mono ?_
        rintro e w5 ⟨A5, cap5, rfl, hrd5, hfar5, ho5⟩
        have hD5 := HD.out.read ho5
        have al5 : ∀ cs, Below w5.heap.size w5 (w5.alloc (.cells cs 34)) := fun cs => (Below.refl _ _).alloc (Nat.le_refl _) _
        have hs5 : w.heap.size + 1 < w5.heap.size := hD5.rd.lt
        rcases fo with _ | a
        · dsimp only [oneC, oneP]
          simp only [List.length_nil]
          have hD6 := hD5.below (al5 #[.int .i64 0, .slice A5 0 cap5])
          have HD6 := Lib.hid hD6
          have HZ6 := Lib.hid (Blk.new w5 34 #[.int .i64 0, .slice A5 0 cap5])
          have hends := Lib.hid (HN0.out HFO.out)
          obtain ⟨P, hP⟩ : ∃ P, p + padTo p = P := ⟨_, rfl⟩
          rw [hP] at hends HD6
          have hP8 := HD6.out.rd.1
          obtain ⟨z, hz⟩ : ∃ z, w5.heap.size = z := ⟨_, rfl⟩
          rw [hz] at HZ6 hs5
          clear hD5 hD6 hrd5 hfar5 ho5 al5 CA
          go_wp2_with fail
          clear hz hP
          refine (OK_below _ _ _).mono ?_
          rintro e w6 ⟨rfl, hb6⟩
          have hD7 := HD6.out.below hb6
          have HD7 := Lib.hid hD7
          have HZ7 := Lib.hid (HZ6.out.keep hb6)
          have CL := Lib.hid (RLeft_any hx9 _ hD7.rd)
          clear hb6 hD7
          by_cases hlt9 : P < 8 * x.length
          · have hend := Lib.hid (hends.out.trans (if_pos hlt9))
            go_wp2_with fail
            refine CL.out.mono ?_
            rintro e w7 ⟨rfl, nq, rfl⟩
            have HD8 := Lib.hid (HD7.out.below (below_drewN (Below.refl _ w6) nq))
            have HZ8 := Lib.hid (HZ7.out.drewN nq)
            generalize w6.drewN nq = w7 at *
            go_wp2_with fail
            refine (Fail_any 5 _).mono ?_
            rintro e w9 ⟨rfl, hb9⟩
            have hz9 := HZ8.out.keep hb9
            have hD9 := HD8.out.below hb9
            obtain ⟨⟨r0, r1⟩, f0, f1⟩ := er_cells hz9
            obtain ⟨hc3, hr3⟩ := er_set (a' := .int .i64 5) (b' := .slice none 0 0) hz9
            have hrow9 := hD9.row
            have hD10 := hD9.put hc3 (fun i e => by have := hs5; omega) (fun i hi e => own_notBlk hD9.row hz9 (by decide) (by rw [hi, e])) (fun f hf i hi e => own_notBlk (hD9.of f hf) hz9 (by decide) (by rw [hi, e]))
            obtain ⟨⟨s0, s1⟩, -⟩ := er_cells hr3
            have HD10 := Lib.hid hD10
            have HR3 := Lib.hid hr3
            clear hb9 hz9 hD9 hc3 hr3 hrow9 hD10
            go_wp2_with fail
            refine (OK_below _ _ _).mono ?_
            rintro e w11 ⟨rfl, hb11⟩
            have HD11 := Lib.hid (HD10.out.below hb11)
            obtain ⟨⟨t0, t1⟩, -⟩ := er_cells (HR3.out.keep hb11)
            have hs11 : w.heap.size < w11.heap.size := HD11.out.f3.lt
            clear hb11 s0 s1 r0 r1 f0 f1
            go_wp2_with fail
            refine (RIn_some sSource (j : Int) (path := []) (by simp) (by decide) _ Rd.nil).mono ?_
            unfold EOut
            rintro e w12 ⟨A12, cap12, rfl, hr12, hf12, hb12⟩
            have hz12 := HD11.out.f3.keep hb12
            obtain ⟨⟨r0, r1⟩, f0, f1⟩ := er_cells hz12
            obtain ⟨-, hs⟩ := er_set (a' := .int .i64 5) (b' := .slice A12 1 cap12) hz12
            obtain ⟨⟨s0, s1⟩, -⟩ := er_cells hs
            have HE := Lib.hid (RDecOut.err (cap := cap12) hend.out hz12 hs11 HD11.out.be hr12 hf12 hb12)
            clear hr12 hf12 hb12 hz12 hs t0 t1
            go_wp2_with fail
            refine bodyPost_ret (v := .tuple #[.slice none 0 0, .agg #[.int .i64 5, .slice A12 1 cap12]]) (by simp [results, Tryz.results15, go_sem, s0, s1]) rfl ?_
            exact HE.out
          · have hend := Lib.hid (hends.out.trans (if_neg hlt9))
            go_wp2_with fail
            refine CL.out.mono ?_
            rintro e w7 ⟨rfl, nq, rfl⟩
            have HD8 := Lib.hid (HD7.out.below (below_drewN (Below.refl _ w6) nq))
            have HZ8 := Lib.hid (HZ7.out.drewN nq)
            generalize w6.drewN nq = w7 at *
            obtain ⟨⟨t0, t1⟩, -⟩ := er_cells HZ8.out
            go_wp2_with fail
            refine (OK_below _ _ _).mono ?_
            rintro e w9 ⟨rfl, hb9⟩
            have hD9 := HD8.out.below hb9
            obtain ⟨⟨v0, v1⟩, -⟩ := er_cells (HZ8.out.keep hb9)
            obtain ⟨⟨r0, r1⟩, f0, f1⟩ := er_cells hD9.f3
            obtain ⟨hc3, hr3⟩ := er_set (a' := .int .i64 0) (b' := .slice A5 0 cap5) hD9.f3
            obtain ⟨⟨s0, s1⟩, -⟩ := er_cells hr3
            have hrow3 := own_chg hD9.row hc3 (fun i hi e => own_notBlk hD9.row hD9.f3 (by decide) (by rw [hi, e]))
            have hof3 : OwnF _ w.heap.size l := fun f hf => own_chg (hD9.of f hf) hc3 (fun i hi e => own_notBlk (hD9.of f hf) hD9.f3 (by decide) (by rw [hi, e]))
            have HRF := Lib.hid (hof3.rd hrow3 (fun f hf => (hfl.out f hf).2.2))
            have HBE := Lib.hid (hD9.be.trans (hc3.below hD9.be.size (fun i e => by omega)))
            have hzz : ¬ z = w.heap.size := by omega
            clear hb9 hD9 hc3 hr3 hrow3 hof3 t0 t1
            go_wp2_with fail
            go_region
            all_goals
              go_wp2_with fail
              refine bodyPost_ret (v := .tuple #[.slice AL l.length cL, .agg #[.int .i64 0, .slice A5 0 cap5]]) (by simp [results, Tryz.results15, go_sem, s0, s1]) rfl ?_
              unfold RDecOut
              rw [hend.out, HWO.out.1, HWO.out.2]
              exact ⟨⟨AL, cL, l, A5, cap5, rfl, HRF.out.keep ((Below.refl _ _).drew), rfl, fun f hf => ⟨(hfl.out f hf).1, (hfl.out f hf).2.1⟩⟩, HBE.out.drew⟩
        · dsimp only [oneC, oneP] at hrd5 ⊢
          simp only [List.length_cons, List.length_nil, Nat.zero_add] at hrd5 ⊢
          have hD6 := hD5.below (al5 #[.int .i64 2, .slice A5 1 cap5])
          have HD6 := Lib.hid hD6
          have HZ6 := Lib.hid (Blk.new w5 34 #[.int .i64 2, .slice A5 1 cap5])
          have HR6 := Lib.hid (Rd.keep hrd5 (al5 #[.int .i64 2, .slice A5 1 cap5]))
          have hend := Lib.hid (HS.out a HFO.out)
          obtain ⟨z, hz⟩ : ∃ z, w5.heap.size = z := ⟨_, rfl⟩
          rw [hz] at HZ6 hs5
          clear hD5 hD6 hrd5 hfar5 ho5 al5 CA
          go_wp2_with fail
          clear hz
          refine (OK_below _ _ _).mono ?_
          rintro e w6 ⟨rfl, hb6⟩
          have HD7 := Lib.hid (HD6.out.below hb6)
          have HZ7 := Lib.hid (HZ6.out.keep hb6)
          have HR7 := Lib.hid (HR6.out.keep hb6)
          obtain ⟨⟨t0, t1⟩, -⟩ := er_cells HZ7.out
          clear hb6
          go_wp2_with fail
          refine (OK_below _ _ _).mono ?_
          rintro e w7 ⟨rfl, hb7⟩
          have HD8 := Lib.hid (HD7.out.below hb7)
          have HR8 := Lib.hid (HR7.out.keep hb7)
          obtain ⟨⟨v0, v1⟩, -⟩ := er_cells (HZ7.out.keep hb7)
          have hs7 : w.heap.size < w7.heap.size := HD8.out.f3.lt
          clear hb7 t0 t1
          go_wp2_with fail
          refine (RIn_some sSource (j : Int) (path := [(sBits, (a : Int))]) (by simp) (by decide) _ HR8.out).mono ?_
          unfold EOut
          rintro e w12 ⟨A12, cap12, rfl, hr12, hf12, hb12⟩
          have hz12 := HD8.out.f3.keep hb12
          obtain ⟨⟨r0, r1⟩, f0, f1⟩ := er_cells hz12
          obtain ⟨-, hs⟩ := er_set (a' := .int .i64 2) (b' := .slice A12 2 cap12) hz12
          obtain ⟨⟨s0, s1⟩, -⟩ := er_cells hs
          have HE := Lib.hid (RDecOut.err (cap := cap12) hend.out hz12 hs7 HD8.out.be hr12 hf12 hb12)
          clear hr12 hf12 hb12 hz12 hs v0 v1
          go_wp2_with fail
          refine bodyPost_ret (v := .tuple #[.slice none 0 0, .agg #[.int .i64 2, .slice A12 2 cap12]]) (by simp [results, Tryz.results15, go_sem, s0, s1]) rfl ?_
          exact HE.out

theorem RDecode_any {b : List Int} {A : Option Addr} {c : Nat} (hbl : b.length ≤ 1000000000) (hcap : b.length ≤ c) (hbd : ∀ x ∈ b, 0 ≤ x ∧ x ≤ 255) (w : World) (ha : RdI .u8 w A b) :
    Calls Tryz.prog 15 #[.slice A b.length c] w (RDecOut w b) := by
  by_cases h5 : b.length < 5
  · exact RDecode_1 h5 w
  · by_cases h2 : b.getD 0 0 = 75 ∧ b.getD 1 0 = 83
    · by_cases h3 : (1 ≤ b.getD 2 0 ∧ b.getD 2 0 ≤ 4) ∧ (1 ≤ b.getD 3 0 ∧ b.getD 3 0 ≤ 4) ∧ 1 ≤ b.getD 4 0 ∧ b.getD 4 0 ≤ 16
      · refine RDecode_body hbl hcap hbd ?_ w ha
        unfold headF
        rw [if_neg h5, if_neg (fun h => h h2), if_neg (fun h => h h3)]
      · exact RDecode_3 (by omega) hbd h2 h3 w ha
    · exact RDecode_2 (by omega) hbd h2 w ha

end Go.Proofs.YtnccebfapihpjaaGreatDoor
