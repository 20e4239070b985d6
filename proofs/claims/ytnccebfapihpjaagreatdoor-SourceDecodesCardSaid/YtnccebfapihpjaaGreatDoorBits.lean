/- Contracts of package bits: the writer. -/
import Derived.Test.YtnccebfapihpjaaGreatDoorAs
import Derived.Test.YtnccebfapihpjaaGreatDoorChg
import Derived.Test.YtnccebfapihpjaaGreatDoorAppend
import Derived.Test.YtnccebfapihpjaaGreatDoorBitsLaw
import Derived.BigRegion
import Derived.BigQuiet
import Derived.Deep.QuietTactic
namespace Go.Proofs.YtnccebfapihpjaaGreatDoor
open Go Go.RowKit

theorem u8Info : (Tryz.prog.info? 5).map (fun i => (i.zero, i.size, i.bytes)) = some (some (.int .u8 0), 1, 1) := by kernel_rfl

/-- At g there is a writer that has these bits; its bytes are v, a row of its own from B on. -/
def Wtr (w : World) (B g : Nat) (v : Value) (l : List Bool) : Prop :=
  Blk w g 94 #[v, .int .i64 l.length] ∧ w.ownsRow B 5 1 v (Bi.pack l).length ((Bi.pack l).map (Value.int .u8))

/-- What a writer's call may turn. -/
def WS (g : Nat) (v : Value) (i : Nat) : Prop := i = g ∨ v.ownBlock = some i

/-- A writer's call: it has the bits m now; only it and its row have turned. -/
def WOut (w : World) (B g : Nat) (v : Value) (m : List Bool) (w' : World) : Prop :=
  ∃ v', Wtr w' B g v' m ∧ Chg (WS g v) w w' ∧ ∀ i, v'.ownBlock = some i → v.ownBlock = some i ∨ w.heap.size ≤ i

theorem WOut.trans {w w' w'' : World} {B g : Nat} {v : Value} {m : List Bool} (h : Chg (WS g v) w w') {v' : Value} (hv : ∀ i, v'.ownBlock = some i → v.ownBlock = some i ∨ w.heap.size ≤ i) (k : WOut w' B g v' m w'') : WOut w B g v m w'' := by
  obtain ⟨u, h1, h2, h3⟩ := k
  refine ⟨u, h1, h.step h2 (fun i hi hS => ?_), fun i hi => ?_⟩
  · rcases hS with e | e
    · exact .inl e
    · rcases hv i e with h4 | h4
      · exact .inr h4
      · omega
  · rcases h3 i hi with h4 | h4
    · exact hv i h4
    · have := h.size; exact .inr (by omega)

theorem or_bit : ∀ (q : Nat), q < 256 → ∀ r : Nat, r < 8 → q % 2 ^ (8 - r) = 0 → bits .or .u8 (q : Int) (128 / 2 ^ r) = (q : Int) + 2 ^ (7 - r) := by
  decide +kernel

/-- The last byte, with the bit. -/
def lastB (l : List Bool) : Int := (Bi.grown l).getD (l.length / 8) 0
theorem lastB_get (l : List Bool) : ((Bi.grown l).map (Value.int .u8))[l.length / 8]? = some (.int .u8 (lastB l)) := by
  have h : l.length / 8 < (Bi.grown l).length := by rw [Bi.grown_length]; omega
  unfold lastB
  rw [List.getElem?_map, List.getD_eq_getElem?_getD, List.getElem?_eq_getElem h]; rfl
theorem lastB_or (l : List Bool) : bits .or .u8 (lastB l) (128 / 2 ^ (l.length % 8)) = lastB l + 2 ^ (7 - l.length % 8) := by
  obtain ⟨h0, h1, h2⟩ := Bi.grown_last l
  obtain ⟨q, hq⟩ := Int.eq_ofNat_of_zero_le h0
  have h3 := or_bit q (by omega) (l.length % 8) (by omega) (by rw [hq] at h2; exact_mod_cast h2)
  unfold lastB
  rw [hq]
  exact h3

theorem lastB_or0 (l : List Bool) (h : l.length % 8 = 0) : bits .or .u8 (lastB l) 128 = lastB l + 2 ^ (7 - l.length % 8) := by
  have := lastB_or l
  rw [h] at this ⊢
  simpa using this
theorem WOut.drew {w w' : World} {B g : Nat} {v : Value} {m : List Bool} (h : WOut w B g v m w') : WOut w B g v m w'.drew := by
  obtain ⟨u, h1, h2, h3⟩ := h
  exact ⟨u, h1, h2.drew, h3⟩

/-- Behind the byte begun: the writer's cells, and its row. -/
structure Mid (w : World) (B g gb cap : Nat) (v : Value) (l : List Bool) (W : World) : Prop where
  blk : Blk W g 94 #[.slice (some ⟨gb, 0, none⟩) (Bi.grown l).length cap, .int .i64 l.length]
  own : W.ownsRow B 5 1 (.slice (some ⟨gb, 0, none⟩) (Bi.grown l).length cap) (Bi.grown l).length ((Bi.grown l).map (Value.int .u8))
  chg : Chg (WS g v) w W
  row : v.ownBlock = some gb ∨ w.heap.size ≤ gb

theorem Mid.no {w W : World} {B g gb cap : Nat} {v : Value} {l : List Bool} (h : Mid w B g gb cap v l W) (n : Int) (hn : n = l.length + 1) : WOut w B g v (l ++ [false]) (W.setCell ⟨g, 1, none⟩ (.int .i64 n)) := by
  have hb := h.blk.store 1 (.int .i64 n)
  have hne := own_notBlk h.own h.blk (by decide)
  refine ⟨.slice (some ⟨gb, 0, none⟩) (Bi.grown l).length cap, ⟨?_, ?_⟩, h.chg.setCell (fun _ => .inl rfl) _, fun i hi => ?_⟩
  · have e : ((l ++ [false]).length : Int) = n := by simp [hn]
    rw [e]; simpa using hb
  · rw [Bi.pack_snoc_false]
    exact own_chg h.own ((Chg.refl (fun i => i = g) _).setCell (fun _ => rfl) _) (fun i hi e => hne (by rw [hi, e]))
  · have : gb = i := by simpa [Value.ownBlock] using hi
    subst this; exact h.row

theorem Mid.yes {w W : World} {B g gb cap : Nat} {v : Value} {l : List Bool} (h : Mid w B g gb cap v l W) (n : Int) (hn : n = l.length + 1) :
    WOut w B g v (l ++ [true]) ((W.setCell ⟨gb, l.length / 8, none⟩ (.int .u8 (lastB l + 2 ^ (7 - l.length % 8)))).setCell ⟨g, 1, none⟩ (.int .i64 n)) := by
  have hne := own_notBlk h.own h.blk (by decide)
  have hgg : g ≠ gb := fun e => hne (by simp [Value.ownBlock, e])
  have ho := own_store h.own (l.length / 8) (.int .u8 (lastB l + 2 ^ (7 - l.length % 8)))
  have hb := (h.blk.far (p := ⟨gb, l.length / 8, none⟩) hgg (.int .u8 (lastB l + 2 ^ (7 - l.length % 8)))).store 1 (.int .i64 n)
  have hw : ∀ i, i = gb → i < w.heap.size → WS g v i := fun i hi hlt => by
    subst hi
    rcases h.row with h1 | h1
    · exact .inr h1
    · omega
  refine ⟨.slice (some ⟨gb, 0, none⟩) (Bi.grown l).length cap, ⟨?_, ?_⟩, (h.chg.setCell (p := ⟨gb, l.length / 8, none⟩) (fun hp => hw _ rfl hp) _).setCell (fun _ => .inl rfl) _, fun i hi => ?_⟩
  · have e : ((l ++ [true]).length : Int) = n := by simp [hn]
    rw [e]; simpa using hb
  · have e2 : (Bi.pack (l ++ [true])).length = (Bi.grown l).length := by rw [Bi.pack_snoc_true]; simp
    rw [e2, Bi.pack_snoc_true, List.map_set]
    exact own_chg ho ((Chg.refl (fun i => i = g) _).setCell (fun _ => rfl) _) (fun i hi e => hne (by rw [hi, e]))
  · have : gb = i := by simpa [Value.ownBlock] using hi
    subst this; exact h.row

theorem Mid.cells {w W : World} {B g gb cap : Nat} {v : Value} {l : List Bool} (h : Mid w B g gb cap v l W) :
    W.cell? ⟨g, 0, none⟩ = some (.slice (some ⟨gb, 0, none⟩) (Bi.grown l).length cap) ∧ W.cell? ⟨g, 1, none⟩ = some (.int .i64 l.length) ∧ W.frozen? ⟨g, 1, none⟩ = false ∧
    W.cell? ⟨gb, l.length / 8, none⟩ = some (.int .u8 (lastB l)) ∧ W.frozen? ⟨gb, l.length / 8, none⟩ = false ∧ (l.length : Int) / 8 < ((Bi.grown l).length : Int) ∧ g ≠ gb := by
  have hgl := Bi.grown_length l
  obtain ⟨g', cap', hv, _, _, _, hcell, hfroz⟩ := own_form h.own (by omega)
  obtain ⟨rfl, rfl⟩ : gb = g' ∧ cap = cap' := by injection hv with h5 h6 h7; injection h5 with h5; injection h5 with h5; exact ⟨h5, h7⟩
  exact ⟨by rw [h.blk.cell]; rfl, by rw [h.blk.cell]; rfl, h.blk.frozen 1, hcell _ _ (lastB_get l), hfroz _, by omega, fun e => own_notBlk h.own h.blk (by decide) (by simp [Value.ownBlock, e])⟩

theorem mid_new {w w1 : World} {B g gb cap c : Nat} {A : Option Addr} {l : List Bool} (hblk : Blk w g 94 #[.slice A (Bi.pack l).length c, .int .i64 l.length])
    (hown : w.ownsRow B 5 1 (.slice A (Bi.pack l).length c) (Bi.pack l).length ((Bi.pack l).map (Value.int .u8))) (hg : Bi.grown l = Bi.pack l ++ [0])
    (hgrow : (w.alloc (.cells #[.int .u8 0] 5)).grownBy w1 (Value.slice A (Bi.pack l).length c).ownBlock)
    (hown1 : w1.ownsRow B 5 1 (.slice (some ⟨gb, 0, none⟩) ((Bi.pack l).length + 1) cap) ((Bi.pack l).length + 1) ((Bi.pack l).map (Value.int .u8) ++ [.int .u8 0]))
    (hat : (Value.slice A (Bi.pack l).length c).ownBlock = some gb ∨ gb = (w.alloc (.cells #[.int .u8 0] 5)).heap.size) :
    Mid w B g gb cap (.slice A (Bi.pack l).length c) l (w1.setCell ⟨g, 0, none⟩ (.slice (some ⟨gb, 0, none⟩) (Bi.grown l).length cap)) := by
  have hne := own_notBlk hown hblk (by decide)
  have hb1 := (hblk.alloc (.cells #[.int .u8 0] 5)).grown hgrow (Ne.symm hne)
  have hgl : (Bi.pack l).length + 1 = (Bi.grown l).length := by rw [hg]; simp
  have hmp : (Bi.pack l).map (Value.int .u8) ++ [.int .u8 0] = (Bi.grown l).map (Value.int .u8) := by rw [hg]; simp
  rw [hgl, hmp] at hown1
  have hne1 := own_notBlk hown1 hb1 (by decide)
  refine ⟨?_, own_chg hown1 ((Chg.refl (fun i => i = g) _).setCell (fun _ => rfl) _) (fun i hi e => hne1 (by rw [hi, e])), ?_, ?_⟩
  · simpa using hb1.store 0 (.slice (some ⟨gb, 0, none⟩) (Bi.grown l).length cap)
  · have h1 : Chg (WS g (.slice A (Bi.pack l).length c)) w (w.alloc (.cells #[.int .u8 0] 5)) := (Chg.refl _ _).alloc _
    exact (h1.trans (Chg.of_grown hgrow (fun i _ e => .inr e.symm))).setCell (fun _ => .inl rfl) _
  · rcases hat with h | h
    · exact .inl h
    · simp at h; exact .inr (by omega)

set_option maxRecDepth 100000 in
set_option maxHeartbeats 1000000 in
theorem bit_any {l : List Bool} {x : Bool} {B g : Nat} {v : Value} (hl : l.length ≤ 1000000000) (w : World) (hB : B ≤ w.heap.size) (h : Wtr w B g v l) :
    Calls Tryz.prog 54 #[.pointer (some ⟨g, 0, none⟩), .bool x] w fun e w' => e = .returned (.tuple #[]) ∧ WOut w B g v (l ++ [x]) w' := by
  obtain ⟨i0, hi, hz0, hz1, hz2⟩ := info_parts u8Info
  obtain ⟨hblk, hown⟩ := h
  have hpl := Bi.pack_length l
  have hc0 : w.cell? ⟨g, 0, none⟩ = some v := by rw [hblk.cell]; rfl
  have hc1 : w.cell? ⟨g, 1, none⟩ = some (.int .i64 l.length) := by rw [hblk.cell]; rfl
  have hf0 := hblk.frozen 0
  have hf1 := hblk.frozen 1
  have hlt := hblk.lt
  have hpl' : (Bi.pack l).length ≤ 1000000000 := by omega
  have HPL := Lib.hid hpl
  clear hpl
  obtain ⟨A, c, rfl⟩ := own_slice hown
  have hne := own_notBlk hown hblk (by decide)
  by_cases h8 : l.length % 8 = 0
  · have h8' : ((l.length : Int) % 8 == 0) = true := by rw [beq_iff_eq]; omega
    have hgr : Bi.grown l = Bi.pack l ++ [0] := by unfold Bi.grown; rw [if_pos h8]
    have HGR := Lib.hid hgr
    clear hgr
    cases x with
    | true =>
      go_enter Tryz.func54, Tryz.ntmps54
      go_wp2_with (at_builtin; refine wpList_append_lies _ rfl (.tmp 14) (.tmp 15) _ rfl B 5 i0 _ 1 1 Tryz.underlying26 hi hz0 hz1 hz2 rfl (by omega) (.slice A (Bi.pack l).length c) (Bi.pack l).length _ rfl (hown.alloc _) ⟨w.heap.size, 0, none⟩ 1 1 [.int .u8 0] rfl rfl (World.news_of_block (cs := #[.int .u8 0]) (t := 5) (fr := (0, 0)) (heap_alloc_new w _)) (by simp [Value.oneCell']) (by omega) (by unfold maxLen; omega) (by omega) (by simp; omega) _ rfl ?_; intro gb cap w1 hown1 hgrow hat hlt1; have hb1 := (hblk.alloc (.cells #[.int .u8 0] 5)).grown hgrow (Ne.symm hne); have d0 := hb1.frozen 0; have d1 := hb1.frozen 1; have d2 : w1.cell? ⟨g, 1, none⟩ = some (.int .i64 l.length) := (by rw [hb1.cell]; rfl); have d3 := hb1.lt; have d4 : w1.cell? ⟨g, 0, none⟩ = some (.slice A (Bi.pack l).length c) := (by rw [hb1.cell]; rfl))
      have hmid := mid_new hblk hown HGR.out hgrow hown1 hat
      have hgl : (Bi.pack l).length + 1 = (Bi.grown l).length := by rw [HGR.out]; simp
      rw [hgl]
      generalize w1.setCell ⟨g, 0, none⟩ (.slice (some ⟨gb, 0, none⟩) (Bi.grown l).length cap) = W at *
      clear hgl hown1 hgrow hat hb1 d0 d1 d2 d3 d4 hc0 hc1 hf0 hf1
      obtain ⟨e0, e1, e2, e3, e4, e5, e6⟩ := hmid.cells
      go_region
      all_goals (
        go_wp2_with fail
        go_end0
        refine ⟨rfl, ?_⟩
        have hfin := hmid.yes _ rfl
        rw [← lastB_or0 l h8] at hfin
        exact hfin.drew)
    | false =>
      go_enter Tryz.func54, Tryz.ntmps54
      go_wp2_with (at_builtin; refine wpList_append_lies _ rfl (.tmp 14) (.tmp 15) _ rfl B 5 i0 _ 1 1 Tryz.underlying26 hi hz0 hz1 hz2 rfl (by omega) (.slice A (Bi.pack l).length c) (Bi.pack l).length _ rfl (hown.alloc _) ⟨w.heap.size, 0, none⟩ 1 1 [.int .u8 0] rfl rfl (World.news_of_block (cs := #[.int .u8 0]) (t := 5) (fr := (0, 0)) (heap_alloc_new w _)) (by simp [Value.oneCell']) (by omega) (by unfold maxLen; omega) (by omega) (by simp; omega) _ rfl ?_; intro gb cap w1 hown1 hgrow hat hlt1; have hb1 := (hblk.alloc (.cells #[.int .u8 0] 5)).grown hgrow (Ne.symm hne); have d0 := hb1.frozen 0; have d1 := hb1.frozen 1; have d2 : w1.cell? ⟨g, 1, none⟩ = some (.int .i64 l.length) := (by rw [hb1.cell]; rfl); have d3 := hb1.lt; have d4 : w1.cell? ⟨g, 0, none⟩ = some (.slice A (Bi.pack l).length c) := (by rw [hb1.cell]; rfl))
      have hmid := mid_new hblk hown HGR.out hgrow hown1 hat
      have hgl : (Bi.pack l).length + 1 = (Bi.grown l).length := by rw [HGR.out]; simp
      rw [hgl]
      go_end0
      exact ⟨rfl, hmid.no _ rfl⟩
  · have h8' : ((l.length : Int) % 8 == 0) = false := by rw [beq_eq_false_iff_ne]; omega
    have hgr : Bi.grown l = Bi.pack l := by unfold Bi.grown; rw [if_neg h8]
    have HGR := Lib.hid hgr
    clear hgr
    have hgl : (Bi.pack l).length = (Bi.grown l).length := by rw [HGR.out]
    obtain ⟨gb, hA⟩ : ∃ gb, A = some ⟨gb, 0, none⟩ := by
      obtain ⟨gb, cap, hv, _⟩ := own_form hown (by have := HPL.out; omega)
      injection hv with hv
      exact ⟨gb, hv⟩
    subst hA
    have hmid : Mid w B g gb c (.slice (some ⟨gb, 0, none⟩) (Bi.pack l).length c) l w := ⟨by rw [← hgl]; exact hblk, by rw [← hgl, HGR.out]; exact hown, Chg.refl _ _, .inl rfl⟩
    have hfy := Lib.hid (hmid.yes _ rfl)
    have hfn := Lib.hid (hmid.no _ rfl)
    obtain ⟨e0, e1, e2, e3, e4, e5, e6⟩ := hmid.cells
    rw [← hgl] at e0 e5
    clear hmid hgl hc0 hc1 hf1
    cases x with
    | true =>
      go_enter Tryz.func54, Tryz.ntmps54
      go_wp2_with fail
      go_region
      all_goals (
        go_wp2_with fail
        go_end0
        refine ⟨rfl, ?_⟩
        have hfin := hfy.out
        rw [← lastB_or] at hfin
        exact hfin.drew)
    | false =>
      go_enter Tryz.func54, Tryz.ntmps54
      go_wp2_with fail
      go_end0
      exact ⟨rfl, hfn.out⟩

end Go.Proofs.YtnccebfapihpjaaGreatDoor
