/- The plain law of kinlaw3.CodesBack: what is put comes back, with a bound that is just it. No program in sight but the operations' names. -/
import Derived.Test.YtdanjeoiandjfaaDoorCodesPutsC
namespace Go.Proofs.YtdanjeoiandjfaaDoor
open Go Go.RowKit Go.Extern.Stop Go.Stop Go.Extern

/-- The bits of the operations done. -/
def encC (ds : List Op3) : List Bool := ds.flatMap bitsOp
theorem encC_snoc (ds : List Op3) (o : Op3) : encC (ds ++ [o]) = encC ds ++ bitsOp o := by simp [encC]
theorem encC_at (ds : List Op3) (i : Nat) (h : i < ds.length) : (∃ r, encC ds = encC (ds.take i) ++ bitsOp ds[i] ++ r) ∧ encC (ds.take (i + 1)) = encC (ds.take i) ++ bitsOp ds[i] := by
  have e : ds.take (i + 1) = ds.take i ++ [ds[i]] := List.take_succ_eq_append_getElem h
  have e2 : encC (ds.take (i + 1)) = encC (ds.take i) ++ bitsOp ds[i] := by rw [e, encC_snoc]
  refine ⟨⟨encC (ds.drop (i + 1)), ?_⟩, e2⟩
  rw [← e2]
  have : ds = ds.take (i + 1) ++ ds.drop (i + 1) := (List.take_append_drop _ _).symm
  unfold encC
  rw [← List.flatMap_append, ← this]

/-- Each operation done is a code that may be put. -/
def Ok3 (o : Op3) : Prop := (o.k = 0 ∧ Co.ueMay o.v = true) ∨ (o.k = 1 ∧ Co.seMay o.v = true) ∨ (o.k = 2 ∧ Co.riceMay o.v o.n = true)
def Done3 (ds : List Op3) : Prop := ∀ o ∈ ds, Ok3 o
theorem Done3.snoc {ds : List Op3} {o : Op3} (h : Done3 ds) (ho : Ok3 o) : Done3 (ds ++ [o]) := by
  intro x hx
  rcases List.mem_append.1 hx with h1 | h1
  · exact h x h1
  · rw [List.mem_singleton] at h1; subst h1; exact ho

theorem back_ue {x r m : List Bool} {v : Int} (h : m = x ++ Co.ueBits v ++ r) (hm : Co.ueMay v = true) : Co.getUe (Bi.pack m) (8 * (Bi.pack m).length) x.length v = (.num v, x.length + (Co.ueBits v).length) := by
  obtain ⟨h0, h1⟩ := of_decide_eq_true hm
  refine Co.getUe_back h0 h1 (Int.le_refl _) ?_ (Co.at_pack h)
  have : m.length = x.length + (Co.ueBits v).length + r.length := by rw [h]; simp; omega
  rw [Bi.pack_length]; omega
theorem back_se {x r m : List Bool} {v : Int} (h : m = x ++ Co.ueBits (Co.fold v) ++ r) (hm : Co.seMay v = true) : Co.getSe (Bi.pack m) (8 * (Bi.pack m).length) x.length (max v (-v)) = (.num v, x.length + (Co.ueBits (Co.fold v)).length) := by
  obtain ⟨h0, h1⟩ := of_decide_eq_true hm
  refine Co.getSe_back (by omega) (Int.le_refl _) ?_ (Co.at_pack h)
  have : m.length = x.length + (Co.ueBits (Co.fold v)).length + r.length := by rw [h]; simp; omega
  rw [Bi.pack_length]; omega
theorem back_rice {x r m : List Bool} {v : Int} {k : Nat} (h : m = x ++ Co.riceBits v k ++ r) (hm : Co.riceMay v k = true) : Co.getRice (Bi.pack m) (8 * (Bi.pack m).length) x.length k v = (.num v, x.length + (Co.riceBits v k).length) := by
  obtain ⟨h0, h1, _, _⟩ := of_decide_eq_true hm
  refine Co.rice_back h0 h1 (Int.le_refl _) ?_ (Co.at_pack h)
  have : m.length = x.length + (Co.riceBits v k).length + r.length := by rw [h]; simp; omega
  rw [Bi.pack_length]; omega

/-! ### The row of operations done, beside writers and readers -/
theorem opInfo3 : (Tryd.prog.info? 41).map (fun i => (i.zero, i.size, i.bytes)) = some (some (.agg #[.int .i64 0, .int .i64 0, .int .i64 0, .int .i64 0]), 4, 32) := by kernel_rfl

theorem own_write {w w' : World} {B B' g n size : Nat} {v u : Value} {l m : List Bool} {xs : List Value} (h : w.ownsRow B' 41 size u n xs) (hw : Wtr w B g v l) (ho : WOut w B g v m w') : w'.ownsRow B' 41 size u n xs := by
  obtain ⟨_, _, hc, _⟩ := ho
  refine own_chg h hc (fun i hi hS => ?_)
  rcases hS with rfl | e
  · exact own_notBlk h hw.1 (by decide) hi
  · exact own_own h hw.2 (by decide) i hi e
theorem own_read {lo hi' : Nat} {w w' : World} {B' g n size p q : Nat} {u : Value} {b : List Int} {xs : List Value} (h : w.ownsRow B' 41 size u n xs) (hr : RdrT 74 lo hi' w g b p) (ho : ROut 74 lo hi' w g b q w') : w'.ownsRow B' 41 size u n xs := by
  obtain ⟨_, _, A, c, hblk, _⟩ := hr
  refine own_chg h ho.2 (fun i hi hS => ?_)
  subst hS
  exact own_notBlk h hblk (by decide) hi
theorem Wtr.grown {w w' : World} {B B' g n size : Nat} {v u : Value} {l : List Bool} {xs : List Value} (h : Wtr w B g v l) (hu : w.ownsRow B' 41 size u n xs) (hg : w.grownBy w' u.ownBlock) : Wtr w' B g v l := by
  have hc : Chg (fun i => u.ownBlock = some i) w w' := Chg.of_grown hg (fun i _ e => e.symm)
  refine h.chg hc (fun hS => own_notBlk hu h.1 (by decide) hS) (fun i hi hS => own_own hu h.2 (by decide) i hS hi)

end Go.Proofs.YtdanjeoiandjfaaDoor
