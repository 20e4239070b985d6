/- What a list of operations writes, and that it comes back. No program in sight. -/
import Derived.Test.YtbdabjnmocnfpaaDoorBitsWrites
import Derived.Test.YtbdabjnmocnfpaaDoorBitsAligns
namespace Go.Proofs.YtbdabjnmocnfpaaDoor
open Go Go.RowKit

/-- What an operation adds to bits. -/
def chunk (m : List Bool) (o : Op2) : List Bool :=
  if o.k = 0 then Bi.bitsOf o.v o.n.toNat else if o.k = 1 then [o.b] else List.replicate (padTo m.length) false
def enc (ds : List Op2) : List Bool := ds.foldl (fun m o => m ++ chunk m o) []
theorem enc_snoc (ds : List Op2) (o : Op2) : enc (ds ++ [o]) = enc ds ++ chunk (enc ds) o := by simp [enc]
theorem enc_app : ∀ (es ds : List Op2), ∃ r, enc (ds ++ es) = enc ds ++ r := by
  intro es
  induction es with
  | nil => intro ds; exact ⟨[], by simp⟩
  | cons e t ih =>
    intro ds
    obtain ⟨r, hr⟩ := ih (ds ++ [e])
    refine ⟨chunk (enc ds) e ++ r, ?_⟩
    rw [show ds ++ e :: t = (ds ++ [e]) ++ t by simp, hr, enc_snoc, List.append_assoc]
theorem enc_at (ds : List Op2) (i : Nat) (h : i < ds.length) : ∃ r, enc ds = enc (ds.take i) ++ chunk (enc (ds.take i)) ds[i] ++ r ∧ enc (ds.take (i + 1)) = enc (ds.take i) ++ chunk (enc (ds.take i)) ds[i] := by
  have h1 : ds.take (i + 1) = ds.take i ++ [ds[i]] := List.take_succ_eq_append_getElem h
  have h2 : enc (ds.take (i + 1)) = enc (ds.take i) ++ chunk (enc (ds.take i)) ds[i] := by rw [h1, enc_snoc]
  obtain ⟨r, hr⟩ := enc_app (ds.drop (i + 1)) (ds.take (i + 1))
  rw [List.take_append_drop] at hr
  exact ⟨r, by rw [hr, h2], h2⟩

theorem padded_eq (m : List Bool) : Bi.padded m = m ++ List.replicate (padTo m.length) false := rfl

/-- A number comes back. -/
theorem back_num {x r : List Bool} {m : List Bool} {v : Int} {n : Nat} (h : m = x ++ Bi.bitsOf v n ++ r) (h0 : 0 ≤ v) (h1 : v < 2 ^ n) : Bi.num (Bi.pack m) x.length n = v ∧ x.length + n ≤ 8 * (Bi.pack m).length := by
  have hl : m.length = x.length + n + r.length := by rw [h]; simp [Bi.bitsOf_length]; omega
  have hp : x.length + n ≤ 8 * ((m.length + 7) / 8) := by omega
  refine ⟨?_, by rw [Bi.pack_length]; exact hp⟩
  rw [Bi.num_pack _ _ _ hp, h]
  exact Bi.numB_of_bits x r v n h0 h1
/-- A bit comes back. -/
theorem back_bit {x r m : List Bool} {b : Bool} (h : m = x ++ [b] ++ r) : (Bi.bit (Bi.pack m) x.length == 1) = b ∧ x.length + 1 ≤ 8 * (Bi.pack m).length := by
  have hl : m.length = x.length + 1 + r.length := by rw [h]; simp; omega
  refine ⟨?_, by rw [Bi.pack_length]; omega⟩
  rw [Bi.bit_pack _ _ (by omega), h, List.append_assoc, show x.length = x.length + 0 from rfl, Bi.bv_app_right]
  cases b <;> simp [Bi.bv]
/-- Noughts come back. -/
theorem firstOne_zero {b : List Int} {p : Nat} : ∀ {k : Nat}, (∀ t, t < k → Bi.bit b (p + t) = 0) → firstOne b p k = none := by
  intro k
  induction k with
  | zero => intro _; rfl
  | succ k ih =>
    intro h
    simp only [firstOne]
    rw [ih (fun t ht => h t (by omega))]
    simp only []
    rw [if_neg (by rw [h k (by omega)]; omega)]
theorem back_pad {x r m : List Bool} (h : m = x ++ List.replicate (padTo x.length) false ++ r) : firstOne (Bi.pack m) x.length (padTo x.length) = none := by
  have hl : m.length = x.length + padTo x.length + r.length := by rw [h]; simp; omega
  refine firstOne_zero fun t ht => ?_
  rw [Bi.bit_pack _ _ (by omega), h, List.append_assoc, Bi.bv_app_right, Bi.bv_app_left _ _ _ (by simpa using ht)]
  simp [Bi.bv, List.getD_eq_getElem?_getD, ht]
/-- Behind the last bit there are noughts up to the whole byte. -/
theorem back_end (m : List Bool) : firstOne (Bi.pack m) m.length (padTo m.length) = none := by
  refine firstOne_zero fun t ht => ?_
  have hp : m.length + t < 8 * ((m.length + 7) / 8) := by unfold padTo at ht; omega
  rw [Bi.bit_pack _ _ hp, Bi.bv_out _ _ (by omega)]

/-- The operations that were done may be. -/
def Done (ds : List Op2) : Prop := ∀ o ∈ ds, o.k = 0 → 0 ≤ o.n ∧ o.n ≤ 32 ∧ 0 ≤ o.v ∧ o.v < 2 ^ o.n.toNat
theorem Done.snoc {ds : List Op2} {o : Op2} (h : Done ds) (ho : o.k = 0 → 0 ≤ o.n ∧ o.n ≤ 32 ∧ 0 ≤ o.v ∧ o.v < 2 ^ o.n.toNat) : Done (ds ++ [o]) := by
  intro x hx
  rcases List.mem_append.1 hx with h1 | h1
  · exact h x h1
  · simp at h1; subst h1; exact ho

/-! ### A row of operations beside a writer, beside a reader -/
theorem opInfo : (Tryd.prog.info? 31).map (fun i => (i.zero, i.size, i.bytes)) = some (some (.agg #[.int .i64 0, .int .i64 0, .int .i64 0, .bool false]), 4, 32) := by kernel_rfl

theorem own_write {w w' : World} {B B' g n size : Nat} {v u : Value} {l m : List Bool} {xs : List Value} (h : w.ownsRow B' 31 size u n xs) (hw : Wtr w B g v l) (ho : WOut w B g v m w') : w'.ownsRow B' 31 size u n xs := by
  obtain ⟨_, _, hc, _⟩ := ho
  refine own_chg h hc (fun i hi hS => ?_)
  rcases hS with rfl | e
  · exact own_notBlk h hw.1 (by decide) hi
  · exact own_own h hw.2 (by decide) i hi e
theorem own_read {lo hi' : Nat} {w w' : World} {B' g n size p q : Nat} {u : Value} {b : List Int} {xs : List Value} (h : w.ownsRow B' 31 size u n xs) (hr : RdrT 75 lo hi' w g b p) (ho : ROut 75 lo hi' w g b q w') : w'.ownsRow B' 31 size u n xs := by
  obtain ⟨_, _, A, c, hblk, _⟩ := hr
  refine own_chg h ho.2 (fun i hi hS => ?_)
  subst hS
  exact own_notBlk h hblk (by decide) hi
theorem Wtr.grown {w w' : World} {B B' g n size : Nat} {v u : Value} {l : List Bool} {xs : List Value} (h : Wtr w B g v l) (hu : w.ownsRow B' 31 size u n xs) (hg : w.grownBy w' u.ownBlock) : Wtr w' B g v l := by
  have hc : Chg (fun i => u.ownBlock = some i) w w' := Chg.of_grown hg (fun i _ e => e.symm)
  refine h.chg hc (fun hS => own_notBlk hu h.1 (by decide) hS) (fun i hi hS => own_own hu h.2 (by decide) i hS hi)

end Go.Proofs.YtbdabjnmocnfpaaDoor
