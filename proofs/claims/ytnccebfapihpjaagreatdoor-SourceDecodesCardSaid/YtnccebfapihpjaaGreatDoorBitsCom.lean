/- What walks over readers and writers share. -/
import Derived.Test.YtnccebfapihpjaaGreatDoorBitsRef2
import Derived.Test.YtnccebfapihpjaaGreatDoorCodesLaw
namespace Go.Proofs.YtnccebfapihpjaaGreatDoor
open Go Go.RowKit Go.Extern.Stop Go.Stop Go.Extern

/-- A writer is as it was where its blocks are. -/
theorem Wtr.chg {S : Nat → Prop} {w w' : World} {B g : Nat} {v : Value} {l : List Bool} (h : Wtr w B g v l) (hc : Chg S w w') (hg : ¬ S g) (hv : ∀ i, v.ownBlock = some i → ¬ S i) : Wtr w' B g v l := ⟨h.1.chg hc hg, own_chg h.2 hc hv⟩
theorem Wtr.keep {w w' : World} {B g : Nat} {v : Value} {l : List Bool} (h : Wtr w B g v l) (hb : Below w.heap.size w w') : Wtr w' B g v l := h.chg (Chg.of_below (S := fun _ => False) hb) (fun h => h) (fun _ _ h => h)
/-- A reader's call leaves a writer as it is. -/
theorem Wtr.read {lo hi : Nat} {w w' : World} {B g gr q n : Nat} {v : Value} {l : List Bool} {b : List Int} (h : Wtr w B g v l) (hr : RdrT 110 lo hi w gr b n) (ho : ROut 110 lo hi w gr b q w') : Wtr w' B g v l := by
  obtain ⟨_, _, A, c, hblk, _⟩ := hr
  refine h.chg ho.2 ?_ ?_
  · exact Blk.apart h.1 hblk (by decide)
  · rintro i hi rfl
    exact own_notBlk h.2 hblk (by decide) hi
/-- A writer's call leaves a reader as it is that lies wholly behind its header and not in its row. -/
theorem RdrT.write {t : TypeId} {lo hi : Nat} {w w' : World} {B g gr n : Nat} {v : Value} {l : List Bool} {b : List Int} (h : RdrT t lo hi w gr b n) (ho : WOut w B g v l w') (hne : g ≠ gr) (hg : g < lo ∨ hi ≤ g) (hv : ∀ i, v.ownBlock = some i → i ≠ gr ∧ (i < lo ∨ hi ≤ i)) : RdrT t lo hi w' gr b n := by
  obtain ⟨_, _, hc, _⟩ := ho
  refine h.chg hc (fun hS => ?_) (fun i h1 h2 hS => ?_)
  · rcases hS with e | hS
    · exact hne e.symm
    · exact (hv _ hS).1 rfl
  · rcases hS with rfl | hS
    · omega
    · have := hv i hS; omega

theorem gl_chg {S : Nat → Prop} {w w' : World} (h : Gl w) (hc : Chg S w w') (hS : ¬ S 0) : Gl w' := cell_chg h hc hS
theorem gl_lt {w : World} (h : Gl w) : 0 < w.heap.size := lt_of_cell h

theorem RdrT.drewN {t : TypeId} {lo hi : Nat} {w : World} {g : Nat} {b : List Int} {n : Nat} (h : RdrT t lo hi w g b n) (k : Nat) : RdrT t lo hi (w.drewN k) g b n := h

/-- The document's reader and the program's, apart. -/
theorem RdrT.other {t t' : TypeId} {lo hi lo' hi' : Nat} {w w' : World} {g g' : Nat} {b b' : List Int} {n q : Nat} (h : RdrT t lo hi w g b n) (ho : ROut t' lo' hi' w g' b' q w') (hg : g ≠ g') (hb : g' < lo ∨ hi ≤ g') : RdrT t lo hi w' g b n :=
  h.chg ho.2 hg (fun i h1 h2 e => by omega)



theorem own_of_len {w : World} {base n : Nat} {e : TypeId} {v : Value} {xs : List Int} (h : w.ownsRow base e 1 v n (xs.map (Value.int .u8))) : xs.length = n := by have := h.1; simpa using this

/-- The two writers are apart. -/
theorem RWtr.write {w w' : World} {B B' g gx : Nat} {v u : Value} {l m l' : List Bool} (h : RWtr w B' gx u l') (hw : Wtr w B g v l) (ho : WOut w B g v m w') : RWtr w' B' gx u l' := by
  obtain ⟨_, _, hc, _⟩ := ho
  refine ⟨h.1.chg hc (fun hS => ?_), own_chg h.2 hc (fun i hi hS => ?_)⟩
  · rcases hS with e | e
    · exact Blk.apart h.1 hw.1 (by decide) e
    · exact own_notBlk hw.2 h.1 (by decide) e
  · rcases hS with rfl | e
    · exact own_notBlk h.2 hw.1 (by decide) hi
    · exact own_own h.2 hw.2 (by decide) i hi e
theorem Wtr.rwrite {w w' : World} {B B' g gx : Nat} {v u : Value} {l m l' : List Bool} (h : Wtr w B g v l) (hw : RWtr w B' gx u l') (ho : RWOut w B' gx u m w') : Wtr w' B g v l := by
  obtain ⟨_, _, hc, _⟩ := ho
  refine ⟨h.1.chg hc (fun hS => ?_), own_chg h.2 hc (fun i hi hS => ?_)⟩
  · rcases hS with e | e
    · exact Blk.apart h.1 hw.1 (by decide) e
    · exact own_notBlk hw.2 h.1 (by decide) e
  · rcases hS with rfl | e
    · exact own_notBlk h.2 hw.1 (by decide) hi
    · exact own_own h.2 hw.2 (by decide) i hi e
theorem RWtr.keep {w w' : World} {B g : Nat} {v : Value} {l : List Bool} (h : RWtr w B g v l) (hb : Below w.heap.size w w') : RWtr w' B g v l := ⟨h.1.keep hb, own_keep h.2 hb⟩
/-- What a writer's call leaves below. -/
theorem below_w {w0 w w' : World} {B g : Nat} {v : Value} {l m : List Bool} (h : Below w0.heap.size w0 w) (hw : Wtr w B g v l) (ho : WOut w B g v m w') (hg : w0.heap.size ≤ g) (hB : w0.heap.size ≤ B) : Below w0.heap.size w0 w' := by
  obtain ⟨_, _, hc, _⟩ := ho
  refine below_chg h hc h.size (fun i hi => ?_)
  rcases hi with rfl | e
  · exact hg
  · have := (hw.2.lt i e).1; omega
theorem below_rw {w0 w w' : World} {B g : Nat} {v : Value} {l m : List Bool} (h : Below w0.heap.size w0 w) (hw : RWtr w B g v l) (ho : RWOut w B g v m w') (hg : w0.heap.size ≤ g) (hB : w0.heap.size ≤ B) : Below w0.heap.size w0 w' := by
  obtain ⟨_, _, hc, _⟩ := ho
  refine below_chg h hc h.size (fun i hi => ?_)
  rcases hi with rfl | e
  · exact hg
  · have := (hw.2.lt i e).1; omega
theorem cell_below {w0 w w' : World} {p : Addr} {v : Value} (h : w.cell? p = some v) (hp : p.block < w0.heap.size) (h1 : Below w0.heap.size w0 w) (h2 : Below w0.heap.size w0 w') : w'.cell? p = some v := by
  have a := h1.cell (p := p) hp
  have b := h2.cell (p := p) hp
  rw [b, ← a]; exact h
theorem bitsOf_len (v : Int) (n : Nat) : (Bi.bitsOf v n).length = n := Bi.bitsOf_length v n
theorem back_num {x r : List Bool} {m : List Bool} {v : Int} {n : Nat} (h : m = x ++ Bi.bitsOf v n ++ r) (h0 : 0 ≤ v) (h1 : v < 2 ^ n) : Bi.num (Bi.pack m) x.length n = v ∧ x.length + n ≤ 8 * (Bi.pack m).length := by
  have hl : m.length = x.length + n + r.length := by rw [h]; simp [Bi.bitsOf_length]; omega
  have hp : x.length + n ≤ 8 * ((m.length + 7) / 8) := by omega
  refine ⟨?_, by rw [Bi.pack_length]; exact hp⟩
  rw [Bi.num_pack _ _ _ hp, h]
  exact Bi.numB_of_bits x r v n h0 h1
/-- A bit comes back. -/
theorem back_bit {x r m : List Bool} {b : Bool} (h : m = x ++ [b] ++ r) : (Bi.bit (Bi.pack m) x.length == 1) = b ∧ x.length + 1 ≤ 8 * (Bi.pack m).length := by
  have hl : m.length = x.length + 1 + r.length := by rw [h]; simp; omega
  refine ⟨?_, by rw [Bi.pack_length]; omega⟩
  rw [Bi.bit_pack _ _ (by omega), h, List.append_assoc, show x.length = x.length + 0 from rfl, Bi.bv_app_right]
  cases b <;> simp [Bi.bv]
/-- Noughts come back. -/
theorem err_cells {w : World} {z : Nat} {c : Int} {s : Value} (h : Blk w z 34 #[.int .i64 c, s]) : w.cell? ⟨z, 0, none⟩ = some (.int .i64 c) ∧ w.cell? ⟨z, 1, none⟩ = some s ∧ w.frozen? ⟨z, 0, none⟩ = false ∧ w.frozen? ⟨z, 1, none⟩ = false :=
  ⟨by rw [h.cell]; rfl, by rw [h.cell]; rfl, h.frozen 0, h.frozen 1⟩

theorem two_pow_bd {n : Nat} (hn : n ≤ 32) : (0 : Int) < 2 ^ n ∧ (2 : Int) ^ n ≤ 4294967296 := by
  refine ⟨Int.pow_pos (by omega), ?_⟩
  have : (2 : Int) ^ n ≤ 2 ^ 32 := by exact_mod_cast Nat.pow_le_pow_right (by omega : 0 < 2) hn
  have e : (2 : Int) ^ 32 = 4294967296 := by decide
  omega
theorem wrap_small {n : Int} (h0 : 0 ≤ n) (h1 : n ≤ 4611686018427387904) : wrap64 n = n := by unfold wrap64; omega


end Go.Proofs.YtnccebfapihpjaaGreatDoor
