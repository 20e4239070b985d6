/- What source.Encode writes: bounds. No program in sight but for the types of memory. -/
import Derived.Test.YtnccebfapihpjaaGreatDoorSourceC
import Derived.Test.YtnccebfapihpjaaGreatDoorBitsCom
namespace Go.Proofs.YtnccebfapihpjaaGreatDoor
open Go Go.RowKit Go.Extern.Stop Go.Stop Go.Extern

theorem own_writeI {w w' : World} {B B' g n size : Nat} {v u : Value} {l m : List Bool} {xs : List Value} (h : w.ownsRow B' 3 size u n xs) (hw : Wtr w B g v l) (ho : WOut w B g v m w') : w'.ownsRow B' 3 size u n xs := by
  obtain ⟨_, _, hc, _⟩ := ho
  refine own_chg h hc (fun i hi hS => ?_)
  rcases hS with rfl | e
  · exact own_notBlk h hw.1 (by decide) hi
  · exact own_own h hw.2 (by decide) i hi e

theorem rice_len {v : Int} {k : Nat} (h : Co.riceMay v k = true) : (Co.riceBits v k).length ≤ 55 := by
  have h1 := Co.riceBits_length h
  have h2 := Co.sizeRice_bd v k
  simp only [Int.toNat_natCast] at h1
  omega
theorem rice_may {v : Int} {k : Nat} (h0 : 0 ≤ v) (h1 : v ≤ 510) (hk : k ≤ 7) : Co.riceMay v k = true := decide_eq_true ⟨h0, by omega, by omega, by omega⟩
theorem folds_bd {L : List Int} (h : ∀ v ∈ L, 0 ≤ v ∧ v ≤ 255) (w : Nat) : ∀ v ∈ So.folds L w, 0 ≤ v ∧ v ≤ 510 := by
  intro v hv
  obtain ⟨i, _, rfl⟩ := List.mem_map.1 hv
  exact So.foldAt_bd h w i
theorem many_len {k : Nat} (hk : k ≤ 7) : ∀ {l : List Int}, (∀ v ∈ l, 0 ≤ v ∧ v ≤ 510) → (So.manyBits k l).length ≤ 55 * l.length
  | [], _ => by simp [So.manyBits]
  | v :: r, h => by
    have h1 := many_len hk (l := r) fun x hx => h x (by simp [hx])
    have h2 := rice_len (rice_may (h v (by simp)).1 (h v (by simp)).2 hk)
    simp only [So.manyBits, List.length_append, List.length_cons]
    omega
theorem many_snoc {k : Nat} {l : List Int} {t : Nat} (h : t < l.length) : So.manyBits k (l.take (t + 1)) = So.manyBits k (l.take t) ++ Co.riceBits l[t] k := by
  rw [List.take_succ_eq_append_getElem h, So.manyBits_app]
  simp [So.manyBits]
theorem frame_len {L : List Int} (h : ∀ v ∈ L, 0 ≤ v ∧ v ≤ 255) (w : Nat) : (So.frameBits L w).length ≤ 3 + 55 * L.length := by
  have hk := So.bestK_bd (So.folds L w)
  have h1 := many_len (k := (So.bestK (So.folds L w)).toNat) (by omega) (folds_bd h w)
  unfold So.frameBits
  simp only [List.length_append, Bi.bitsOf_length]
  rw [folds_length] at h1
  omega

/-- The bytes of frames that may be. -/
def encF : List Frm → List Int
  | [] => []
  | f :: r => [75, 83, f.w / 8, f.h / 8, ((f :: r).length : Int)] ++ Bi.pack (So.allBits f.w.toNat ((f :: r).map Frm.pix))

theorem all_snoc (w : Nat) {l : List Frm} {j : Nat} (h : j < l.length) : So.allBits w ((l.take (j + 1)).map Frm.pix) = So.allBits w ((l.take j).map Frm.pix) ++ So.frameBits l[j].pix w := by
  rw [List.take_succ_eq_append_getElem h, List.map_append, So.allBits_app]
  simp [So.allBits]

theorem may_bd {f : Frm} (h : f.may = true) : (8 ≤ f.w ∧ f.w ≤ 32) ∧ (8 ≤ f.h ∧ f.h ≤ 32) ∧ (f.pix.length : Int) = f.w * f.h ∧ f.pix.length ≤ 1024 ∧ ∀ v ∈ f.pix, 0 ≤ v ∧ v ≤ 255 := by
  obtain ⟨h1, h2, h3, h4⟩ := mayF_of h
  refine ⟨h1, h2, h3, ?_, h4⟩
  have : f.w * f.h ≤ 32 * 32 := Int.mul_le_mul h1.2 h2.2 (by omega) (by omega)
  omega

theorem check_zero {l : List Frm} (h : checkF l = 0) : ∃ f r, l = f :: r ∧ (∀ g ∈ l, g.may = true ∧ g.w = f.w ∧ g.h = f.h) ∧ l.length ≤ 16 := by
  rcases l with _ | ⟨f, r⟩
  · cases h
  · refine ⟨f, r, rfl, ?_⟩
    simp only [checkF] at h
    split at h
    · cases h
    · next h1 =>
      split at h
      · cases h
      · next h2 =>
        split at h
        · cases h
        · next h3 =>
          simp only [Bool.not_eq_false] at h1 h2
          refine ⟨fun g hg => ⟨List.all_eq_true.1 h1 g hg, ?_⟩, by omega⟩
          have := List.all_eq_true.1 h2 g hg
          simpa using this
theorem check_codes (l : List Frm) : checkF l = 0 ∨ checkF l = 2 ∨ checkF l = 14 ∨ checkF l = 5 := by
  rcases l with _ | ⟨f, r⟩
  · exact .inr (.inl rfl)
  · simp only [checkF]
    split
    · simp
    · split
      · simp
      · split <;> simp

end Go.Proofs.YtnccebfapihpjaaGreatDoor
