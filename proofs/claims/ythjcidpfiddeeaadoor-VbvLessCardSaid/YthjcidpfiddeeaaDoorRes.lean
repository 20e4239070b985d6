/- One form for what the bucket's functions and their references answer: a list, an error; the two held against one another. -/
import Derived.Test.YthjcidpfiddeeaaDoorRefFills
namespace Go.Proofs.YthjcidpfiddeeaaDoor
open Go Go.RowKit Go.Extern.Stop Go.Stop Go.Extern

def outL : Except Er (List Int) → List Int
  | .ok l => l
  | .error _ => []
def outP : Except Er (List Int) → List (ByteArray × Int)
  | .ok _ => []
  | .error e => e.1
def outC : Except Er (List Int) → Int
  | .ok _ => 0
  | .error e => e.2

/-- An error's value: none, or one that reads as path and code. -/
def ErrR (w : World) (p : List (ByteArray × Int)) (c : Int) (v : Value) : Prop := (c = 0 ∧ p = [] ∧ v = .nilIface) ∨ (c ≠ 0 ∧ ErrAt w p (.iface 32 (.int .i64 c)) v)

theorem ErrR.keep {w w' : World} {p : List (ByteArray × Int)} {c : Int} {v : Value} (h : ErrR w p c v) (hb : Below w.heap.size w w') : ErrR w' p c v := by
  rcases h with h | ⟨h1, h2⟩
  · exact .inl h
  · exact .inr ⟨h1, h2.below hb⟩

theorem play_code {rate room : Int} : ∀ {l : List Int} {i : Nat} {has : Int} {j : Nat} {c : Int}, Vb.play rate room i has l = .error (j, c) → c ≠ 0 := by
  intro l
  induction l with
  | nil => intro i has j c h; simp [Vb.play] at h
  | cons n l ih =>
    intro i has j c h
    simp only [Vb.play] at h
    split at h
    · cases h; omega
    · split at h
      · cases h; omega
      · split at h
        · cases h
        · next e he => cases h; exact ih he

theorem fills_code {rate room : Int} : ∀ {l : List Int} {i : Nat} {has : Int} {j : Nat} {c : Int}, Vb.fills rate room i has l = .error (j, c) → c ≠ 0 := by
  intro l
  induction l with
  | nil => intro i has j c h; simp [Vb.fills] at h
  | cons n l ih =>
    intro i has j c h
    simp only [Vb.fills] at h
    split at h
    · cases h; omega
    · split at h
      · cases h
      · next e he => cases h; exact ih he

/-- Errors have a code and a short path. -/
def GoodR (r : Except Er (List Int)) : Prop := ∀ p c, r = .error (p, c) → c ≠ 0 ∧ p.length ≤ 1

theorem goodR {may sizes : Bool} {f : Except (Nat × Int) (List Int)} (h : ∀ j c, f = .error (j, c) → c ≠ 0) : GoodR (bucketR may sizes f) := by
  intro p c e
  unfold bucketR at e
  split at e
  · split at e
    · split at e
      · cases e
      · cases e; exact ⟨h _ _ rfl, by simp⟩
    · cases e; exact ⟨by omega, by simp⟩
  · cases e; exact ⟨by omega, by simp⟩

/-- The program's answer. -/
def Ans (w : World) (r : Except Er (List Int)) (e : Ending) (w' : World) : Prop :=
  ∃ A c v, e = .returned (.tuple #[.slice A (outL r).length c, v]) ∧ RdI .i64 w' A (outL r) ∧ ErrR w' (outP r) (outC r) v ∧ Below w.heap.size w w'
/-- The document's answer. -/
def RAns (w : World) (r : Except Er (List Int)) (e : Ending) (w' : World) : Prop :=
  ∃ A c B d, e = .returned (.tuple #[.slice A (outL r).length c, .agg #[.int .i64 (outC r), .slice B (outP r).length d]]) ∧ RdI .i64 w' A (outL r) ∧ Rd w' 2 B (outP r).length (flatP (outP r)) ∧ Below w.heap.size w w'

theorem ans_of {w w' : World} {r : Except Er (List Int)} {e : Ending} (hr : GoodR r) (h : ResOut w r e w') : Ans w r e w' := by
  cases r with
  | ok l =>
    obtain ⟨A, c, rfl, h1, h2⟩ := h
    exact ⟨A, c, _, rfl, h1, .inl ⟨rfl, rfl, rfl⟩, h2⟩
  | error x =>
    obtain ⟨p, c⟩ := x
    obtain ⟨v, rfl, h1, h2⟩ := h
    exact ⟨none, 0, v, rfl, RdI.nil, .inr ⟨(hr _ _ rfl).1, h1⟩, h2⟩
theorem rans_of {w w' : World} {r : Except Er (List Int)} {e : Ending} (h : RefOut w r e w') : RAns w r e w' := by
  cases r with
  | ok l =>
    obtain ⟨A, c, rfl, h1, h2⟩ := h
    exact ⟨A, c, none, 0, rfl, h1, Rd.nil, h2⟩
  | error x =>
    obtain ⟨p, c⟩ := x
    obtain ⟨A, d, rfl, h1, h2⟩ := h
    exact ⟨none, 0, A, d, rfl, RdI.nil, h1, h2⟩

theorem Play_res {qn qx re cu go ra ro fi : Int} {A : Option Addr} {l : List Int} {c : Nat} (hl : l.length ≤ 9223372036854775807) (w : World) (ha : RdI .i64 w A l) :
    Calls Tryd.prog 11 #[.agg #[.int .i64 qn, .int .i64 qx, .int .i64 re, .int .i64 cu, .int .i64 go, .int .i64 ra, .int .i64 ro, .int .i64 fi], .slice A l.length c] w
      (Ans w (bucketR (Vb.mayB qn qx re cu go ra ro fi) (Vb.sizesB l) (Vb.play ra ro 0 fi l))) :=
  (Play_any hl w ha).mono fun _ _ h => ans_of (goodR fun _ _ => play_code) h
theorem Fills_res {qn qx re cu go ra ro fi : Int} {A : Option Addr} {l : List Int} {c : Nat} (hl : l.length ≤ 9223372036854775807) (w : World) (ha : RdI .i64 w A l) :
    Calls Tryd.prog 13 #[.agg #[.int .i64 qn, .int .i64 qx, .int .i64 re, .int .i64 cu, .int .i64 go, .int .i64 ra, .int .i64 ro, .int .i64 fi], .slice A l.length c] w
      (Ans w (bucketR (Vb.mayB qn qx re cu go ra ro fi) (Vb.sizesB l) (Vb.fills ra ro 0 fi l))) :=
  (Fills_any hl w ha).mono fun _ _ h => ans_of (goodR fun _ _ => fills_code) h
theorem RPlay_res {qn qx re cu go ra ro fi : Int} {A : Option Addr} {l : List Int} {c : Nat} (hl : l.length ≤ 9223372036854775807) (w : World) (ha : RdI .i64 w A l) :
    Calls Tryd.prog 12 #[.agg #[.int .i64 qn, .int .i64 qx, .int .i64 re, .int .i64 cu, .int .i64 go, .int .i64 ra, .int .i64 ro, .int .i64 fi], .slice A l.length c] w
      (RAns w (bucketR (Vb.mayB qn qx re cu go ra ro fi) (Vb.sizesB l) (Vb.play ra ro 0 fi l))) :=
  (RPlay_any hl w ha).mono fun _ _ h => rans_of h
theorem RFills_res {qn qx re cu go ra ro fi : Int} {A : Option Addr} {l : List Int} {c : Nat} (hl : l.length ≤ 9223372036854775807) (w : World) (ha : RdI .i64 w A l) :
    Calls Tryd.prog 14 #[.agg #[.int .i64 qn, .int .i64 qx, .int .i64 re, .int .i64 cu, .int .i64 go, .int .i64 ra, .int .i64 ro, .int .i64 fi], .slice A l.length c] w
      (RAns w (bucketR (Vb.mayB qn qx re cu go ra ro fi) (Vb.sizesB l) (Vb.fills ra ro 0 fi l))) :=
  (RFills_any hl w ha).mono fun _ _ h => rans_of h

/-- The two errors are alike. -/
theorem Err_res {p : List (ByteArray × Int)} {c : Int} {v : Value} {A : Option Addr} {cap : Nat} (hp : p.length ≤ 1000000000000) (w : World) (hg : Gl w) (he : ErrR w p c v) (hr : Rd w 2 A p.length (flatP p)) :
    Calls Tryd.prog 18 #[v, .agg #[.int .i64 c, .slice A p.length cap]] w fun e w' => e = .returned (.bool true) ∧ Below w.heap.size w w' := by
  rcases he with ⟨rfl, rfl, rfl⟩ | ⟨h1, h2⟩
  · exact Err_none w hg
  · exact Err_some hp h1 w hg h2 hr

theorem outP_le {r : Except Er (List Int)} (h : GoodR r) : (outP r).length ≤ 1000000000000 := by
  cases r with
  | ok l => simp [outP]
  | error x => have := (h x.1 x.2 rfl).2; simp [outP]; omega

/-- The cells of a configuration. -/
theorem cfg_cells {w : World} {g : Nat} {qn qx re cu go ra ro fi : Int} (h : Blk w g 23 #[.int .i64 qn, .int .i64 qx, .int .i64 re, .int .i64 cu, .int .i64 go, .int .i64 ra, .int .i64 ro, .int .i64 fi]) :
    w.cell? ⟨g, 0, none⟩ = some (.int .i64 qn) ∧ w.cell? ⟨g, 1, none⟩ = some (.int .i64 qx) ∧ w.cell? ⟨g, 2, none⟩ = some (.int .i64 re) ∧ w.cell? ⟨g, 3, none⟩ = some (.int .i64 cu) ∧
    w.cell? ⟨g, 4, none⟩ = some (.int .i64 go) ∧ w.cell? ⟨g, 5, none⟩ = some (.int .i64 ra) ∧ w.cell? ⟨g, 6, none⟩ = some (.int .i64 ro) ∧ w.cell? ⟨g, 7, none⟩ = some (.int .i64 fi) :=
  ⟨by rw [h.cell]; rfl, by rw [h.cell]; rfl, by rw [h.cell]; rfl, by rw [h.cell]; rfl, by rw [h.cell]; rfl, by rw [h.cell]; rfl, by rw [h.cell]; rfl, by rw [h.cell]; rfl⟩

set_option maxHeartbeats 400000 in
theorem bucket_any (ra ro fi : Int) (w : World) : Calls Tryd.prog 20 #[.int .i64 ra, .int .i64 ro, .int .i64 fi] w
    fun e w' => e = .returned (.agg #[.int .i64 0, .int .i64 15, .int .i64 0, .int .i64 0, .int .i64 4, .int .i64 ra, .int .i64 ro, .int .i64 fi]) ∧ Below w.heap.size w w' := by
  go_enter Tryd.func20, Tryd.ntmps20
  go_wp2_with fail
  refine bodyPost_ret (v := .agg #[.int .i64 0, .int .i64 15, .int .i64 0, .int .i64 0, .int .i64 4, .int .i64 ra, .int .i64 ro, .int .i64 fi]) (by simp [results, Tryd.results20, go_sem]) rfl ⟨rfl, ?_⟩
  exact (Below.refl _ _).alloc (Nat.le_refl _) _

end Go.Proofs.YthjcidpfiddeeaaDoor
