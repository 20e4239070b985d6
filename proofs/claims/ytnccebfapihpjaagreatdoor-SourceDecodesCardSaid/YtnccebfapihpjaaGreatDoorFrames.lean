/- Frames as they lie in memory: three cells each, the samples elsewhere. -/
import Derived.Test.YtnccebfapihpjaaGreatDoorSourceB
namespace Go.Proofs.YtnccebfapihpjaaGreatDoor
open Go Go.RowKit Go.Extern.Stop Go.Stop Go.Extern

structure Frm where
  w : Int
  h : Int
  A : Option Addr
  pix : List Int
  c : Nat

def Frm.cells (f : Frm) : List Value := [.int .i64 f.w, .int .i64 f.h, .slice f.A f.pix.length f.c]
def flatF (l : List Frm) : List Value := l.flatMap Frm.cells
theorem flatF_length (l : List Frm) : (flatF l).length = l.length * 3 := by
  induction l with
  | nil => rfl
  | cons a r ih => simp only [flatF, Frm.cells, List.flatMap_cons, List.length_append, List.length_cons, List.length_nil] at *; omega
theorem flatF_app (l m : List Frm) : flatF (l ++ m) = flatF l ++ flatF m := by simp [flatF]
theorem flatF_get (l : List Frm) (i : Nat) (h : i < l.length) :
    (flatF l)[i * 3]? = some (.int .i64 l[i].w) ∧ (flatF l)[i * 3 + 1]? = some (.int .i64 l[i].h) ∧ (flatF l)[i * 3 + 2]? = some (.slice l[i].A l[i].pix.length l[i].c) := by
  induction l generalizing i with
  | nil => simp at h
  | cons a r ih =>
    cases i with
    | zero => simp [flatF, Frm.cells]
    | succ i =>
      have := ih i (by simpa using h)
      simp only [flatF, Frm.cells, List.flatMap_cons, List.getElem_cons_succ] at *
      rw [show (i + 1) * 3 = 3 + i * 3 by omega, List.getElem?_append_right (by simp), show 3 + i * 3 + 1 = 3 + (i * 3 + 1) by omega, List.getElem?_append_right (by simp),
        show 3 + i * 3 + 2 = 3 + (i * 3 + 2) by omega, List.getElem?_append_right (by simp)]
      simpa using this

/-- The slice holds these frames, and the samples lie where they say. -/
def RdF (w : World) (A : Option Addr) (l : List Frm) : Prop := Rd w 3 A l.length (flatF l) ∧ ∀ f ∈ l, RdI .i64 w f.A f.pix ∧ f.pix.length ≤ 9223372036854775807
theorem RdF.keep {w w' : World} {A : Option Addr} {l : List Frm} (h : RdF w A l) (hb : Below w.heap.size w w') : RdF w' A l :=
  ⟨Rd.keep h.1 hb, fun f hf => ⟨(h.2 f hf).1.keep hb, (h.2 f hf).2⟩⟩
theorem RdF.at_ {w : World} {A : Option Addr} {l : List Frm} (h : RdF w A l) {i : Nat} (hi : i < l.length) :
    ∃ b o, A = some ⟨b, o, none⟩ ∧ w.cell? ⟨b, o + i * 3, none⟩ = some (.int .i64 l[i].w) ∧ w.cell? ⟨b, o + i * 3 + 1, none⟩ = some (.int .i64 l[i].h) ∧
      w.cell? ⟨b, o + i * 3 + 2, none⟩ = some (.slice l[i].A l[i].pix.length l[i].c) := by
  obtain ⟨b, o, hA, hc⟩ := h.1.2 (by omega)
  obtain ⟨h0, h1, h2⟩ := flatF_get l i hi
  exact ⟨b, o, hA, hc _ _ h0, hc _ _ h1, hc _ _ h2⟩
theorem RdF.pix {w : World} {A : Option Addr} {l : List Frm} (h : RdF w A l) {i : Nat} (hi : i < l.length) : RdI .i64 w l[i].A l[i].pix ∧ l[i].pix.length ≤ 9223372036854775807 :=
  h.2 _ (List.getElem_mem hi)

def Frm.may (f : Frm) : Bool := mayF f.w f.h f.pix
/-- Do frames go together? -/
def fits (w h : Int) (l : List Frm) : Bool := l.all fun f => decide (f.w = w) && decide (f.h = h)
/-- What is wrong with frames: a code, or 0. -/
def checkF (l : List Frm) : Int :=
  match l with
  | [] => 2
  | f :: _ => if l.all Frm.may = false then 2 else if fits f.w f.h l = false then 14 else if 16 < l.length then 5 else 0
def codeV (c : Int) : Value := if c = 0 then .nilIface else .iface 31 (.int .i64 c)

theorem all_take {α : Type} {p : α → Bool} {l : List α} {i : Nat} (h : (l.take i).all p = true) (hi : i < l.length) (hp : p l[i] = true) : (l.take (i + 1)).all p = true := by
  rw [List.take_succ_eq_append_getElem hi, List.all_append, h]; simp [hp]
theorem all_not {α : Type} {p : α → Bool} {l : List α} {i : Nat} (hi : i < l.length) (hp : p l[i] = false) : l.all p = false := by
  rw [← Bool.not_eq_true, List.all_eq_true]
  intro h
  have := h _ (List.getElem_mem hi)
  rw [hp] at this
  cases this
theorem all_end {α : Type} {p : α → Bool} {l : List α} {i : Nat} (h : (l.take i).all p = true) (hi : l.length ≤ i) : l.all p = true := by
  rwa [List.take_of_length_le hi] at h

end Go.Proofs.YtnccebfapihpjaaGreatDoor
