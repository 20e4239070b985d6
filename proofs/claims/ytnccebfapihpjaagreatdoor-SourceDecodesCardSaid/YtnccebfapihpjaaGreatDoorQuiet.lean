/- A region that draws its order, whose own operations only read and whose callees leave what was there: walked once, also where a guard strikes operations out (the goal stands behind a wrapper, so that nothing unfolds the operations that are struck). No program in sight. -/
import Derived.Lib.QuietBelow
import Derived.Lib.Hide
namespace Go.Proofs.YtnccebfapihpjaaGreatDoor
open Go Go.RowKit Go.Sort

/-- A wrapper that nothing looks through. -/
structure Veil (p : Prop) : Prop where
  out : p

/-- The worlds that have come of w by growth and draws alone. -/
abbrev Grown (w : World) : World → Prop := fun w' => ∃ p : Regrown, w' = grow (redrawn w p.d) p.os

theorem hq_start {P : Program} {id : Nat} {Q : Exit → Act → World → Prop} {a : Act} {w : World} {l : List Oper} (hm : P.follows .mixedOrders = true) (hB : Region.lexB .any l.toArray = true)
    (h : Veil (wpQuiet P l.toArray (Grown w) (fun a' => ∀ w', Grown w w' → Q .normal a' w') l a)) : (Code.region id l.toArray true).wp P Q a w :=
  wp_region_quiet_below hm hB h.out
theorem hq_step {P : Program} {ops : Array Oper} {C : World → Prop} {Q : Act → Prop} {a : Act} {o : Oper} {rest : List Oper}
    (h : ∀ K : Act → Prop, (∀ a, Veil (wpQuiet P ops C Q rest a) → K a) → if Region.wanted o (yielded ops a.tmps) then o.quiet P a C K else K (a.put o.dst undef)) : Veil (wpQuiet P ops C Q (o :: rest) a) :=
  ⟨wpQuiet_step fun K hK => h K fun a h => hK a h.out⟩
theorem hq_nil {P : Program} {ops : Array Oper} {C : World → Prop} {Q : Act → Prop} {a : Act} (h : Q a) : Veil (wpQuiet P ops C Q [] a) := ⟨wpQuiet_nil h⟩
theorem Grown.below {w w' : World} (h : Grown w w') : Below w.heap.size w w' := by obtain ⟨p, rfl⟩ := h; exact below_regrown w _ _
theorem Calls.grown {P : Program} {f : FuncId} {args : Array Value} {w : World} {v : Value} (h : ∀ w', Below w.heap.size w w' → Calls P f args w' fun e w'' => e = .returned v ∧ Below w'.heap.size w' w'') (p : Regrown) :
    Calls P f args (grow (redrawn w p.d) p.os) fun e w'' => e = .returned v ∧ Grown w w'' := Calls.regrown_of (h _ (below_regrown w _ _))

/-- Operation i may come up now and waits for no other: it is taken first; its slot written out. -/
theorem wpAny_take' {P : Program} {ops : List Oper} {md : Region.Mode} {Q : Exit → Act → World → Prop} {oi : Oper} {fuel : Nat} {listed : Array Bool} {a : Act} {w : World} (i : Nat) (d : Option Tmp) (v : Value) (hi : ops.toArray[i]? = some oi) (hd : oi.dst = d)
    (hs : Region.noSelect ops.toArray = true) (hf : Region.free md ops.toArray listed i = true) (hr : (Region.ready md ops.toArray listed).contains i = true)
    (hQ : ∀ c a w, Q (.panic c) (a.put d v) w → Q (.panic c) a w) (hy : Yields P ops.toArray oi v a)
    (h : wpAny P md ops.toArray Q fuel (listed.setIfInBounds i true) (a.put d v) w) : wpAny P md ops.toArray Q (fuel + 1) listed a w := by
  subst hd
  exact wpAny_take hi hs hf hr hQ hy h

/-- From the midst of such a region on: what is left only reads. -/
theorem wpAny_lexQ {P : Program} {ops : List Oper} {Q : Exit → Act → World → Prop} {listed : Array Bool} {a : Act} {w : World} (k : Nat) (l : List Oper) (fuel : Nat) (hlen : fuel = l.length) (hdrop : ops.drop k = l)
    (hs : Region.noSelect ops.toArray = true) (hB : Region.lexFrom .any ops.toArray l.length k listed = true)
    (h : Veil (wpQuiet P ops.toArray (fun w' => ∃ n, w' = w.drewN n) (fun a' => ∀ w', (∃ n, w' = w.drewN n) → Q .normal a' w') l a)) : wpAny P .any ops.toArray Q fuel listed a w := by
  subst hlen
  refine wpAny_of_quiet (C := fun w' => ∃ n, w' = w.drewN n) (Q := fun a' => ∀ w', (∃ n, w' = w.drewN n) → Q .normal a' w') (fun _ w' hw' h => h w' hw') _ _ _ _ ⟨0, rfl⟩ ?_
  exact wpAnyQ_lex hs l k listed a (fun j => by rw [← hdrop]; simp) hB h.out

end Go.Proofs.YtnccebfapihpjaaGreatDoor
