/- The plain arithmetic of the leaky bucket and of the caps: what the program's functions Play, Fills, Caps compute, on lists of integers, and the laws of chapters 18 and 19. No program in sight. -/
namespace Go.Proofs.YtnccebfapihpjaaGreatDoor
namespace Vb

/-- May a configuration be? -/
def mayB (qmin qmax reach cut gop rate room fill : Int) : Bool :=
  decide (0 ≤ qmin ∧ qmin ≤ qmax ∧ qmax ≤ 15 ∧ 0 ≤ reach ∧ reach ≤ 7 ∧ 0 ≤ cut ∧ cut ≤ 16320 ∧ 1 ≤ gop ∧ gop ≤ 16 ∧ 8 ≤ rate ∧ rate ≤ room ∧ room ≤ 16384 ∧ 8 ≤ fill ∧ fill ≤ room)

/-- All numbers from a to b? -/
def within (a b : Int) : List Int → Bool
  | [] => true
  | n :: r => decide (a ≤ n) && decide (n ≤ b) && within a b r

theorem within_iff (a b : Int) (l : List Int) : within a b l = true ↔ ∀ n ∈ l, a ≤ n ∧ n ≤ b := by
  induction l with
  | nil => simp [within]
  | cons x r ih => simp [within, ih]

def sizesB (l : List Int) : Bool := decide (l.length ≤ 4096) && within 0 1073741824 l

/-- What is in the bucket behind each size; or the place and the code of what is wrong. -/
def play (rate room : Int) : Nat → Int → List Int → Except (Nat × Int) (List Int)
  | _, _, [] => .ok []
  | i, has, n :: r =>
    if n > has then .error (i, 14)
    else if has + rate - n > room then .error (i, 5)
    else match play rate room (i + 1) (has + rate - n) r with
      | .ok l => .ok ((has + rate - n) :: l)
      | .error e => .error e

/-- How much is filled behind each size. -/
def fills (rate room : Int) : Nat → Int → List Int → Except (Nat × Int) (List Int)
  | _, _, [] => .ok []
  | i, has, n :: r =>
    if n > has then .error (i, 14)
    else match fills rate room (i + 1) (min (has + rate - n) room) r with
      | .ok l => .ok (max (has + rate - n - room) 0 :: l)
      | .error e => .error e

/-- The caps: T of all bytes, S of all weights. -/
def caps (T S rate room : Int) : Int → List Int → List Int
  | _, [] => []
  | has, w :: r =>
    let x := max 8 (min (T * w / S) has)
    x :: caps T S rate room (min room (has - x + rate)) r

theorem caps_length (T S rate room : Int) (l : List Int) : ∀ has, (caps T S rate room has l).length = l.length := by
  induction l with
  | nil => intro has; rfl
  | cons w r ih => intro has; simp [caps, ih]

theorem play_length {rate room : Int} {l p : List Int} : ∀ {i has}, play rate room i has l = .ok p → p.length = l.length := by
  induction l generalizing p with
  | nil => intro i has h; simp [play] at h; subst h; rfl
  | cons n r ih =>
    intro i has h
    unfold play at h
    split at h
    · cases h
    · split at h
      · cases h
      · split at h
        · next l' hl => cases h; simp [ih hl]
        · cases h

theorem fills_length {rate room : Int} {l p : List Int} : ∀ {i has}, fills rate room i has l = .ok p → p.length = l.length := by
  induction l generalizing p with
  | nil => intro i has h; simp [fills] at h; subst h; rfl
  | cons n r ih =>
    intro i has h
    unfold fills at h
    split at h
    · cases h
    · split at h
      · next l' hl => cases h; simp [ih hl]
      · cases h

/-- Two lists, number by number. -/
def addL : List Int → List Int → List Int
  | a :: l, b :: m => (a + b) :: addL l m
  | _, _ => []

/-- P18.4: with what is filled the bucket never runs dry nor over. -/
theorem play_of_fills {rate room : Int} (hrm : rate ≤ room) {l g : List Int} : ∀ {i has}, (∀ n ∈ l, 0 ≤ n) → has ≤ room → fills rate room i has l = .ok g →
    ∃ p, play rate room i has (addL l g) = .ok p ∧ p.length = l.length ∧ (∀ n ∈ p, rate ≤ n ∧ n ≤ room) ∧ (∀ n ∈ g, 0 ≤ n) := by
  induction l generalizing g with
  | nil => intro i has _ _ h; simp [fills] at h; subst h; exact ⟨[], rfl, rfl, by simp, by simp⟩
  | cons n r ih =>
    intro i has h0 hh h
    unfold fills at h
    split at h
    · cases h
    · next hn =>
      split at h
      · next l' hl =>
        cases h
        obtain ⟨p, hp, hlen, hin, hg⟩ := ih (fun m hm => h0 m (by simp [hm])) (by omega) hl
        have hn0 := h0 n (by simp)
        have e : has + rate - (n + max (has + rate - n - room) 0) = min (has + rate - n) room := by omega
        refine ⟨min (has + rate - n) room :: p, ?_, by simp [hlen], ?_, ?_⟩
        · simp only [addL, play]
          rw [if_neg (by omega), if_neg (by omega), e, hp]
        · intro m hm
          rcases List.mem_cons.1 hm with rfl | hm
          · omega
          · exact hin m hm
        · intro m hm
          rcases List.mem_cons.1 hm with rfl | hm
          · omega
          · exact hg m hm
      · cases h

/-- Nothing is filled without need. -/
theorem fills_of_play {rate room : Int} {l p : List Int} : ∀ {i has}, play rate room i has l = .ok p → fills rate room i has l = .ok (List.replicate l.length 0) := by
  induction l generalizing p with
  | nil => intro i has _; rfl
  | cons n r ih =>
    intro i has h
    unfold play at h
    split at h
    · cases h
    · next hn =>
      split at h
      · cases h
      · next hm =>
        split at h
        · next l' hl =>
          have := ih hl
          have e : min (has + rate - n) room = has + rate - n := by omega
          simp only [fills]
          rw [if_neg hn, e, this]
          simp [List.replicate_succ]
          omega
        · cases h

/-- A size that does not fit, without fills: Play has an error too. -/
theorem play_err_of_fills {rate room : Int} {l : List Int} {e : Nat × Int} {i : Nat} {has : Int} (h : fills rate room i has l = .error e) : ∃ e', play rate room i has l = .error e' := by
  cases hp : play rate room i has l with
  | error e' => exact ⟨e', rfl⟩
  | ok p => rw [fills_of_play hp] at h; cases h

/-! ### One behind the other: what the loops' relations say -/

/-- What is in the bucket behind the sizes, without fills. -/
def afterP (rate : Int) : Int → List Int → Int
  | has, [] => has
  | has, n :: r => afterP rate (has + rate - n) r

/-- What is in it behind the sizes and what is filled. -/
def afterF (rate room : Int) : Int → List Int → Int
  | has, [] => has
  | has, n :: r => afterF rate room (min (has + rate - n) room) r

/-- What is in it behind the frames that take their caps. -/
def afterC (T S rate room : Int) : Int → List Int → Int
  | has, [] => has
  | has, w :: r => afterC T S rate room (min room (has - max 8 (min (T * w / S) has) + rate)) r

theorem afterP_snoc (rate n : Int) (l : List Int) : ∀ has, afterP rate has (l ++ [n]) = afterP rate has l + rate - n := by
  induction l with
  | nil => intro has; rfl
  | cons m r ih => intro has; simp [afterP, ih]

theorem afterF_snoc (rate room n : Int) (l : List Int) : ∀ has, afterF rate room has (l ++ [n]) = min (afterF rate room has l + rate - n) room := by
  induction l with
  | nil => intro has; rfl
  | cons m r ih => intro has; simp [afterF, ih]

theorem afterC_snoc (T S rate room n : Int) (l : List Int) : ∀ has, afterC T S rate room has (l ++ [n]) = min room (afterC T S rate room has l - max 8 (min (T * n / S) (afterC T S rate room has l)) + rate) := by
  induction l with
  | nil => intro has; rfl
  | cons m r ih => intro has; simp [afterC, ih]

theorem play_app (rate room : Int) (xs ys : List Int) : ∀ i has, play rate room i has (xs ++ ys) =
    match play rate room i has xs with
    | .ok g => (match play rate room (i + xs.length) (afterP rate has xs) ys with | .ok g' => .ok (g ++ g') | .error e => .error e)
    | .error e => .error e := by
  induction xs with
  | nil => intro i has; simp [play, afterP]; split <;> simp_all
  | cons n r ih =>
    intro i has
    have e : i + 1 + r.length = i + (r.length + 1) := by omega
    simp only [List.cons_append, play, afterP, List.length_cons, ih, e]
    by_cases h1 : n > has
    · simp [h1]
    · by_cases h2 : has + rate - n > room
      · simp [h1, h2]
      · simp only [h1, h2, if_false]
        cases play rate room (i + 1) (has + rate - n) r with
        | error e => rfl
        | ok g =>
          simp only []
          cases play rate room (i + (r.length + 1)) (afterP rate (has + rate - n) r) ys <;> rfl

theorem fills_app (rate room : Int) (xs ys : List Int) : ∀ i has, fills rate room i has (xs ++ ys) =
    match fills rate room i has xs with
    | .ok g => (match fills rate room (i + xs.length) (afterF rate room has xs) ys with | .ok g' => .ok (g ++ g') | .error e => .error e)
    | .error e => .error e := by
  induction xs with
  | nil => intro i has; simp [fills, afterF]; split <;> simp_all
  | cons n r ih =>
    intro i has
    have e : i + 1 + r.length = i + (r.length + 1) := by omega
    simp only [List.cons_append, fills, afterF, List.length_cons, ih, e]
    by_cases h1 : n > has
    · simp [h1]
    · simp only [h1, if_false]
      cases fills rate room (i + 1) (min (has + rate - n) room) r with
      | error e => rfl
      | ok g =>
        simp only []
        cases fills rate room (i + (r.length + 1)) (afterF rate room (min (has + rate - n) room) r) ys <;> rfl

theorem caps_app (T S rate room : Int) (xs ys : List Int) : ∀ has, caps T S rate room has (xs ++ ys) = caps T S rate room has xs ++ caps T S rate room (afterC T S rate room has xs) ys := by
  induction xs with
  | nil => intro has; rfl
  | cons n r ih => intro has; simp [caps, afterC, ih]

theorem take_snoc (l : List Int) (k : Nat) (h : k < l.length) : l.take (k + 1) = l.take k ++ [l[k]] := List.take_succ_eq_append_getElem h
theorem split_at (l : List Int) (k : Nat) (h : k < l.length) : l = l.take k ++ l[k] :: l.drop (k + 1) := by
  rw [← List.drop_eq_getElem_cons h, List.take_append_drop]

/-- A round of Play. -/
theorem play_step {rate room has : Int} {l acc : List Int} {k : Nat} (hk : k < l.length) (h : play rate room 0 has (l.take k) = .ok acc) (h1 : l[k] ≤ afterP rate has (l.take k)) (h2 : afterP rate has (l.take k) + rate - l[k] ≤ room) :
    play rate room 0 has (l.take (k + 1)) = .ok (acc ++ [afterP rate has (l.take k) + rate - l[k]]) := by
  rw [take_snoc l k hk, play_app, h]
  simp only [play]
  rw [if_neg (by omega), if_neg (by omega)]
theorem play_dry {rate room has : Int} {l acc : List Int} {k : Nat} (hk : k < l.length) (h : play rate room 0 has (l.take k) = .ok acc) (h1 : afterP rate has (l.take k) < l[k]) :
    play rate room 0 has l = .error (k, 14) := by
  rw [split_at l k hk, play_app, h]
  simp only [play]
  rw [if_pos (by omega)]
  simp; omega
theorem play_over {rate room has : Int} {l acc : List Int} {k : Nat} (hk : k < l.length) (h : play rate room 0 has (l.take k) = .ok acc) (h1 : l[k] ≤ afterP rate has (l.take k)) (h2 : room < afterP rate has (l.take k) + rate - l[k]) :
    play rate room 0 has l = .error (k, 5) := by
  rw [split_at l k hk, play_app, h]
  simp only [play]
  rw [if_neg (by omega), if_pos (by omega)]
  simp; omega

/-- A round of Fills. -/
theorem fills_step {rate room has : Int} {l acc : List Int} {k : Nat} (hk : k < l.length) (h : fills rate room 0 has (l.take k) = .ok acc) (h1 : l[k] ≤ afterF rate room has (l.take k)) :
    fills rate room 0 has (l.take (k + 1)) = .ok (acc ++ [max (afterF rate room has (l.take k) + rate - l[k] - room) 0]) := by
  rw [take_snoc l k hk, fills_app, h]
  simp only [fills]
  rw [if_neg (by omega)]
theorem fills_dry {rate room has : Int} {l acc : List Int} {k : Nat} (hk : k < l.length) (h : fills rate room 0 has (l.take k) = .ok acc) (h1 : afterF rate room has (l.take k) < l[k]) :
    fills rate room 0 has l = .error (k, 14) := by
  rw [split_at l k hk, fills_app, h]
  simp only [fills]
  rw [if_pos (by omega)]
  simp; omega

/-- What stands in Fills' answer, number by number. -/
theorem fills_get {rate room : Int} {l g : List Int} : ∀ {i has}, fills rate room i has l = .ok g → ∀ k (hk : k < l.length) (hg : k < g.length), l[k] ≤ afterF rate room has (l.take k) ∧ g[k] = max (afterF rate room has (l.take k) + rate - l[k] - room) 0 := by
  induction l generalizing g with
  | nil => intro i has _ k hk; simp at hk
  | cons n r ih =>
    intro i has h k hk hg
    unfold fills at h
    split at h
    · cases h
    · next hn =>
      split at h
      · next l' hl =>
        cases h
        cases k with
        | zero => simp [afterF]; omega
        | succ k =>
          simp only [List.length_cons] at hk hg
          simpa [afterF] using ih hl k (by omega) (by omega)
      · cases h
theorem fills_ok {rate room : Int} {l : List Int} : ∀ {i has}, (∀ k (hk : k < l.length), l[k] ≤ afterF rate room has (l.take k)) → ∃ g, fills rate room i has l = .ok g := by
  induction l with
  | nil => intro i has _; exact ⟨[], rfl⟩
  | cons n r ih =>
    intro i has h
    have h0 := h 0 (by simp)
    simp only [List.getElem_cons_zero, List.take_zero, afterF] at h0
    obtain ⟨g, hg⟩ := ih (i := i + 1) (has := min (has + rate - n) room) (fun k hk => by have := h (k + 1) (by simp; omega); simp only [List.getElem_cons_succ, List.take_succ_cons, afterF] at this; exact this)
    exact ⟨max (has + rate - n - room) 0 :: g, by simp only [fills]; rw [if_neg (by omega), hg]⟩

theorem afterF_mono {rate room : Int} {l : List Int} : ∀ {m : List Int}, m.length = l.length → ∀ {has has' : Int}, has ≤ has' → (∀ k (hl : k < l.length) (hm : k < m.length), m[k] ≤ l[k]) → afterF rate room has l ≤ afterF rate room has' m := by
  induction l with
  | nil => intro m hlen has has' h _; cases m with
    | nil => exact h
    | cons a b => simp at hlen
  | cons n r ih =>
    intro m hlen has has' h hle
    cases m with
    | nil => simp at hlen
    | cons a b =>
      have h0 := hle 0 (by simp) (by simp)
      simp only [List.getElem_cons_zero] at h0
      simp only [List.length_cons] at hlen
      simp only [afterF]
      refine ih (by omega) (by omega) (fun k hl hm => ?_)
      have := hle (k + 1) (by simp; omega) (by simp; omega)
      simp only [List.getElem_cons_succ] at this
      exact this

/-- P18.5: lesser sizes leave as much or more. -/
theorem fills_less {rate room has : Int} {l m g : List Int} (hlen : m.length = l.length) (hle : ∀ k (hl : k < l.length) (hm : k < m.length), m[k] ≤ l[k]) (h : fills rate room 0 has l = .ok g) :
    (∃ g', fills rate room 0 has m = .ok g') ∧ ∀ k (hm : k < m.length), afterF rate room has (l.take k) ≤ afterF rate room has (m.take k) ∧ m[k] ≤ afterF rate room has (m.take k) := by
  have key : ∀ k (hm : k < m.length), afterF rate room has (l.take k) ≤ afterF rate room has (m.take k) ∧ m[k] ≤ afterF rate room has (m.take k) := by
    intro k hm
    have h1 : afterF rate room has (l.take k) ≤ afterF rate room has (m.take k) := afterF_mono (by simp [hlen]) (Int.le_refl _) (fun j hl hm' => by
      simp only [List.getElem_take]
      exact hle j (by simp at hl; omega) (by simp at hm'; omega))
    have h2 := (fills_get h k (by omega) (by rw [fills_length h]; omega)).1
    have h3 := hle k (by omega) hm
    exact ⟨h1, by omega⟩
  exact ⟨fills_ok fun k hk => (key k hk).2, key⟩

/-- A beginning goes as all do. -/
theorem play_take {rate room has : Int} {l p : List Int} (k : Nat) (h : play rate room 0 has l = .ok p) : play rate room 0 has (l.take k) = .ok (p.take k) := by
  have hl := play_length h
  have e : l = l.take k ++ l.drop k := (List.take_append_drop k l).symm
  rw [e, play_app] at h
  split at h
  · next g hg =>
    split at h
    · next g' hg' =>
      cases h
      have := play_length hg
      rw [hg]
      congr 1
      by_cases hk : k ≤ l.length
      · rw [List.take_left' (by rw [this]; simp; omega)]
      · have h0 : (l.drop k).length = 0 := by simp; omega
        have := play_length hg'
        have : g' = [] := List.eq_nil_of_length_eq_zero (by omega)
        subst this
        simp only [List.append_nil]
        rw [List.take_of_length_le (by rw [play_length hg]; simp; omega)]
    · cases h
  · cases h

theorem fills_take {rate room has : Int} {l p : List Int} (k : Nat) (h : fills rate room 0 has l = .ok p) : fills rate room 0 has (l.take k) = .ok (p.take k) := by
  have hl := fills_length h
  have e : l = l.take k ++ l.drop k := (List.take_append_drop k l).symm
  rw [e, fills_app] at h
  split at h
  · next g hg =>
    split at h
    · next g' hg' =>
      cases h
      have h1 := fills_length hg
      have h2 := fills_length hg'
      rw [hg]
      congr 1
      by_cases hk : k ≤ l.length
      · rw [List.take_left' (by rw [h1]; simp; omega)]
      · have h0 : (l.drop k).length = 0 := by simp; omega
        have : g' = [] := List.eq_nil_of_length_eq_zero (by omega)
        subst this
        simp only [List.append_nil]
        rw [List.take_of_length_le (by rw [h1]; simp; omega)]
    · cases h
  · cases h


def sumL : List Int → Int
  | [] => 0
  | a :: r => a + sumL r
theorem sumL_app (xs ys : List Int) : sumL (xs ++ ys) = sumL xs + sumL ys := by
  induction xs with
  | nil => simp [sumL]
  | cons a r ih => simp [sumL, ih]; omega
theorem sumL_snoc (l : List Int) (k : Nat) (h : k < l.length) : sumL (l.take (k + 1)) = sumL (l.take k) + l[k] := by
  rw [take_snoc l k h, sumL_app]; simp [sumL]

theorem afterF_le {rate room : Int} (l : List Int) : ∀ {has : Int}, has ≤ room → afterF rate room has l ≤ room := by
  induction l with
  | nil => intro has h; exact h
  | cons n r ih => intro has _; exact ih (by omega)

theorem afterF_room {rate room room' : Int} (h : room ≤ room') (l : List Int) : ∀ {has has' : Int}, has ≤ has' → afterF rate room has l ≤ afterF rate room' has' l := by
  induction l with
  | nil => intro has has' h; exact h
  | cons n r ih => intro has has' h'; exact ih (by omega)

theorem afterF_sum {rate room : Int} {l g : List Int} : ∀ {i has}, fills rate room i has l = .ok g → ∀ k, k ≤ l.length → afterF rate room has (l.take k) = has + k * rate - sumL (l.take k) - sumL (g.take k) := by
  induction l generalizing g with
  | nil => intro i has h k hk; simp [fills] at h; subst h; simp at hk; subst hk; simp [afterF, sumL]
  | cons n r ih =>
    intro i has h k hk
    unfold fills at h
    split at h
    · cases h
    · split at h
      · next l' hl =>
        cases h
        cases k with
        | zero => simp [afterF, sumL]
        | succ k =>
          simp only [List.length_cons] at hk
          have := ih hl k (by omega)
          simp only [List.take_succ_cons, afterF, sumL, this]
          have : ((k + 1 : Nat) : Int) * rate = k * rate + rate := by rw [Int.natCast_add, Int.add_mul]; omega
          omega
      · cases h

/-- With more room all goes that went, and up to any place no more is filled. -/
theorem fills_room {rate room room' has : Int} {l g : List Int} (hr : room ≤ room') (h : fills rate room 0 has l = .ok g) :
    ∃ g', fills rate room' 0 has l = .ok g' ∧ ∀ k, k ≤ l.length → sumL (g'.take k) ≤ sumL (g.take k) := by
  have key : ∀ k (hk : k < l.length), l[k] ≤ afterF rate room' has (l.take k) := fun k hk => by
    have h1 := (fills_get h k hk (by rw [fills_length h]; exact hk)).1
    have h2 := afterF_room (rate := rate) hr (l.take k) (Int.le_refl has)
    omega
  obtain ⟨g', hg'⟩ := fills_ok (i := 0) key
  refine ⟨g', hg', fun k hk => ?_⟩
  have h1 := afterF_sum h k hk
  have h2 := afterF_sum hg' k hk
  have h3 := afterF_room (rate := rate) hr (l.take k) (Int.le_refl has)
  omega

/-! ### The caps -/
theorem afterC_bd {T S rate room : Int} (hr : 8 ≤ rate) (hm : 8 ≤ room) (l : List Int) : ∀ {has : Int}, 8 ≤ has → has ≤ room → 8 ≤ afterC T S rate room has l ∧ afterC T S rate room has l ≤ room := by
  induction l with
  | nil => intro has h1 h2; exact ⟨h1, h2⟩
  | cons w r ih =>
    intro has h1 h2
    exact ih (by omega) (by omega)

theorem caps_get (T S rate room : Int) (l : List Int) : ∀ (has : Int) (k : Nat) (hk : k < l.length) (hc : k < (caps T S rate room has l).length),
    (caps T S rate room has l)[k] = max 8 (min (T * l[k] / S) (afterC T S rate room has (l.take k))) := by
  induction l with
  | nil => intro has k hk; simp at hk
  | cons w r ih =>
    intro has k hk hc
    cases k with
    | zero => simp [caps, afterC]
    | succ k =>
      simp only [caps, List.length_cons] at hk hc
      simp only [caps, List.getElem_cons_succ, List.take_succ_cons, afterC]
      exact ih _ k (by omega) (by omega)

theorem afterC_F (T S rate room : Int) (l : List Int) : ∀ (has : Int) (k : Nat), afterF rate room has ((caps T S rate room has l).take k) = afterC T S rate room has (l.take k) := by
  induction l with
  | nil => intro has k; simp [caps, afterC, afterF]
  | cons w r ih =>
    intro has k
    cases k with
    | zero => simp [afterC, afterF]
    | succ k =>
      simp only [caps, List.take_succ_cons, afterC, afterF]
      have e : min (has + rate - max 8 (min (T * w / S) has)) room = min room (has - max 8 (min (T * w / S) has) + rate) := by omega
      rw [e]
      exact ih _ k

/-- P19.2: caps are from 8 to what the bucket has. -/
theorem caps_bd {T S rate room has : Int} (hr : 8 ≤ rate) (hm : 8 ≤ room) (h1 : 8 ≤ has) (h2 : has ≤ room) {l : List Int} (k : Nat) (hk : k < l.length) (hc : k < (caps T S rate room has l).length) :
    8 ≤ (caps T S rate room has l)[k] ∧ (caps T S rate room has l)[k] ≤ afterC T S rate room has (l.take k) ∧ afterC T S rate room has (l.take k) ≤ room := by
  have h3 := afterC_bd (T := T) (S := S) hr hm (l.take k) h1 h2
  rw [caps_get _ _ _ _ l has k hk hc]
  omega

theorem caps_fill {T S rate room has : Int} (hr : 8 ≤ rate) (hm : 8 ≤ room) (h1 : 8 ≤ has) (h2 : has ≤ room) {l : List Int} : ∃ g, fills rate room 0 has (caps T S rate room has l) = .ok g := by
  refine fills_ok fun k hk => ?_
  rw [afterC_F]
  have hl := caps_length T S rate room l has
  exact (caps_bd hr hm h1 h2 k (by omega) hk).2.1

/-- P19.2: sizes from 8 to the caps: the bucket holds. -/
theorem caps_fits {T S rate room has : Int} (hr : 8 ≤ rate) (hm : 8 ≤ room) (h1 : 8 ≤ has) (h2 : has ≤ room) {l m : List Int} (hlen : m.length = l.length)
    (hle : ∀ k (hc : k < (caps T S rate room has l).length) (hk : k < m.length), m[k] ≤ (caps T S rate room has l)[k]) : ∃ g, fills rate room 0 has m = .ok g := by
  obtain ⟨g, hg⟩ := caps_fill (T := T) (S := S) hr hm h1 h2 (l := l)
  exact (fills_less (by rw [caps_length]; exact hlen) hle hg).1

theorem div_sum {T S : Int} (hS : 0 < S) (l : List Int) (h : ∀ n ∈ l, 0 ≤ n) : sumL (l.map fun w => T * w / S) * S ≤ T * sumL l := by
  induction l with
  | nil => simp [sumL]
  | cons a r ih =>
    have := ih (fun n hn => h n (by simp [hn]))
    have h1 : T * a / S * S ≤ T * a := Int.ediv_mul_le _ (by omega)
    simp only [List.map_cons, sumL]
    rw [Int.add_mul, Int.mul_add]
    omega

theorem caps_sum_le {T S rate room : Int} (hT : 0 ≤ T) (hS : 0 < S) (l : List Int) (h : ∀ n ∈ l, 0 ≤ n) : ∀ has, sumL (caps T S rate room has l) ≤ sumL (l.map fun w => T * w / S) + 8 * l.length := by
  induction l with
  | nil => intro has; simp [caps, sumL]
  | cons a r ih =>
    intro has
    have h1 := ih (fun n hn => h n (by simp [hn])) (min room (has - max 8 (min (T * a / S) has) + rate))
    have h2 : 0 ≤ T * a / S := Int.ediv_nonneg (Int.mul_nonneg hT (h a (by simp))) (by omega)
    simp only [caps, List.map_cons, sumL, List.length_cons]
    omega

/-- P19.3: all caps together. -/
theorem caps_sum {T rate room has : Int} (hT : 0 ≤ T) {l : List Int} (h : ∀ n ∈ l, 0 ≤ n) (hS : 0 < sumL l) : sumL (caps T (sumL l) rate room has l) ≤ T + 8 * l.length := by
  have h1 := caps_sum_le (rate := rate) (room := room) hT hS l h has
  have h2 := div_sum (T := T) hS l h
  have h3 : sumL (l.map fun w => T * w / sumL l) ≤ T := Int.le_of_mul_le_mul_right h2 hS
  omega

theorem sumL_twice (l : List Int) : sumL (l.map fun w => 2 * w) = 2 * sumL l := by
  induction l with
  | nil => rfl
  | cons a r ih => simp only [List.map_cons, sumL, ih]; omega

theorem caps_twice {T S rate room : Int} (l : List Int) : ∀ has, caps T (2 * S) rate room has (l.map fun w => 2 * w) = caps T S rate room has l := by
  induction l with
  | nil => intro has; rfl
  | cons a r ih =>
    intro has
    have e : T * (2 * a) / (2 * S) = T * a / S := by
      rw [show T * (2 * a) = 2 * (T * a) from by rw [Int.mul_left_comm]]
      exact Int.mul_ediv_mul_of_pos (a := 2) (T * a) S (by omega)
    simp only [List.map_cons, caps, e, ih]

theorem sumL_bd {a b : Int} (l : List Int) (h : ∀ n ∈ l, a ≤ n ∧ n ≤ b) : a * l.length ≤ sumL l ∧ sumL l ≤ b * l.length := by
  induction l with
  | nil => simp [sumL]
  | cons x r ih =>
    have h1 := ih (fun n hn => h n (by simp [hn]))
    have h2 := h x (by simp)
    have e : ∀ c : Int, c * ((r.length + 1 : Nat) : Int) = c * r.length + c := fun c => by rw [Int.natCast_add, Int.mul_add]; simp
    simp only [sumL, List.length_cons, e]
    omega

end Vb
end Go.Proofs.YtnccebfapihpjaaGreatDoor
