/- What source.Decode makes of bytes: the head, the frames, the end; there and back, cut off, with a byte more. -/
import Derived.Test.YtnccebfapihpjaaGreatDoorEncL
import Derived.Test.YtnccebfapihpjaaGreatDoorCodesR2
namespace Go.Proofs.YtnccebfapihpjaaGreatDoor
open Go Go.RowKit

def sSource : ByteArray := ⟨#[115, 111, 117, 114, 99, 101]⟩
def frP : So.Fr → List (ByteArray × Int)
  | .ok _ => []
  | .bits q => gotP q
  | .sample => []
def frC : So.Fr → Int
  | .ok _ => 0
  | .bits q => gotC q
  | .sample => 3

/-- What is wrong with the first five bytes: a code, or 0. -/
def headF (b : List Int) : Int :=
  if b.length < 5 then 1
  else if ¬ (b.getD 0 0 = 75 ∧ b.getD 1 0 = 83) then 2
  else if ¬ ((1 ≤ b.getD 2 0 ∧ b.getD 2 0 ≤ 4) ∧ (1 ≤ b.getD 3 0 ∧ b.getD 3 0 ≤ 4) ∧ 1 ≤ b.getD 4 0 ∧ b.getD 4 0 ≤ 16) then 3
  else 0

abbrev Dec := Except (List (ByteArray × Int) × Int) (List (List Int))
/-- The end: up to a whole byte nothing but noughts, and nothing behind. -/
def endF (x : List Int) (n : Nat) (fs : List (List Int)) (p : Nat) : Dec :=
  match firstOne x p (padTo p) with
  | some a => .error ([(sSource, (n : Int)), (sBits, (a : Int))], 2)
  | none => if p + padTo p < 8 * x.length then .error ([(sSource, (n : Int))], 5) else .ok fs
def bodyF (x : List Int) (w s n : Nat) : Dec :=
  match So.frames x (8 * x.length) w s n [] 0 with
  | (.error (i, fr), _) => .error ((sSource, (i : Int)) :: frP fr, frC fr)
  | (.ok fs, p) => endF x n fs p
def wOf (b : List Int) : Nat := 8 * (b.getD 2 0).toNat
def hOf (b : List Int) : Nat := 8 * (b.getD 3 0).toNat
def nOf (b : List Int) : Nat := (b.getD 4 0).toNat
def decF (b : List Int) : Dec :=
  if headF b = 0 then bodyF (b.drop 5) (wOf b) (wOf b * hOf b) (nOf b) else .error ([(sSource, -1)], headF b)

theorem head_zero {b : List Int} (h : headF b = 0) : 5 ≤ b.length ∧ b.getD 0 0 = 75 ∧ b.getD 1 0 = 83 ∧ (1 ≤ b.getD 2 0 ∧ b.getD 2 0 ≤ 4) ∧ (1 ≤ b.getD 3 0 ∧ b.getD 3 0 ≤ 4) ∧ 1 ≤ b.getD 4 0 ∧ b.getD 4 0 ≤ 16 := by
  unfold headF at h
  split at h
  · cases h
  · split at h
    · cases h
    · split at h
      · cases h
      · rename_i h1 h2 h3
        have h2' := Classical.not_not.1 h2
        have h3' := Classical.not_not.1 h3
        exact ⟨by omega, h2'.1, h2'.2, h3'⟩
theorem head_codes (b : List Int) : headF b = 0 ∨ headF b = 1 ∨ headF b = 2 ∨ headF b = 3 := by
  unfold headF
  split
  · simp
  · split
    · simp
    · split <;> simp

/-- How a reading ends that does not end well. -/
def Bad (fr : So.Fr) : Prop := (∃ a, fr = .bits (.short a)) ∨ (∃ a, fr = .bits (.range a)) ∨ fr = .sample
theorem Bad.code {fr : So.Fr} (h : Bad fr) : (frC fr = 1 ∨ frC fr = 3) ∧ (frP fr).length ≤ 2 := by
  rcases h with ⟨a, rfl⟩ | ⟨a, rfl⟩ | rfl <;> simp [frC, frP, gotC, gotP]
theorem samples_bad {b : List Int} {T k w : Nat} : ∀ (n : Nat) (pix : List Int) (p q : Nat) (fr : So.Fr), So.samples b T k w n pix p = (fr, q) → (∃ r, fr = .ok r) ∨ Bad fr := by
  intro n
  induction n with
  | zero => intro pix p q fr h; simp only [So.samples, Prod.mk.injEq] at h; exact .inl ⟨_, h.1.symm⟩
  | succ n ih =>
    intro pix p q fr h
    simp only [So.samples] at h
    split at h
    · split at h
      · exact ih _ _ _ _ h
      · simp only [Prod.mk.injEq] at h; exact .inr (.inr (.inr h.1.symm))
    · rename_i e q' hne hg
      simp only [Prod.mk.injEq] at h
      rcases e with u | a | a
      · exact absurd rfl (hne u)
      · exact .inr (.inl ⟨a, h.1.symm⟩)
      · exact .inr (.inr (.inl ⟨a, h.1.symm⟩))
theorem frame_bad {b : List Int} {T w n p q : Nat} {fr : So.Fr} (h : So.frame b T w n p = (fr, q)) : (∃ r, fr = .ok r) ∨ Bad fr := by
  unfold So.frame at h
  split at h
  · simp only [Prod.mk.injEq] at h; exact .inr (.inl ⟨p, h.1.symm⟩)
  · exact samples_bad _ _ _ _ _ h
theorem frames_bad {b : List Int} {T w s : Nat} : ∀ (n : Nat) (fs : List (List Int)) (p q i : Nat) (fr : So.Fr), So.frames b T w s n fs p = (.error (i, fr), q) → i < fs.length + n ∧ Bad fr := by
  intro n
  induction n with
  | zero => intro fs p q i fr h; simp [So.frames] at h
  | succ n ih =>
    intro fs p q i fr h
    simp only [So.frames] at h
    split at h
    · obtain ⟨h1, h2⟩ := ih _ _ _ _ _ h
      simp at h1
      exact ⟨by omega, h2⟩
    · rename_i e q' hne hg
      simp only [Prod.mk.injEq, Except.error.injEq] at h
      obtain ⟨⟨rfl, rfl⟩, rfl⟩ := h
      rcases frame_bad hg with ⟨r, rfl⟩ | hb
      · exact absurd rfl (hne r)
      · exact ⟨by omega, hb⟩

theorem decF_err {b : List Int} {p : List (ByteArray × Int)} {c : Int} (h : decF b = .error (p, c)) : (c = 1 ∨ c = 2 ∨ c = 3 ∨ c = 5) ∧ ∃ i r, p = (sSource, i) :: r ∧ -1 ≤ i ∧ i ≤ 16 ∧ r.length ≤ 2 := by
  unfold decF at h
  split at h
  · next h0 =>
    obtain ⟨_, _, _, _, _, h4, h5⟩ := head_zero h0
    unfold bodyF at h
    split at h
    · next i fr q hf =>
      obtain ⟨h1, h2⟩ := frames_bad _ _ _ _ _ _ hf
      obtain ⟨h6, h7⟩ := h2.code
      simp only [Except.error.injEq, Prod.mk.injEq] at h
      obtain ⟨rfl, rfl⟩ := h
      refine ⟨by omega, i, frP fr, rfl, by omega, ?_, h7⟩
      simp only [List.length_nil, nOf] at h1
      omega
    · unfold endF at h
      split at h
      · next a _ =>
        simp only [Except.error.injEq, Prod.mk.injEq] at h
        obtain ⟨rfl, rfl⟩ := h
        exact ⟨by omega, _, [(sBits, (a : Int))], rfl, by omega, by unfold nOf; omega, by simp⟩
      · split at h
        · simp only [Except.error.injEq, Prod.mk.injEq] at h
          obtain ⟨rfl, rfl⟩ := h
          exact ⟨by omega, _, [], rfl, by omega, by unfold nOf; omega, by simp⟩
        · cases h
  · simp only [Except.error.injEq, Prod.mk.injEq] at h
    obtain ⟨rfl, rfl⟩ := h
    have := head_codes b
    exact ⟨by omega, -1, [], rfl, by omega, by omega, by simp⟩

theorem bodyF_ok {x : List Int} {w s n : Nat} {fs : List (List Int)} (h : bodyF x w s n = .ok fs) :
    ∃ p, So.frames x (8 * x.length) w s n [] 0 = (.ok fs, p) ∧ firstOne x p (padTo p) = none ∧ 8 * x.length ≤ p + padTo p := by
  unfold bodyF at h
  split at h
  · cases h
  · next fs' p hf =>
    unfold endF at h
    split at h
    · cases h
    · next h1 =>
      split at h
      · cases h
      · simp only [Except.ok.injEq] at h
        subst h
        exact ⟨p, hf, h1, by omega⟩

theorem decF_ok {b : List Int} {fs : List (List Int)} (h : decF b = .ok fs) : headF b = 0 ∧ fs.length = nOf b ∧ ∀ f ∈ fs, f.length = wOf b * hOf b ∧ ∀ v ∈ f, 0 ≤ v ∧ v ≤ 255 := by
  unfold decF at h
  split at h
  · next h0 =>
    obtain ⟨p, hf, _, _⟩ := bodyF_ok h
    obtain ⟨_, _, h3, h4⟩ := So.frames_more (b' := b.drop 5) (Nat.le_refl _) (fun _ _ => rfl) _ _ _ _ _ (Nat.zero_le _) hf
    exact ⟨h0, by simpa using h3, h4 (by simp)⟩
  · cases h

/-! ### There and back -/
theorem first_zero {b : List Int} {p : Nat} : ∀ {k : Nat}, (∀ t, t < k → Bi.bit b (p + t) = 0) → firstOne b p k = none := by
  intro k
  induction k with
  | zero => intro _; rfl
  | succ k ih =>
    intro h
    simp only [firstOne]
    rw [ih (fun t ht => h t (by omega))]
    have := h k (by omega)
    simp [this]
theorem end_zero (m : List Bool) : firstOne (Bi.pack m) m.length (padTo m.length) = none := first_zero fun t ht => by
  unfold padTo at ht
  rw [Bi.bit_pack m _ (by omega), Bi.bv_out m _ (by omega)]
theorem pad_end (m : List Bool) : m.length + padTo m.length = 8 * (Bi.pack m).length := by rw [Bi.pack_length]; unfold padTo; omega

theorem at_zero (m : List Bool) : Co.At (Bi.pack m) 0 m := by
  have := Co.at_pack (l := m) (x := []) (m := m) (r := []) (by simp)
  simpa using this

/-- The bits of frames. -/
def bitsF (l : List Frm) : List Bool :=
  match l with
  | [] => []
  | f :: _ => So.allBits f.w.toNat (l.map Frm.pix)
theorem enc_eq {f : Frm} {r l : List Frm} (h : l = f :: r) : encF l = [75, 83, f.w / 8, f.h / 8, (l.length : Int)] ++ Bi.pack (bitsF l) := by subst h; rfl

theorem may_mod {f : Frm} (h : f.may = true) : f.w % 8 = 0 ∧ f.h % 8 = 0 := by
  unfold Frm.may mayF sideB at h
  simp only [Bool.and_eq_true, decide_eq_true_eq] at h
  exact ⟨h.1.1.1.2.2, h.1.1.2.2.2⟩
theorem enc_parts {l : List Frm} (h0 : checkF l = 0) : ∃ f r, l = f :: r ∧ (∀ g ∈ l, g.may = true ∧ g.w = f.w ∧ g.h = f.h) ∧ l.length ≤ 16 ∧ (f.w % 8 = 0 ∧ f.h % 8 = 0) ∧ (8 ≤ f.w ∧ f.w ≤ 32) ∧ (8 ≤ f.h ∧ f.h ≤ 32) := by
  obtain ⟨f, r, h1, h2, h3⟩ := check_zero h0
  obtain ⟨h4, h5, _⟩ := may_bd (h2 f (by rw [h1]; simp)).1
  exact ⟨f, r, h1, h2, h3, may_mod (h2 f (by rw [h1]; simp)).1, h4, h5⟩

theorem enc_head {l : List Frm} (h0 : checkF l = 0) {x : List Int} {f : Frm} (hl : l.head? = some f) : headF ([75, 83, f.w / 8, f.h / 8, (l.length : Int)] ++ x) = 0 := by
  obtain ⟨f', r, h1, _, h3, ⟨_, _⟩, h4, h5⟩ := enc_parts h0
  subst h1
  simp only [List.head?_cons, Option.some.injEq] at hl
  subst hl
  have hn : 1 ≤ (f' :: r).length := by simp
  generalize (f' :: r).length = n at *
  unfold headF
  simp only [List.length_cons, List.cons_append, List.nil_append, List.getD_cons_zero, List.getD_cons_succ]
  rw [if_neg (by omega), if_neg (by simp), if_neg (by omega)]

theorem body_back {l : List Frm} (h0 : checkF l = 0) {f : Frm} (hl : l.head? = some f) :
    ∀ (x : List Int), x.length ≥ (Bi.pack (bitsF l)).length → (∀ i, i < (bitsF l).length → Bi.bit x i = Bi.bit (Bi.pack (bitsF l)) i) →
      So.frames x (8 * x.length) f.w.toNat (f.w.toNat * f.h.toNat) l.length [] 0 = (.ok (l.map Frm.pix), (bitsF l).length) := by
  intro x hx hb
  obtain ⟨f', r, h1, h2, h3, ⟨_, _⟩, h4, h5⟩ := enc_parts h0
  have hf : f' = f := by subst h1; simpa using hl
  subst hf
  have hbits : bitsF l = So.allBits f'.w.toNat (l.map Frm.pix) := by subst h1; rfl
  have hall : ∀ g ∈ l.map Frm.pix, g.length = f'.w.toNat * f'.h.toNat ∧ ∀ v ∈ g, 0 ≤ v ∧ v ≤ 255 := by
    intro g hg
    obtain ⟨q, hq, rfl⟩ := List.mem_map.1 hg
    obtain ⟨k1, k2, k3⟩ := h2 q hq
    obtain ⟨_, _, m3, _, m5⟩ := may_bd k1
    refine ⟨?_, m5⟩
    rw [k2, k3] at m3
    have : ((f'.w.toNat * f'.h.toNat : Nat) : Int) = f'.w * f'.h := by
      rw [Int.natCast_mul, Int.toNat_of_nonneg (by omega), Int.toNat_of_nonneg (by omega)]
    omega
  have hlen : (bitsF l).length ≤ 8 * x.length := by have := Bi.pack_length (bitsF l); omega
  have hat : Co.At x 0 (bitsF l) := fun t ht => by
    have := at_zero (bitsF l) t ht
    rw [Nat.zero_add] at this ⊢
    rw [hb t ht, this]
  have := So.frames_back (b := x) (T := 8 * x.length) (w := f'.w.toNat) (s := f'.w.toNat * f'.h.toNat) (by omega) (l.map Frm.pix) [] 0 hall (by rw [← hbits]; omega) (by rw [← hbits]; exact hat)
  rw [← hbits] at this
  simpa using this

theorem toNat_div {a : Int} (h : a % 8 = 0) (h0 : 0 ≤ a) : 8 * (a / 8).toNat = a.toNat := by omega
theorem of_head {f : Frm} {n : Nat} {x : List Int} : wOf ([75, 83, f.w / 8, f.h / 8, (n : Int)] ++ x) = 8 * (f.w / 8).toNat ∧ hOf ([75, 83, f.w / 8, f.h / 8, (n : Int)] ++ x) = 8 * (f.h / 8).toNat ∧ nOf ([75, 83, f.w / 8, f.h / 8, (n : Int)] ++ x) = n := ⟨rfl, rfl, by simp [nOf]⟩

/-- Bytes behind a head that says how the frames lie. -/
theorem dec_head {l : List Frm} (h0 : checkF l = 0) {f : Frm} (hl : l.head? = some f) (x : List Int) :
    decF ([75, 83, f.w / 8, f.h / 8, (l.length : Int)] ++ x) = bodyF x f.w.toNat (f.w.toNat * f.h.toNat) l.length := by
  obtain ⟨f', r, h1, h2, h3, ⟨h6, h7⟩, h4, h5⟩ := enc_parts h0
  have hf : f' = f := by subst h1; simpa using hl
  subst hf
  unfold decF
  rw [if_pos (enc_head h0 hl), of_head.1, of_head.2.1, of_head.2.2, toNat_div h6 (by omega), toNat_div h7 (by omega)]
  rfl

theorem dec_enc {l : List Frm} (h0 : checkF l = 0) : decF (encF l) = .ok (l.map Frm.pix) := by
  obtain ⟨f, r, h1, h2, h3, ⟨h6, h7⟩, h4, h5⟩ := enc_parts h0
  have hl : l.head? = some f := by subst h1; rfl
  rw [enc_eq h1, dec_head h0 hl]
  unfold bodyF
  rw [body_back h0 hl _ (Nat.le_refl _) (fun _ _ => rfl)]
  simp only [endF, end_zero, pad_end]
  rw [if_neg (by omega)]

theorem dec_more {l : List Frm} (h0 : checkF l = 0) (v : Int) : ∃ p c, decF (encF l ++ [v]) = .error (p, c) := by
  obtain ⟨f, r, h1, h2, h3, ⟨h6, h7⟩, h4, h5⟩ := enc_parts h0
  have hl : l.head? = some f := by subst h1; rfl
  have hpl := Bi.pack_length (bitsF l)
  rw [enc_eq h1, List.append_assoc, dec_head h0 hl]
  unfold bodyF
  rw [body_back h0 hl _ (by simp) (fun i hi => by
    unfold Bi.bit
    rw [List.getD_eq_getElem?_getD, List.getD_eq_getElem?_getD, List.getElem?_append_left (by omega)])]
  simp only [endF]
  split
  · exact ⟨_, _, rfl⟩
  · rw [if_pos (by rw [pad_end]; simp)]
    exact ⟨_, _, rfl⟩

theorem dec_cut {l : List Frm} (h0 : checkF l = 0) {k : Nat} (hk : k < (encF l).length) : ∃ p c, decF ((encF l).take k) = .error (p, c) := by
  obtain ⟨f, r, h1, h2, h3, ⟨h6, h7⟩, h4, h5⟩ := enc_parts h0
  have hl : l.head? = some f := by subst h1; rfl
  have hpl := Bi.pack_length (bitsF l)
  rcases Nat.lt_or_ge k 5 with h | h
  · refine ⟨[(sSource, -1)], 1, ?_⟩
    have : headF ((encF l).take k) = 1 := by unfold headF; rw [if_pos (by rw [List.length_take]; omega)]
    unfold decF
    rw [this, if_neg (by decide)]
  · rw [enc_eq h1] at hk ⊢
    simp only [List.length_append, List.length_cons, List.length_nil] at hk
    obtain ⟨j, rfl⟩ : ∃ j, k = 5 + j := ⟨k - 5, by omega⟩
    rw [show (5 + j) = ([75, 83, f.w / 8, f.h / 8, (l.length : Int)] : List Int).length + j from rfl, List.take_length_add_append, dec_head h0 hl]
    cases hd : bodyF ((Bi.pack (bitsF l)).take j) f.w.toNat (f.w.toNat * f.h.toNat) l.length with
    | error e => exact ⟨e.1, e.2, rfl⟩
    | ok fs =>
      exfalso
      obtain ⟨p, hf, _, he⟩ := bodyF_ok hd
      have hlt : ((Bi.pack (bitsF l)).take j).length = j := by rw [List.length_take]; omega
      rw [hlt] at hf he
      obtain ⟨k1, k2, _, _⟩ := So.frames_more (b' := Bi.pack (bitsF l)) (T' := 8 * (Bi.pack (bitsF l)).length) (by omega) (fun i hi => by
        unfold Bi.bit
        rw [List.getD_eq_getElem?_getD, List.getD_eq_getElem?_getD, List.getElem?_take, if_pos (by omega)]) _ _ _ _ _ (Nat.zero_le _) hf
      rw [body_back h0 hl _ (Nat.le_refl _) (fun _ _ => rfl)] at k1
      simp only [Prod.mk.injEq, Except.ok.injEq] at k1
      omega

/-! ### How many bytes -/
theorem enc_len {l : List Frm} (h0 : checkF l = 0) : (encF l).length = 5 + ((bitsF l).length + 7) / 8 := by
  obtain ⟨f, r, h1, _⟩ := enc_parts h0
  rw [enc_eq h1, List.length_append, Bi.pack_length]
  rfl
theorem one_check {l : List Frm} (h0 : checkF l = 0) {g : Frm} (hg : g ∈ l) : checkF [g] = 0 := by
  obtain ⟨f, r, h1, h2, _⟩ := enc_parts h0
  simp [checkF, fits, (h2 g hg).1]
/-- The bytes of frames one by one, without their heads. -/
def lens (l : List Frm) : Nat := (l.map fun g => (encF [g]).length - 5).sum
theorem all_len (w : Nat) : ∀ (l : List Frm), (∀ g ∈ l, checkF [g] = 0 ∧ g.w.toNat = w) →
    ((So.allBits w (l.map Frm.pix)).length + 7) / 8 ≤ lens l ∧ lens l ≤ ((So.allBits w (l.map Frm.pix)).length + 7) / 8 + l.length ∧ (l ≠ [] → lens l + 1 ≤ ((So.allBits w (l.map Frm.pix)).length + 7) / 8 + l.length) ∧ (So.allBits w (l.map Frm.pix)).length ≤ 8 * lens l ∧ 8 * lens l ≤ (So.allBits w (l.map Frm.pix)).length + 7 * l.length
  | [], _ => by simp [So.allBits, lens]
  | g :: r, h => by
    obtain ⟨h1, h2⟩ := h g (by simp)
    obtain ⟨_, _, _, i4, i5⟩ := all_len w r fun x hx => h x (by simp [hx])
    have h3 := enc_len h1
    have h4 : (bitsF [g]).length = (So.frameBits g.pix w).length := by simp [bitsF, So.allBits, h2]
    have h5 : lens (g :: r) = ((So.frameBits g.pix w).length + 7) / 8 + lens r := by
      unfold lens
      rw [List.map_cons, List.sum_cons, h3, h4]
      omega
    have h6 : (So.allBits w ((g :: r).map Frm.pix)).length = (So.frameBits g.pix w).length + (So.allBits w (r.map Frm.pix)).length := by simp [So.allBits]
    have h7 : (g :: r).length = r.length + 1 := by simp
    rw [h5, h6, h7]
    refine ⟨by omega, by omega, fun _ => by omega, by omega, by omega⟩
theorem heads_len {l : List Frm} (h0 : checkF l = 0) : (encF l).length ≤ 5 + lens l ∧ 5 + lens l ≤ (encF l).length + l.length := by
  obtain ⟨f, r, h1, h2, _⟩ := enc_parts h0
  have h3 := enc_len h0
  have hb : bitsF l = So.allBits f.w.toNat (l.map Frm.pix) := by subst h1; rfl
  obtain ⟨k1, k2, _⟩ := all_len f.w.toNat l fun g hg => ⟨one_check h0 hg, by rw [(h2 g hg).2.1]⟩
  rw [← hb] at k1 k2
  omega

end Go.Proofs.YtnccebfapihpjaaGreatDoor
