/- Contracts of package kinref2, the document's writer, and of kinref's Bytes and CopyBytes. -/
import Derived.Test.YtnccebfapihpjaaGreatDoorBitsR
import Derived.Test.YtnccebfapihpjaaGreatDoorRefE
import Derived.Laws.BytesString
import Derived.Laws.IdiomStrings
import Derived.Laws.OwnMore
namespace Go.Proofs.YtnccebfapihpjaaGreatDoor
open Go Go.RowKit Go.Extern.Stop Go.Stop Go.Extern

/-! ### Bytes as a string -/
def strOf (b : List Int) : ByteArray := b.foldl (fun r n => r.push (UInt8.ofNat n.toNat)) ByteArray.empty

theorem conv_rd {A : Option Addr} {b : List Int} {c : Nat} (w : World) (h : RdI .u8 w A b) :
    (convert 26 9 (.slice A b.length c)).run Tryz.prog w = .ok (.string (strOf b)) w := by
  rw [run_convert_bytes_string w _ _ _ A b.length c Tryz.underlying26 Tryz.underlying5 Tryz.underlying9]
  cases A with
  | none =>
    have h0 : b = [] := by
      cases b with
      | nil => rfl
      | cons x r => obtain ⟨b', off, e, _⟩ := h.2 (by simp); cases e
    subst h0
    rfl
  | some a =>
    have hl := run_loadCells_list (P := Tryz.prog) w a (b.map (Value.int .u8)) (fun j v hj => by
      have hj' : j < b.length := by have := (List.getElem?_eq_some_iff.1 hj).1; simpa using this
      obtain ⟨b', off, e, hc⟩ := RdI.at_ h hj'
      obtain rfl := Option.some.inj e
      rw [add_lit, hc]
      rw [List.getElem?_map, List.getElem?_eq_getElem hj'] at hj
      exact hj)
    simp only [List.length_map] at hl
    exact run_bytesToString w a b.length c b hl

theorem Bytes_same {b : List Int} {A B : Option Addr} {c d n m : Nat} (w : World) (hn : n = b.length) (hm : m = b.length) (ha : RdI .u8 w A b) (hb : RdI .u8 w B b) :
    Calls Tryz.prog 10 #[.slice A n c, .slice B m d] w fun e w' => e = .returned (.bool true) ∧ w = w' := by
  subst hn; subst hm
  have h1 := conv_rd (c := c) w ha
  have h2 := conv_rd (c := d) w hb
  clear ha hb
  go_enter Tryz.func10, Tryz.ntmps10
  go_wp2_with fail
  go_ret
  exact ⟨by simp, rfl⟩

theorem CopyBytes_any {b : List Int} {A : Option Addr} {c : Nat} (hl : b.length ≤ 1000000000) (w : World) (ha : RdI .u8 w A b) :
    Calls Tryz.prog 13 #[.slice A b.length c] w (NewB w b) := by
  obtain ⟨i0, hi, hz0, hz1, hz2⟩ := info_parts u8Info
  have HA := Lib.hid ha
  clear ha
  go_enter Tryz.func13, Tryz.ntmps13
  go_wp2_with (at_builtin; refine wpList_append_rd _ rfl (.tmp 3) (.tmp 4) _ rfl w.heap.size 5 i0 _ 1 1 Tryz.underlying26 hi hz0 hz1 hz2 rfl (by omega) (.slice (some ⟨w.heap.size, 0, none⟩) 0 0) 0 [] rfl (own_empty w _ _ _ (Nat.le_refl _)) A b.length c _ rfl (HA.out.alloc _) (ints_one _ _) (by unfold maxLen; omega) (by omega) (by simp) ?_; intro B cap w1 hown1 hg1 hat1; simp only [Nat.zero_add, List.nil_append] at hown1)
  go_ret
  refine ⟨B, cap, by simp, hown1, ?_⟩
  exact ((Below.refl _ _).alloc (Nat.le_refl _) _).grown hg1 (by simp) (fun k hk => Nat.le_of_eq (own_lit hk))

/-! ### The document's writer -/
theorem boolInfo : (Tryz.prog.info? 4).map (fun i => (i.zero, i.size, i.bytes)) = some (some (.bool false), 1, 1) := by kernel_rfl

def RWtr (w : World) (B g : Nat) (v : Value) (l : List Bool) : Prop :=
  Blk w g 64 #[v] ∧ w.ownsRow B 4 1 v l.length (l.map Value.bool)
def RWOut (w : World) (B g : Nat) (v : Value) (m : List Bool) (w' : World) : Prop :=
  ∃ v', RWtr w' B g v' m ∧ Chg (WS g v) w w' ∧ ∀ i, v'.ownBlock = some i → v.ownBlock = some i ∨ w.heap.size ≤ i

theorem RWOut.refl {w : World} {B g : Nat} {v : Value} {m : List Bool} (h : RWtr w B g v m) : RWOut w B g v m w := ⟨v, h, Chg.refl _ _, fun _ hi => .inl hi⟩
theorem RWOut.trans {w w' w'' : World} {B g : Nat} {v : Value} {m : List Bool} (h : Chg (WS g v) w w') {v' : Value} (hv : ∀ i, v'.ownBlock = some i → v.ownBlock = some i ∨ w.heap.size ≤ i) (k : RWOut w' B g v' m w'') : RWOut w B g v m w'' := by
  obtain ⟨u, h1, h2, h3⟩ := k
  refine ⟨u, h1, h.step h2 (fun i hi hS => ?_), fun i hi => ?_⟩
  · rcases hS with e | e
    · exact .inl e
    · rcases hv i e with h4 | h4
      · exact .inr h4
      · omega
  · rcases h3 i hi with h4 | h4
    · exact hv i h4
    · have := h.size; exact .inr (by omega)
theorem RWOut.keep {w w' w'' : World} {B g : Nat} {v : Value} {m : List Bool} (h : RWOut w B g v m w') (hb : Below w'.heap.size w' w'') : RWOut w B g v m w'' := by
  obtain ⟨u, ⟨h1, h2⟩, h3, h4⟩ := h
  exact ⟨u, ⟨h1.keep hb, own_keep h2 hb⟩, h3.trans (Chg.of_below hb), h4⟩

/-- One bit appended, the header stored. -/
theorem rw_push {w w1 : World} {B g gb cap c : Nat} {A : Option Addr} {l : List Bool} {x : Bool} (hblk : Blk w g 64 #[.slice A l.length c])
    (hown : w.ownsRow B 4 1 (.slice A l.length c) l.length (l.map Value.bool))
    (hgrow : (w.alloc (.cells #[.bool x] 4)).grownBy w1 (Value.slice A l.length c).ownBlock)
    (hown1 : w1.ownsRow B 4 1 (.slice (some ⟨gb, 0, none⟩) (l.length + 1) cap) (l.length + 1) (l.map Value.bool ++ [.bool x]))
    (hat : (Value.slice A l.length c).ownBlock = some gb ∨ gb = (w.alloc (.cells #[.bool x] 4)).heap.size) :
    RWOut w B g (.slice A l.length c) (l ++ [x]) (w1.setCell ⟨g, 0, none⟩ (.slice (some ⟨gb, 0, none⟩) (l.length + 1) cap)) := by
  have hne := own_notBlk hown hblk (by decide)
  have hb1 := (hblk.alloc (.cells #[.bool x] 4)).grown hgrow (Ne.symm hne)
  have hne1 := own_notBlk hown1 hb1 (by decide)
  have hl : (l ++ [x]).length = l.length + 1 := by simp
  have hm : (l ++ [x]).map Value.bool = l.map Value.bool ++ [.bool x] := by simp
  refine ⟨.slice (some ⟨gb, 0, none⟩) (l.length + 1) cap, ⟨?_, ?_⟩, ?_, ?_⟩
  · simpa using hb1.store 0 (.slice (some ⟨gb, 0, none⟩) (l.length + 1) cap)
  · rw [hl, hm]
    exact own_chg hown1 ((Chg.refl (fun i => i = g) _).setCell (fun _ => rfl) _) (fun i hi e => hne1 (by rw [hi, e]))
  · have h1 : Chg (WS g (.slice A l.length c)) w (w.alloc (.cells #[.bool x] 4)) := (Chg.refl _ _).alloc _
    exact (h1.trans (Chg.of_grown hgrow (fun i _ e => .inr e.symm))).setCell (fun _ => .inl rfl) _
  · intro i hi
    have : gb = i := own_lit hi
    subst this
    rcases hat with h | h
    · exact .inl h
    · simp at h; exact .inr (by omega)

theorem RWtr.new (w : World) (B : Nat) : RWtr (w.alloc (.cells #[.slice none 0 0] 64)) B w.heap.size (.slice none 0 0) [] :=
  ⟨Blk.new _ _ _, World.ownsRow_nil _ _ _ _⟩


set_option maxHeartbeats 1000000 in
theorem RPut_no {x n : Int} {p : Value} (w : World) (h : putMay x n = false) : Calls Tryz.prog 29 #[p, .int .i64 x, .int .i64 n] w
    fun e w' => e = .returned (.agg #[.int .i64 3, .slice none 0 0]) ∧ Below w.heap.size w w' := by
  have h' : ¬ (0 ≤ n ∧ n ≤ 32 ∧ 0 ≤ x ∧ x < 2 ^ n.toNat) := of_decide_eq_false h
  rcases (show n < 0 ∨ (0 ≤ n ∧ 32 < n) ∨ (0 ≤ n ∧ n ≤ 32 ∧ x < 0) ∨ (0 ≤ n ∧ n ≤ 32 ∧ 0 ≤ x ∧ 2 ^ n.toNat ≤ x) by
    by_cases h1 : 0 ≤ n
    · by_cases h2 : n ≤ 32
      · by_cases h3 : 0 ≤ x
        · have : ¬ x < 2 ^ n.toNat := fun h4 => h' ⟨h1, h2, h3, h4⟩
          exact .inr (.inr (.inr ⟨h1, h2, h3, by omega⟩))
        · omega
      · omega
    · omega) with h1 | ⟨h1, h2⟩ | ⟨h1, h2, h3⟩ | ⟨h1, h2, h3, h4⟩
  rotate_left 3
  · clear h h'
    obtain ⟨k, rfl⟩ := Int.eq_ofNat_of_zero_le h1
    simp only [Int.toNat_natCast] at h4
    have hk : (2 : Int) ^ k ≤ 4294967296 := by
      have : (2 : Int) ^ k ≤ 2 ^ 32 := by exact_mod_cast Nat.pow_le_pow_right (by omega : 0 < 2) (show k ≤ 32 by omega)
      have e : (2 : Int) ^ 32 = 4294967296 := by decide
      omega
    have hk0 : (0 : Int) < 2 ^ k := Int.pow_pos (by omega)
    have hwp : wrap64 ((2 : Int) ^ k) = 2 ^ k := by unfold wrap64; omega
    go_enter Tryz.func29, Tryz.ntmps29
    go_wp2_with fail
    refine (Fail_any _ _).mono ?_
    rintro e w1 ⟨rfl, hb1⟩
    have hZ := (Blk.new w 34 #[.int .i64 0, .slice none 0 0]).keep hb1
    have hz0 : w1.cell? ⟨w.heap.size, 0, none⟩ = some (.int .i64 0) := by rw [hZ.cell]; rfl
    have hz1 : w1.cell? ⟨w.heap.size, 1, none⟩ = some (.slice none 0 0) := by rw [hZ.cell]; rfl
    have hf0 := hZ.frozen 0
    have hf1 := hZ.frozen 1
    go_wp2_with fail
    refine bodyPost_ret (v := .agg #[.int .i64 3, .slice none 0 0]) (by simp [results, Tryz.results29, go_sem, hz0, hz1]) rfl ⟨rfl, ?_⟩
    exact ((((Below.refl _ _).alloc (Nat.le_refl _) _).trans (hb1.mono (by simp))).setCell (by simp) _).setCell (by simp) _
  all_goals
    clear h h'
    go_enter Tryz.func29, Tryz.ntmps29
    go_wp2_with fail
    refine (Fail_any _ _).mono ?_
    rintro e w1 ⟨rfl, hb1⟩
    have hZ := (Blk.new w 34 #[.int .i64 0, .slice none 0 0]).keep hb1
    have hz0 : w1.cell? ⟨w.heap.size, 0, none⟩ = some (.int .i64 0) := by rw [hZ.cell]; rfl
    have hz1 : w1.cell? ⟨w.heap.size, 1, none⟩ = some (.slice none 0 0) := by rw [hZ.cell]; rfl
    have hf0 := hZ.frozen 0
    have hf1 := hZ.frozen 1
    go_wp2_with fail
    refine bodyPost_ret (v := .agg #[.int .i64 3, .slice none 0 0]) (by simp [results, Tryz.results29, go_sem, hz0, hz1]) rfl ⟨rfl, ?_⟩
    exact ((((Below.refl _ _).alloc (Nat.le_refl _) _).trans (hb1.mono (by simp))).setCell (by simp) _).setCell (by simp) _

set_option maxRecDepth 100000 in
set_option maxHeartbeats 1000000 in
theorem RPut_yes {l : List Bool} {x : Int} {n : Nat} {B g : Nat} {v : Value} (hl : l.length ≤ 999999000) (w : World) (hB : B ≤ w.heap.size) (hn : n ≤ 32) (hx0 : 0 ≤ x) (hx1 : x < 2 ^ n) (h : RWtr w B g v l) :
    Calls Tryz.prog 29 #[.pointer (some ⟨g, 0, none⟩), .int .i64 x, .int .i64 n] w
      fun e w' => e = .returned (.agg #[.int .i64 0, .slice none 0 0]) ∧ RWOut w B g v (l ++ Bi.bitsOf x n) w' := by
  obtain ⟨i0, hi, hz0, hz1, hz2⟩ := info_parts boolInfo
  have H := Lib.hid h
  have hgw := h.1.lt
  have hk : (2 : Int) ^ n ≤ 4294967296 := by
    have : (2 : Int) ^ n ≤ 2 ^ 32 := by exact_mod_cast Nat.pow_le_pow_right (by omega : 0 < 2) hn
    have e : (2 : Int) ^ 32 = 4294967296 := by decide
    omega
  have hk0 : (0 : Int) < 2 ^ n := Int.pow_pos (by omega)
  have hwp : wrap64 ((2 : Int) ^ n) = 2 ^ n := by unfold wrap64; omega
  have hxb : x ≤ 4294967296 := by omega
  clear h
  go_enter Tryz.func29, Tryz.ntmps29
  go_wp2_with fail
  clear hwp hk hk0 hx1
  go_loopg [7] n (fun m vi wr => ∃ j : Nat, j + m = n ∧ vi = .int .i64 ((m : Int) - 1) ∧ RWOut w B g v (l ++ (Bi.bitsOf x n).take j) wr ∧ Blk wr w.heap.size 34 #[.int .i64 0, .slice none 0 0])
  case atStart => exact ⟨0, by omega, rfl, by simpa using (RWOut.refl H.out).keep ((Below.refl _ _).alloc (Nat.le_refl _) _), Blk.new _ _ _⟩
  case round =>
    obtain ⟨j, hj, rfl, hout, hcell⟩ := hrel
    obtain ⟨m0, hm0⟩ : ∃ m0, l ++ (Bi.bitsOf x n).take j = m0 := ⟨_, rfl⟩
    have hml : m0.length ≤ 1000000000 := by rw [← hm0]; simp [Bi.bitsOf_length]; omega
    rw [hm0] at hout
    obtain ⟨v', ⟨hblk, hown⟩, hch, hrow⟩ := hout
    obtain ⟨A, c, rfl⟩ := own_slice hown
    have hne := own_notBlk hown hblk (by decide)
    have hnz := own_notBlk hown hcell (by decide)
    have hc0 : wr.cell? ⟨g, 0, none⟩ = some (.slice A m0.length c) := by rw [hblk.cell]; rfl
    have hsz := hch.size
    have HM := Lib.hid hm0
    have HR := Lib.hid hrow
    have HC := Lib.hid hch
    clear hm0 hrow hch
    by_cases hm : 1 ≤ gk
    · obtain ⟨m, rfl⟩ : ∃ m, gk = m + 1 := ⟨gk - 1, by omega⟩
      have em : ((m + 1 : Nat) : Int) - 1 = (m : Int) := by omega
      rw [em]
      clear hm em
      have hjn : j < (Bi.bitsOf x n).length := by rw [Bi.bitsOf_length]; omega
      have hgt := bitsOf_get x n j hjn
      rw [show n - 1 - j = m by omega] at hgt
      have hdv0 : 0 ≤ x / 2 ^ m := Int.ediv_nonneg hx0 (Int.le_of_lt (Int.pow_pos (by omega)))
      have hdv1 : x / 2 ^ m ≤ x := Int.ediv_le_self _ hx0
      have hbit : (bits .and .i64 (x / 2 ^ m) 1 == 1) = (Bi.bitsOf x n)[j] := by
        rw [and_one hdv0 (by omega), hgt]
        by_cases h1 : x / 2 ^ m % 2 = 1 <;> simp [h1]
      have htk : (Bi.bitsOf x n).take (j + 1) = (Bi.bitsOf x n).take j ++ [(Bi.bitsOf x n)[j]] := List.take_succ_eq_append_getElem hjn
      obtain ⟨b, hb⟩ : ∃ b, (Bi.bitsOf x n)[j] = b := ⟨_, rfl⟩
      rw [hb] at hbit htk
      have HTK := Lib.hid htk
      clear hgt hdv0 hdv1 htk hb
      go_wp2_with (at_builtin; refine wpList_append_lies _ rfl (.tmp 36) (.tmp 43) _ rfl B 4 i0 _ 1 1 Tryz.underlying62 hi hz0 hz1 hz2 rfl (by omega) (.slice A m0.length c) m0.length _ rfl (hown.alloc _) ⟨wr.heap.size, 0, none⟩ 1 1 [.bool b] rfl rfl (World.news_of_block (cs := #[.bool b]) (t := 4) (fr := (0, 0)) (heap_alloc_new wr _)) (by simp [Value.oneCell']) (by omega) (by unfold maxLen; omega) (by omega) (by simp; omega) _ rfl ?_; intro gb cap w1 hown1 hgrow hat hlt1; have hb1 := (hblk.alloc (.cells #[.bool b] 4)).grown hgrow (Ne.symm hne); have d0 := hb1.frozen 0; have d4 : w1.cell? ⟨g, 0, none⟩ = some (.slice A m0.length c) := (by rw [hb1.cell]; rfl))
      have hfin := Lib.hid (RWOut.trans HC.out HR.out (rw_push hblk hown hgrow hown1 hat))
      have hcell2 := Lib.hid (((hcell.alloc (.cells #[.bool b] 4)).grown hgrow (Ne.symm hnz)).far (p := ⟨g, 0, none⟩) (by simp; omega) (.slice (some ⟨gb, 0, none⟩) (m0.length + 1) cap))
      clear hown1 hgrow hat hb1 d0 d4
      go_roundg m
      case measure => omega
      case rel => exact ⟨j + 1, by omega, by go_num, by rw [HTK.out, ← List.append_assoc, HM.out]; exact hfin.out, hcell2.out⟩
    · obtain rfl : gk = 0 := by omega
      obtain rfl : j = n := by omega
      have hz0 : wr.cell? ⟨w.heap.size, 0, none⟩ = some (.int .i64 0) := by rw [hcell.cell]; rfl
      have hz1 : wr.cell? ⟨w.heap.size, 1, none⟩ = some (.slice none 0 0) := by rw [hcell.cell]; rfl
      have hf0 := hcell.frozen 0
      have hf1 := hcell.frozen 1
      have hfin : RWOut w B g v m0 ((wr.setCell ⟨w.heap.size, 0, none⟩ (.int .i64 0)).setCell ⟨w.heap.size, 1, none⟩ (.slice none 0 0)) := by
        have hc2 : Chg (fun i => i = w.heap.size) wr ((wr.setCell ⟨w.heap.size, 0, none⟩ (.int .i64 0)).setCell ⟨w.heap.size, 1, none⟩ (.slice none 0 0)) :=
          ((Chg.refl (fun i => i = w.heap.size) wr).setCell (p := ⟨w.heap.size, 0, none⟩) (fun _ => rfl) _).setCell (p := ⟨w.heap.size, 1, none⟩) (fun _ => rfl) _
        exact ⟨_, ⟨hblk.chg hc2 (by omega), own_chg hown hc2 (fun i hi e => hnz (by rw [hi, e]))⟩, HC.out.step hc2 (fun i hi e => by omega), HR.out⟩
      have HF := Lib.hid hfin
      clear hfin hm
      go_wp2_with fail
      refine bodyPost_ret (v := .agg #[.int .i64 0, .slice none 0 0]) (by simp [results, Tryz.results29, go_sem, hz0, hz1]) rfl ⟨rfl, ?_⟩
      have hm0 := HM.out
      rw [List.take_of_length_le (by rw [Bi.bitsOf_length]; omega)] at hm0
      rw [hm0]
      exact HF.out

end Go.Proofs.YtnccebfapihpjaaGreatDoor
