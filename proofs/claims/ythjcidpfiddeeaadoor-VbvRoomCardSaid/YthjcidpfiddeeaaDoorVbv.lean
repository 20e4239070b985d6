/- Contracts of package vbv: Check, check, Fills, Play. -/
import Derived.Test.YthjcidpfiddeeaaDoorMay
namespace Go.Proofs.YthjcidpfiddeeaaDoor
open Go Go.RowKit Go.Extern.Stop Go.Stop Go.Extern

/-- vbv.Check: nil, or ErrConfig. -/
theorem Check_ok {qn qx re cu go ra ro fi : Int} (h : Vb.mayB qn qx re cu go ra ro fi = true) (w : World) : Calls Tryd.prog 16 #[.agg #[.int .i64 qn, .int .i64 qx, .int .i64 re, .int .i64 cu, .int .i64 go, .int .i64 ra, .int .i64 ro, .int .i64 fi]] w
    fun e w' => e = .returned .nilIface ∧ Below w.heap.size w w' := by
  go_enter Tryd.func16, Tryd.ntmps16
  go_wp2_with (go_at_call 15; refine (May_any _).mono ?_; rintro e w' ⟨rfl, hb⟩)
  go_ret
  exact ⟨rfl, ((Below.refl _ _).alloc (Nat.le_refl _) _).trans (hb.mono (by simp))⟩
theorem Check_no {qn qx re cu go ra ro fi : Int} (h : Vb.mayB qn qx re cu go ra ro fi = false) (w : World) : Calls Tryd.prog 16 #[.agg #[.int .i64 qn, .int .i64 qx, .int .i64 re, .int .i64 cu, .int .i64 go, .int .i64 ra, .int .i64 ro, .int .i64 fi]] w
    fun e w' => e = .returned (.iface 32 (.int .i64 11)) ∧ Below w.heap.size w w' := by
  go_enter Tryd.func16, Tryd.ntmps16
  go_wp2_with (go_at_call 15; refine (May_any _).mono ?_; rintro e w' ⟨rfl, hb⟩)
  go_ret
  exact ⟨rfl, ((Below.refl _ _).alloc (Nat.le_refl _) _).trans (hb.mono (by simp))⟩

/-- vbv.check: the config. -/
theorem check_cfg {qn qx re cu go ra ro fi : Int} {A : Option Addr} {l : List Int} {c : Nat} (h : Vb.mayB qn qx re cu go ra ro fi = false) (w : World) :
    Calls Tryd.prog 23 #[.agg #[.int .i64 qn, .int .i64 qx, .int .i64 re, .int .i64 cu, .int .i64 go, .int .i64 ra, .int .i64 ro, .int .i64 fi], .slice A l.length c] w
    fun e w' => e = .returned (.iface 32 (.int .i64 11)) ∧ Below w.heap.size w w' := by
  have H := Lib.hid h
  clear h
  go_enter Tryd.func23, Tryd.ntmps23
  go_wp2_with (go_at_call 16; refine (Check_no H.out _).mono ?_; rintro e w' ⟨rfl, hb⟩)
  go_ret
  exact ⟨rfl, ((Below.refl _ _).alloc (Nat.le_refl _) _).trans (hb.mono (by simp))⟩

theorem sizesB_no_len {l : List Int} (h : ¬ l.length ≤ 4096) : Vb.sizesB l = false := by simp [Vb.sizesB, h]
theorem sizesB_no {l : List Int} {j : Nat} (hj : j < l.length) (h : ¬ (0 ≤ l[j] ∧ l[j] ≤ 1073741824)) : Vb.sizesB l = false := by simp [Vb.sizesB, within_take_false hj h]
theorem sizesB_yes {l : List Int} (h1 : l.length ≤ 4096) (h : ∀ n ∈ l, 0 ≤ n ∧ n ≤ 1073741824) : Vb.sizesB l = true := by simp [Vb.sizesB, h1, (Vb.within_iff _ _ _).2 h]
theorem sizesB_of {l : List Int} (h : Vb.sizesB l = true) : l.length ≤ 4096 ∧ ∀ n ∈ l, 0 ≤ n ∧ n ≤ 1073741824 := by
  simp only [Vb.sizesB, Bool.and_eq_true, decide_eq_true_eq, Vb.within_iff] at h
  exact h

/-- The value of what is wrong with sizes. -/
def sizesV (l : List Int) : Value := if Vb.sizesB l then .nilIface else .iface 32 (.int .i64 3)

set_option maxHeartbeats 1000000 in
theorem check_sizes {qn qx re cu go ra ro fi : Int} {A : Option Addr} {l : List Int} {c : Nat} (hl : l.length ≤ 9223372036854775807) (h : Vb.mayB qn qx re cu go ra ro fi = true) (w : World) (ha : RdI .i64 w A l) :
    Calls Tryd.prog 23 #[.agg #[.int .i64 qn, .int .i64 qx, .int .i64 re, .int .i64 cu, .int .i64 go, .int .i64 ra, .int .i64 ro, .int .i64 fi], .slice A l.length c] w
    fun e w' => e = .returned (sizesV l) ∧ Below w.heap.size w w' := by
  have H := Lib.hid h
  have HA := Lib.hid ha
  clear h ha
  by_cases hlen : l.length ≤ 4096
  · go_enter Tryd.func23, Tryd.ntmps23
    go_wp2_with (go_at_call 16; refine (Check_ok H.out _).mono ?_; rintro e w' ⟨rfl, hb⟩)
    have hb1 : Below w.heap.size w w' := ((Below.refl _ _).alloc (Nat.le_refl _) _).trans (hb.mono (by simp))
    go_loopg [7, 19] l.length (fun k v i wr => ∃ j : Nat, j + k = l.length ∧ i = .int .i64 j ∧ wr = w' ∧ ∀ n ∈ l.take j, 0 ≤ n ∧ n ≤ 1073741824)
    case atStart => exact ⟨0, by omega, rfl, rfl, by simp⟩
    case round =>
      obtain ⟨j, hj, rfl, rfl, hin⟩ := hrel
      have HI := Lib.hid hin
      clear hin
      by_cases hlt : j < l.length
      · obtain ⟨b2, o2, rfl, k2⟩ := (HA.out.keep hb1).at_ hlt
        have hlt' : (j : Int) < (l.length : Int) := by omega
        by_cases hv : 0 ≤ l[j] ∧ l[j] ≤ 1073741824
        · obtain ⟨hv1, hv2⟩ := hv
          go_wp2_with (go_at_call 27; refine (from_yes _ (by omega) (by omega)).mono ?_; rintro e w' ⟨rfl, rfl⟩)
          go_roundg (gk - 1)
          case measure => omega
          case rel =>
            refine ⟨j + 1, by omega, by go_num, rfl, fun n hn => ?_⟩
            rw [List.take_succ_eq_append_getElem hlt] at hn
            rcases List.mem_append.1 hn with h | h
            · exact HI.out n h
            · simp at h; subst h; exact ⟨hv1, hv2⟩
        · have hf := Lib.hid (sizesB_no hlt hv)
          have hv' : ¬ (0 ≤ l[j] ∧ l[j] ≤ 1073741824) := hv
          have HV := Lib.hid hv'
          clear hv hv'
          go_wp2_with (go_at_call 27; refine (from_no _ HV.out).mono ?_; rintro e w' ⟨rfl, rfl⟩)
          go_ret
          exact ⟨by rw [sizesV, hf.out]; rfl, hb1⟩
      · have hf := Lib.hid (sizesB_yes hlen (fun n hn => HI.out n (by rw [List.take_of_length_le (by omega)]; exact hn)))
        go_wp2_with fail
        go_ret
        exact ⟨by rw [sizesV, hf.out]; rfl, hb1⟩
  · have hf := Lib.hid (sizesB_no_len hlen)
    go_enter Tryd.func23, Tryd.ntmps23
    go_wp2_with (go_at_call 16; refine (Check_ok H.out _).mono ?_; rintro e w' ⟨rfl, hb⟩)
    go_ret
    exact ⟨by rw [sizesV, hf.out]; rfl, ((Below.refl _ _).alloc (Nat.le_refl _) _).trans (hb.mono (by simp))⟩

/-- An error as plain data: its path, its code. -/
abbrev Er := List (ByteArray × Int) × Int
abbrev sVbv : ByteArray := ⟨#[118, 98, 118]⟩

/-- What a function that answers a list of integers and an error leaves. -/
def ResOut (w : World) (r : Except Er (List Int)) (e : Ending) (w' : World) : Prop :=
  match r with
  | .ok l => ∃ A c, e = .returned (.tuple #[.slice A l.length c, .nilIface]) ∧ RdI .i64 w' A l ∧ Below w.heap.size w w'
  | .error (p, c) => ∃ v, e = .returned (.tuple #[.slice none 0 0, v]) ∧ ErrAt w' p (.iface 32 (.int .i64 c)) v ∧ Below w.heap.size w w'

/-- What the bucket's functions answer. -/
def bucketR (may sizes : Bool) (f : Except (Nat × Int) (List Int)) : Except Er (List Int) :=
  if may then if sizes then (match f with | .ok l => .ok l | .error (i, c) => .error ([(sVbv, (i : Int))], c)) else .error ([], 3) else .error ([], 11)

theorem bucketR_ok {f : Except (Nat × Int) (List Int)} {l : List Int} (h : f = .ok l) : bucketR true true f = .ok l := by subst h; rfl
theorem bucketR_err {f : Except (Nat × Int) (List Int)} {i : Nat} {c : Int} (h : f = .error (i, c)) : bucketR true true f = .error ([(sVbv, (i : Int))], c) := by subst h; rfl
theorem resOut_err {w w' : World} {r : Except Er (List Int)} {p : List (ByteArray × Int)} {c : Int} {v : Value} (h : r = .error (p, c)) (he : ErrAt w' p (.iface 32 (.int .i64 c)) v) (hb : Below w.heap.size w w') :
    ResOut w r (.returned (.tuple #[.slice none 0 0, v])) w' := by subst h; exact ⟨v, rfl, he, hb⟩
theorem resOut_ok {w w' : World} {r : Except Er (List Int)} {l : List Int} {A : Option Addr} {n c : Nat} (h : r = .ok l) (hn : n = l.length) (hr : RdI .i64 w' A l) (hb : Below w.heap.size w w') :
    ResOut w r (.returned (.tuple #[.slice A n c, .nilIface])) w' := by subst h; subst hn; exact ⟨A, c, rfl, hr, hb⟩

/-- The same, and the list's capacity is not below its length, and it lies in new memory. -/
def ResOutC (w : World) (r : Except Er (List Int)) (e : Ending) (w' : World) : Prop :=
  match r with
  | .ok l => ∃ A c, (l.length ≤ c ∧ ∀ p, A = some p → w.heap.size ≤ p.block) ∧ e = .returned (.tuple #[.slice A l.length c, .nilIface]) ∧ RdI .i64 w' A l ∧ Below w.heap.size w w'
  | .error (p, c) => ∃ v, e = .returned (.tuple #[.slice none 0 0, v]) ∧ ErrAt w' p (.iface 32 (.int .i64 c)) v ∧ Below w.heap.size w w'
theorem ResOutC.out {w w' : World} {r : Except Er (List Int)} {e : Ending} (h : ResOutC w r e w') : ResOut w r e w' := by
  cases r with
  | ok l => obtain ⟨A, c, _, h1, h2, h3⟩ := h; exact ⟨A, c, h1, h2, h3⟩
  | error x => exact h
theorem resOutC_err {w w' : World} {r : Except Er (List Int)} {p : List (ByteArray × Int)} {c : Int} {v : Value} (h : r = .error (p, c)) (he : ErrAt w' p (.iface 32 (.int .i64 c)) v) (hb : Below w.heap.size w w') :
    ResOutC w r (.returned (.tuple #[.slice none 0 0, v])) w' := by subst h; exact ⟨v, rfl, he, hb⟩
theorem resOutC_ok {w w' : World} {r : Except Er (List Int)} {l : List Int} {A : Option Addr} {n c : Nat} (h : r = .ok l) (hn : n = l.length) (hr : RdI .i64 w' A l) (hb : Below w.heap.size w w') (hc : n ≤ c ∧ ∀ p, A = some p → w.heap.size ≤ p.block) :
    ResOutC w r (.returned (.tuple #[.slice A n c, .nilIface])) w' := by subst h; subst hn; exact ⟨A, c, hc, rfl, hr, hb⟩
theorem own_cap {w : World} {base size n c B : Nat} {e : TypeId} {A : Option Addr} {xs : List Value} (h : w.ownsRow base e size (.slice A n c) n xs) (hB : B ≤ base) : n ≤ c ∧ ∀ p, A = some p → B ≤ p.block := by
  refine ⟨?_, ?_⟩
  · rcases h.2 with ⟨hv, h0⟩ | ⟨g', cap, cur, hv, _, _, h1, _⟩
    · omega
    · injection hv with _ _ h3; omega
  · rintro p rfl
    have := (h.lt p.block rfl).1
    omega

set_option maxRecDepth 100000 in
set_option maxHeartbeats 2000000 in
theorem Fills_cap {qn qx re cu go ra ro fi : Int} {A : Option Addr} {l : List Int} {c : Nat} (hl : l.length ≤ 9223372036854775807) (w : World) (ha : RdI .i64 w A l) :
    Calls Tryd.prog 13 #[.agg #[.int .i64 qn, .int .i64 qx, .int .i64 re, .int .i64 cu, .int .i64 go, .int .i64 ra, .int .i64 ro, .int .i64 fi], .slice A l.length c] w
      (ResOutC w (bucketR (Vb.mayB qn qx re cu go ra ro fi) (Vb.sizesB l) (Vb.fills ra ro 0 fi l))) := by
  obtain ⟨i0, hi, hz0, hz1, hz2⟩ := info_parts intInfo
  have HA := Lib.hid ha
  clear ha
  cases hmay : Vb.mayB qn qx re cu go ra ro fi with
  | false =>
    have H := Lib.hid hmay
    clear hmay
    go_enter Tryd.func13, Tryd.ntmps13
    go_wp2_with (go_at_call 23; refine (check_cfg H.out _).mono ?_; rintro e w' ⟨rfl, hb⟩)
    go_ret2
    exact resOutC_err rfl rfl (((Below.refl _ _).alloc (Nat.le_refl _) _).trans (hb.mono (by simp)))
  | true =>
    have hm := mayB_of hmay
    have H := Lib.hid hmay
    clear hmay
    cases hsz : Vb.sizesB l with
    | false =>
      have HV := Lib.hid (show sizesV l = .iface 32 (.int .i64 3) by simp [sizesV, hsz])
      clear hsz
      go_enter Tryd.func13, Tryd.ntmps13
      go_wp2_with (go_at_call 23; refine (check_sizes hl H.out _ (HA.out.alloc _)).mono ?_; rw [HV.out]; rintro e w' ⟨rfl, hb⟩)
      go_ret2
      exact resOutC_err rfl rfl (((Below.refl _ _).alloc (Nat.le_refl _) _).trans (hb.mono (by simp)))
    | true =>
      have hs := sizesB_of hsz
      have HV := Lib.hid (show sizesV l = .nilIface by simp [sizesV, hsz])
      clear hsz
      have HS := Lib.hid hs.2
      have hl4 := hs.1
      clear hs
      obtain ⟨_, _, _, _, _, _, _, _, _, hm1, hm2, hm3, hm4, hm5⟩ := hm
      go_enter Tryd.func13, Tryd.ntmps13
      go_wp2_with (go_at_call 23; refine (check_sizes hl H.out _ (HA.out.alloc _)).mono ?_; rw [HV.out]; rintro e w' ⟨rfl, hb⟩; have hcf := (Blk.new w 23 #[.int .i64 qn, .int .i64 qx, .int .i64 re, .int .i64 cu, .int .i64 go, .int .i64 ra, .int .i64 ro, .int .i64 fi]).keep hb; have hc7 : w'.cell? ⟨w.heap.size, 7, none⟩ = some (.int .i64 fi) := by rw [hcf.cell]; rfl)
      have hb1 : Below w.heap.size w w' := ((Below.refl _ _).alloc (Nat.le_refl _) _).trans (hb.mono (by simp))
      go_loopg [7, 8, 21] l.length (fun k vh lv vi wr => ∃ (j : Nat) (H : Int) (acc : List Int), j + k = l.length ∧ vi = .int .i64 j ∧ vh = .int .i64 H ∧ 0 ≤ H ∧ H ≤ ro ∧ Hid (H = Vb.afterF ra ro fi (l.take j) ∧ Vb.fills ra ro 0 fi (l.take j) = .ok acc) ∧
        wr.ownsRow (w.heap.size + 1) 3 1 lv acc.length (acc.map (Value.int .i64)) ∧ Blk wr w.heap.size 23 #[.int .i64 qn, .int .i64 qx, .int .i64 re, .int .i64 cu, .int .i64 go, .int .i64 ra, .int .i64 ro, .int .i64 fi] ∧ Below w.heap.size w wr)
      case atStart => exact ⟨0, fi, [], by omega, rfl, rfl, by omega, by omega, ⟨rfl, rfl⟩, World.ownsRow_nil _ _ _ _, hcf, hb1⟩
      case round =>
        obtain ⟨j, H, acc, hj, rfl, rfl, hH0, hH1, hq, hown, hcf, hbel⟩ := hrel
        have hc5 : wr.cell? ⟨w.heap.size, 5, none⟩ = some (.int .i64 ra) := by rw [hcf.cell]; rfl
        have hc6 : wr.cell? ⟨w.heap.size, 6, none⟩ = some (.int .i64 ro) := by rw [hcf.cell]; rfl
        by_cases hlt : j < l.length
        · obtain ⟨b2, o2, rfl, k2⟩ := (HA.out.keep hbel).at_ hlt
          have hlt' : (j : Int) < (l.length : Int) := by omega
          obtain ⟨hv1, hv2⟩ := HS.out l[j] (List.getElem_mem hlt)
          obtain ⟨x, hx⟩ : ∃ x, l[j] = x := ⟨_, rfl⟩
          rw [hx] at k2 hv1 hv2
          have hx' := Lib.hid hx
          clear hx
          by_cases hd : x ≤ H
          · have hacc : acc.length ≤ 4096 := by have := Vb.fills_length hq.2; rw [this, List.length_take]; omega
            have hstep := Lib.hid (Vb.fills_step hlt hq.2 (by have := hq.1; have := hx'.out; omega))
            have hsn := Lib.hid (show Vb.afterF ra ro fi (l.take (j + 1)) = min (H + ra - x) ro by rw [Vb.take_snoc l j hlt, Vb.afterF_snoc, ← hq.1, hx'.out])
            rw [← hq.1, hx'.out] at hstep
            obtain ⟨A8, c8, rfl⟩ := own_slice hown
            have hwz : w.heap.size + 1 ≤ wr.heap.size := hcf.lt
            by_cases hmx : H + (ra - x) - ro < 0
            · go_wp2_with (at_builtin; refine wpList_append_lies _ rfl (.tmp 38) (.tmp 44) _ rfl (w.heap.size + 1) 3 i0 _ 1 8 Tryd.underlying24 hi hz0 hz1 hz2 rfl (by omega) (.slice A8 acc.length c8) acc.length _ rfl (hown.alloc _) ⟨wr.heap.size, 0, none⟩ 1 1 [.int .i64 0] rfl rfl (World.news_of_block (cs := #[.int .i64 0]) (t := 3) (fr := (0, 0)) (heap_alloc_new wr _)) (by simp [Value.oneCell']) (by omega) (by unfold maxLen; omega) (by omega) (by simp; omega) _ rfl ?_; intro g cap w1 hown1 hgrow hat hlt1; have hc6' : w1.cell? ⟨w.heap.size, 6, none⟩ = some (.int .i64 ro) := by rw [((hcf.alloc _).grown hgrow (Ne.symm (own_notBlk hown hcf (by decide)))).cell]; rfl)
              have hcf1 := (hcf.alloc (.cells #[.int .i64 0] 3)).grown hgrow (Ne.symm (own_notBlk hown hcf (by decide)))
              have HO := Lib.hid hown1
              have HW := Lib.hid hgrow
              clear hown1 hgrow hat
              go_roundg (gk - 1)
              case measure => omega
              case rel =>
                refine ⟨j + 1, H + (ra - x), acc ++ [0], by omega, by go_num, rfl, by omega, by omega, ⟨?_, ?_⟩, ?_, hcf1, ?_⟩
                · rw [hsn.out]; omega
                · rw [hstep.out]; simp; omega
                · simpa using HO.out
                · exact (hbel.alloc hbel.size _).grown HW.out (by simp; omega) (fun k hk => by have := (hown.lt k hk).1; omega)
            · go_wp2_with (at_builtin; refine wpList_append_lies _ rfl (.tmp 38) (.tmp 44) _ rfl (w.heap.size + 1) 3 i0 _ 1 8 Tryd.underlying24 hi hz0 hz1 hz2 rfl (by omega) (.slice A8 acc.length c8) acc.length _ rfl (hown.alloc _) ⟨wr.heap.size, 0, none⟩ 1 1 [.int .i64 (H + (ra - x) - ro)] rfl rfl (World.news_of_block (cs := #[.int .i64 (H + (ra - x) - ro)]) (t := 3) (fr := (0, 0)) (heap_alloc_new wr _)) (by simp [Value.oneCell']) (by omega) (by unfold maxLen; omega) (by omega) (by simp; omega) _ rfl ?_; intro g cap w1 hown1 hgrow hat hlt1; have hc6' : w1.cell? ⟨w.heap.size, 6, none⟩ = some (.int .i64 ro) := by rw [((hcf.alloc _).grown hgrow (Ne.symm (own_notBlk hown hcf (by decide)))).cell]; rfl)
              all_goals (
                have hcf1 := (hcf.alloc (.cells #[.int .i64 (H + (ra - x) - ro)] 3)).grown hgrow (Ne.symm (own_notBlk hown hcf (by decide)))
                have HO := Lib.hid hown1
                have HW := Lib.hid hgrow
                clear hown1 hgrow hat
                go_roundg (gk - 1)
                case measure => omega
                case rel =>
                  refine ⟨j + 1, ro, acc ++ [H + (ra - x) - ro], by omega, by go_num, by go_num, by omega, by omega, ⟨?_, ?_⟩, ?_, hcf1, ?_⟩
                  · rw [hsn.out]; omega
                  · rw [hstep.out]; simp; omega
                  · simpa using HO.out
                  · exact (hbel.alloc hbel.size _).grown HW.out (by simp; omega) (fun k hk => by have := (hown.lt k hk).1; omega))
          · have hd' : H < x := by omega
            have hres := Lib.hid (Vb.fills_dry hlt hq.2 (by have := hq.1; have := hx'.out; omega))
            clear hd
            go_wp2_with (go_at_call 24; refine (In_some _ _ _ _ _).mono ?_; rintro e w2 ⟨rfl, hB, hb2⟩)
            go_ret2
            exact resOutC_err (p := [(sVbv, (j : Int))]) (v := .iface 59 (.pointer (some ⟨wr.heap.size, 0, none⟩))) (bucketR_err hres.out) ⟨_, _, rfl, hB, rfl⟩ (hbel.trans (hb2.mono hbel.size))
        · go_wp2_with fail
          have ht : l.take j = l := List.take_of_length_le (by omega)
          obtain ⟨A2, c2, rfl⟩ := own_slice hown
          have h2 := hq.2
          rw [ht] at h2
          go_ret2
          exact resOutC_ok (bucketR_ok h2) rfl (RdI.of_own hown).1 hbel (own_cap hown (by omega))

set_option maxRecDepth 100000 in
set_option maxHeartbeats 2000000 in
theorem Play_cap {qn qx re cu go ra ro fi : Int} {A : Option Addr} {l : List Int} {c : Nat} (hl : l.length ≤ 9223372036854775807) (w : World) (ha : RdI .i64 w A l) :
    Calls Tryd.prog 11 #[.agg #[.int .i64 qn, .int .i64 qx, .int .i64 re, .int .i64 cu, .int .i64 go, .int .i64 ra, .int .i64 ro, .int .i64 fi], .slice A l.length c] w
      (ResOutC w (bucketR (Vb.mayB qn qx re cu go ra ro fi) (Vb.sizesB l) (Vb.play ra ro 0 fi l))) := by
  obtain ⟨i0, hi, hz0, hz1, hz2⟩ := info_parts intInfo
  have HA := Lib.hid ha
  clear ha
  cases hmay : Vb.mayB qn qx re cu go ra ro fi with
  | false =>
    have H := Lib.hid hmay
    clear hmay
    go_enter Tryd.func11, Tryd.ntmps11
    go_wp2_with (go_at_call 23; refine (check_cfg H.out _).mono ?_; rintro e w' ⟨rfl, hb⟩)
    go_ret2
    exact resOutC_err rfl rfl (((Below.refl _ _).alloc (Nat.le_refl _) _).trans (hb.mono (by simp)))
  | true =>
    have hm := mayB_of hmay
    have H := Lib.hid hmay
    clear hmay
    cases hsz : Vb.sizesB l with
    | false =>
      have HV := Lib.hid (show sizesV l = .iface 32 (.int .i64 3) by simp [sizesV, hsz])
      clear hsz
      go_enter Tryd.func11, Tryd.ntmps11
      go_wp2_with (go_at_call 23; refine (check_sizes hl H.out _ (HA.out.alloc _)).mono ?_; rw [HV.out]; rintro e w' ⟨rfl, hb⟩)
      go_ret2
      exact resOutC_err rfl rfl (((Below.refl _ _).alloc (Nat.le_refl _) _).trans (hb.mono (by simp)))
    | true =>
      have hs := sizesB_of hsz
      have HV := Lib.hid (show sizesV l = .nilIface by simp [sizesV, hsz])
      clear hsz
      have HS := Lib.hid hs.2
      have hl4 := hs.1
      clear hs
      obtain ⟨_, _, _, _, _, _, _, _, _, hm1, hm2, hm3, hm4, hm5⟩ := hm
      go_enter Tryd.func11, Tryd.ntmps11
      go_wp2_with (go_at_call 23; refine (check_sizes hl H.out _ (HA.out.alloc _)).mono ?_; rw [HV.out]; rintro e w' ⟨rfl, hb⟩; have hcf := (Blk.new w 23 #[.int .i64 qn, .int .i64 qx, .int .i64 re, .int .i64 cu, .int .i64 go, .int .i64 ra, .int .i64 ro, .int .i64 fi]).keep hb; have hc7 : w'.cell? ⟨w.heap.size, 7, none⟩ = some (.int .i64 fi) := by rw [hcf.cell]; rfl)
      have hb1 : Below w.heap.size w w' := ((Below.refl _ _).alloc (Nat.le_refl _) _).trans (hb.mono (by simp))
      go_loopg [7, 8, 21] l.length (fun k vh lv vi wr => ∃ (j : Nat) (H : Int) (acc : List Int), j + k = l.length ∧ vi = .int .i64 j ∧ vh = .int .i64 H ∧ 0 ≤ H ∧ H ≤ ro ∧ Hid (H = Vb.afterP ra fi (l.take j) ∧ Vb.play ra ro 0 fi (l.take j) = .ok acc) ∧
        wr.ownsRow (w.heap.size + 1) 3 1 lv acc.length (acc.map (Value.int .i64)) ∧ Blk wr w.heap.size 23 #[.int .i64 qn, .int .i64 qx, .int .i64 re, .int .i64 cu, .int .i64 go, .int .i64 ra, .int .i64 ro, .int .i64 fi] ∧ Below w.heap.size w wr)
      case atStart => exact ⟨0, fi, [], by omega, rfl, rfl, by omega, by omega, ⟨rfl, rfl⟩, World.ownsRow_nil _ _ _ _, hcf, hb1⟩
      case round =>
        obtain ⟨j, H, acc, hj, rfl, rfl, hH0, hH1, hq, hown, hcf, hbel⟩ := hrel
        have hc5 : wr.cell? ⟨w.heap.size, 5, none⟩ = some (.int .i64 ra) := by rw [hcf.cell]; rfl
        have hc6 : wr.cell? ⟨w.heap.size, 6, none⟩ = some (.int .i64 ro) := by rw [hcf.cell]; rfl
        by_cases hlt : j < l.length
        · obtain ⟨b2, o2, rfl, k2⟩ := (HA.out.keep hbel).at_ hlt
          have hlt' : (j : Int) < (l.length : Int) := by omega
          obtain ⟨hv1, hv2⟩ := HS.out l[j] (List.getElem_mem hlt)
          obtain ⟨x, hx⟩ : ∃ x, l[j] = x := ⟨_, rfl⟩
          rw [hx] at k2 hv1 hv2
          have hx' := Lib.hid hx
          clear hx
          by_cases hd : x ≤ H
          · have hacc : acc.length ≤ 4096 := by have := Vb.play_length hq.2; rw [this, List.length_take]; omega
            have hstep := Lib.hid (fun h => Vb.play_step (room := ro) hlt hq.2 (by have := hq.1; have := hx'.out; omega) h)
            have hsn := Lib.hid (show Vb.afterP ra fi (l.take (j + 1)) = H + ra - x by rw [Vb.take_snoc l j hlt, Vb.afterP_snoc, ← hq.1, hx'.out])
            have hov := fun h => Vb.play_over (room := ro) hlt hq.2 (by have := hq.1; have := hx'.out; omega) h
            rw [← hq.1, hx'.out] at hstep hov
            obtain ⟨A8, c8, rfl⟩ := own_slice hown
            have hwz : w.heap.size + 1 ≤ wr.heap.size := hcf.lt
            by_cases hmx : H + (ra - x) ≤ ro
            · have HV' := Lib.hid hov
              clear hov
              go_wp2_with (at_builtin; refine wpList_append_lies _ rfl (.tmp 45) (.tmp 47) _ rfl (w.heap.size + 1) 3 i0 _ 1 8 Tryd.underlying24 hi hz0 hz1 hz2 rfl (by omega) (.slice A8 acc.length c8) acc.length _ rfl (hown.alloc _) ⟨wr.heap.size, 0, none⟩ 1 1 [.int .i64 (H + (ra - x))] rfl rfl (World.news_of_block (cs := #[.int .i64 (H + (ra - x))]) (t := 3) (fr := (0, 0)) (heap_alloc_new wr _)) (by simp [Value.oneCell']) (by omega) (by unfold maxLen; omega) (by omega) (by simp; omega) _ rfl ?_; intro g cap w1 hown1 hgrow hat hlt1)
              have hcf1 := (hcf.alloc (.cells #[.int .i64 (H + (ra - x))] 3)).grown hgrow (Ne.symm (own_notBlk hown hcf (by decide)))
              have HO := Lib.hid hown1
              have HW := Lib.hid hgrow
              clear hown1 hgrow hat
              go_roundg (gk - 1)
              case measure => omega
              case rel =>
                refine ⟨j + 1, H + (ra - x), acc ++ [H + (ra - x)], by omega, by go_num, rfl, by omega, by omega, ⟨?_, ?_⟩, ?_, hcf1, ?_⟩
                · rw [hsn.out]; omega
                · rw [hstep.out (by omega)]; simp; omega
                · simpa using HO.out
                · exact (hbel.alloc hbel.size _).grown HW.out (by simp; omega) (fun k hk => by have := (hown.lt k hk).1; omega)
            · have hmx' : ro < H + (ra - x) := by omega
              have hres := Lib.hid (hov (by omega))
              clear hov hmx
              go_wp2_with (go_at_call 24; refine (In_some _ _ _ _ _).mono ?_; rintro e w2 ⟨rfl, hB, hb2⟩)
              go_ret2
              exact resOutC_err (p := [(sVbv, (j : Int))]) (v := .iface 59 (.pointer (some ⟨wr.heap.size, 0, none⟩))) (bucketR_err hres.out) ⟨_, _, rfl, hB, rfl⟩ (hbel.trans (hb2.mono hbel.size))
          · have hd' : H < x := by omega
            have hres := Lib.hid (Vb.play_dry hlt hq.2 (by have := hq.1; have := hx'.out; omega))
            clear hd
            go_wp2_with (go_at_call 24; refine (In_some _ _ _ _ _).mono ?_; rintro e w2 ⟨rfl, hB, hb2⟩)
            go_ret2
            exact resOutC_err (p := [(sVbv, (j : Int))]) (v := .iface 59 (.pointer (some ⟨wr.heap.size, 0, none⟩))) (bucketR_err hres.out) ⟨_, _, rfl, hB, rfl⟩ (hbel.trans (hb2.mono hbel.size))
        · go_wp2_with fail
          have ht : l.take j = l := List.take_of_length_le (by omega)
          obtain ⟨A2, c2, rfl⟩ := own_slice hown
          have h2 := hq.2
          rw [ht] at h2
          go_ret2
          exact resOutC_ok (bucketR_ok h2) rfl (RdI.of_own hown).1 hbel (own_cap hown (by omega))

theorem Fills_any {qn qx re cu go ra ro fi : Int} {A : Option Addr} {l : List Int} {c : Nat} (hl : l.length ≤ 9223372036854775807) (w : World) (ha : RdI .i64 w A l) :
    Calls Tryd.prog 13 #[.agg #[.int .i64 qn, .int .i64 qx, .int .i64 re, .int .i64 cu, .int .i64 go, .int .i64 ra, .int .i64 ro, .int .i64 fi], .slice A l.length c] w
      (ResOut w (bucketR (Vb.mayB qn qx re cu go ra ro fi) (Vb.sizesB l) (Vb.fills ra ro 0 fi l))) := (Fills_cap hl w ha).mono fun _ _ h => h.out

theorem Play_any {qn qx re cu go ra ro fi : Int} {A : Option Addr} {l : List Int} {c : Nat} (hl : l.length ≤ 9223372036854775807) (w : World) (ha : RdI .i64 w A l) :
    Calls Tryd.prog 11 #[.agg #[.int .i64 qn, .int .i64 qx, .int .i64 re, .int .i64 cu, .int .i64 go, .int .i64 ra, .int .i64 ro, .int .i64 fi], .slice A l.length c] w
      (ResOut w (bucketR (Vb.mayB qn qx re cu go ra ro fi) (Vb.sizesB l) (Vb.play ra ro 0 fi l))) := (Play_cap hl w ha).mono fun _ _ h => h.out

end Go.Proofs.YthjcidpfiddeeaaDoor
