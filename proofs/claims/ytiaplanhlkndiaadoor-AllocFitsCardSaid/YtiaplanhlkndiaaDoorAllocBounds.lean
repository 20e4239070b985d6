/- The walk of kinlaw19.AllocBounds: it returns true, whatever the input. -/
import Derived.Test.YtiaplanhlkndiaaDoorAllocCaps
import Derived.BigQuiet
namespace Go.Proofs.YtiaplanhlkndiaaDoor
open Go Go.RowKit Go.Extern.Stop Go.Stop Go.Extern

theorem capsR_ok {ra ro fi : Int} {l m : List Int} {may : Bool} (h : capsR may ra ro fi l = .ok m) : may = true ∧ weightsB l = true ∧ m = capsOf ra ro fi l := by
  unfold capsR at h
  split at h
  · next h1 =>
    split at h
    · next h2 => cases h; exact ⟨h1, h2, rfl⟩
    · cases h
  · cases h

/-- What is in the bucket ahead of frame k, as the caps reckon it. -/
def hasC (ra ro fi : Int) (l : List Int) (k : Nat) : Int := Vb.afterC (fi + ((l.length : Int) - 1) * ra) (Vb.sumL l) ra ro fi (l.take k)

theorem capsOf_len (ra ro fi : Int) (l : List Int) : (capsOf ra ro fi l).length = l.length := Vb.caps_length _ _ _ _ _ _
theorem capsOf_get {ra ro fi : Int} {l m : List Int} (hm : m = capsOf ra ro fi l) (hr : 8 ≤ ra) (ho : 8 ≤ ro) (h1 : 8 ≤ fi) (h2 : fi ≤ ro) (k : Nat) (hk : k < m.length) :
    8 ≤ m[k] ∧ m[k] ≤ hasC ra ro fi l k ∧ hasC ra ro fi l k ≤ ro ∧ hasC ra ro fi l (k + 1) = min ro (hasC ra ro fi l k - m[k] + ra) := by
  subst hm
  have hkl : k < l.length := by rw [capsOf_len] at hk; exact hk
  have h := Vb.caps_bd (T := fi + ((l.length : Int) - 1) * ra) (S := Vb.sumL l) hr ho h1 h2 k hkl hk
  have hg := Vb.caps_get (fi + ((l.length : Int) - 1) * ra) (Vb.sumL l) ra ro l fi k hkl hk
  refine ⟨h.1, h.2.1, h.2.2, ?_⟩
  unfold hasC capsOf
  rw [Vb.take_snoc l k hkl, Vb.afterC_snoc, hg]

theorem capsOf_fill {ra ro fi : Int} {l m : List Int} (hm : m = capsOf ra ro fi l) (hr : 8 ≤ ra) (ho : 8 ≤ ro) (h1 : 8 ≤ fi) (h2 : fi ≤ ro) : ∃ g, Vb.fills ra ro 0 fi m = .ok g := by
  subst hm; exact Vb.caps_fill hr ho h1 h2

set_option maxRecDepth 100000 in
set_option maxHeartbeats 1000000 in
theorem AllocBounds_walk {qn qx re cu go ra ro fi : Int} {A : Option Addr} {l : List Int} {c : Nat} (hl : l.length ≤ 9223372036854775807) (w : World) (hg : Gl w) (ha : RdI .i64 w A l) :
    Calls Tryd.prog 5 #[.agg #[.int .i64 qn, .int .i64 qx, .int .i64 re, .int .i64 cu, .int .i64 go, .int .i64 ra, .int .i64 ro, .int .i64 fi], .slice A l.length c] w
      fun e w' => e = .returned (.bool true) ∧ Below w.heap.size w w' := by
  have HG := Lib.hid hg
  have HA := Lib.hid ha
  clear hg ha
  have hb0 : Below w.heap.size w (w.alloc (cfgC qn qx re cu go ra ro fi)) := (Below.refl _ _).alloc (Nat.le_refl _) _
  by_cases h5 : l.length ≤ 16
  · go_enter Tryd.func5, Tryd.ntmps5
    go_wp2_with fail
    refine (first_true _ (HG.out.keep hb0)).mono ?_
    rintro e w1 ⟨rfl, hb1⟩
    have hbA : Below w.heap.size w w1 := hb0.trans (hb1.mono hb0.size)
    have hcf := (Blk.new w 23 #[.int .i64 qn, .int .i64 qx, .int .i64 re, .int .i64 cu, .int .i64 go, .int .i64 ra, .int .i64 ro, .int .i64 fi]).keep hb1
    clear hb1 hb0
    obtain ⟨a0, a1, a2, a3, a4, a5, a6, a7⟩ := cfg_cells hcf
    go_wp2_with fail
    cases hr : capsR (Vb.mayB qn qx re cu go ra ro fi) ra ro fi l with
    | error x =>
      obtain ⟨p, k⟩ := x
      obtain ⟨rfl, hk⟩ := capsR_err hr
      have HR := Lib.hid hr
      clear hr
      refine (Caps_any hl _ (HA.out.keep hbA)).mono ?_
      rw [HR.out]
      rintro e w3 ⟨v3, rfl, he3, hb3⟩
      obtain rfl : v3 = _ := he3
      have hbC : Below w.heap.size w w3 := hbA.trans (hb3.mono hbA.size)
      clear a0 a1 a2 a3 a4 a5 a6 a7
      go_wp2_with fail
      refine (first_true _ (HG.out.keep hbC)).mono ?_
      rintro e w4 ⟨rfl, hb4⟩
      go_wp2_with fail
      go_ret
      exact ⟨rfl, hbC.trans (hb4.mono hbC.size)⟩
    | ok m =>
      have hml := capsR_len hr
      obtain ⟨hmay, hwt, hme⟩ := capsR_ok hr
      obtain ⟨_, _, _, _, _, _, _, _, _, hm1, hm2, hm3, hm4, hm5⟩ := mayB_of hmay
      have HR := Lib.hid hr
      have hget := Lib.hid (fun k hk => capsOf_get hme hm1 (by omega) hm4 hm5 k hk)
      have hhas0 : Hid (fi = hasC ra ro fi l 0) := rfl
      obtain ⟨g, hgf⟩ := capsOf_fill hme hm1 (by omega) hm4 hm5
      have hgl := Vb.fills_length hgf
      have hsz : Vb.sizesB m = true := sizesB_yes (by omega) (fun n hn => by
        obtain ⟨k, hk, rfl⟩ := List.getElem_of_mem hn
        have := hget.out k hk
        omega)
      have HF := Lib.hid (show bucketR (Vb.mayB qn qx re cu go ra ro fi) (Vb.sizesB m) (Vb.fills ra ro 0 fi m) = .ok g by rw [hmay, hsz, hgf]; rfl)
      have HGL := Lib.hid hgl
      have HML := Lib.hid hml
      have hm16 : m.length ≤ 16 := by omega
      clear hr hmay hwt hme hgf hgl hsz hml
      refine (Caps_any hl _ (HA.out.keep hbA)).mono ?_
      rw [HR.out]
      rintro e w3 ⟨A3, c3, rfl, hr3, hb3⟩
      have hbC : Below w.heap.size w w3 := hbA.trans (hb3.mono hbA.size)
      have hcf3 := hcf.keep hb3
      have HR3 := Lib.hid hr3
      clear a0 a1 a2 a3 a4 a5 a6 a7 hbA hb3 hr3
      obtain ⟨a0, a1, a2, a3, a4, a5, a6, a7⟩ := cfg_cells hcf3
      go_wp2_with fail
      go_loopg [7, 8] m.length (fun k vf vi wr => ∃ (j n : Nat) (F : Int), j + k = m.length ∧ vi = .int .i64 j ∧ vf = .int .i64 F ∧ 8 ≤ F ∧ F ≤ ro ∧ Hid (F = hasC ra ro fi l j) ∧ wr = w3.drewN n)
      case atStart => exact ⟨0, 0, fi, by omega, rfl, rfl, by omega, by omega, hhas0, rfl⟩
      case round =>
        obtain ⟨j, n, F, hj, rfl, rfl, hF0, hF1, hF, rfl⟩ := hrel
        by_cases hlt : j < m.length
        · obtain ⟨b2, o2, rfl, k2⟩ := HR3.out.at_ hlt
          have hlt' : (j : Int) < (m.length : Int) := by omega
          obtain ⟨hx0, hx1, _, hx2⟩ := hget.out j hlt
          rw [← hF.out] at hx1 hx2
          obtain ⟨x, hx⟩ : ∃ x, m[j] = x := ⟨_, rfl⟩
          rw [hx] at k2 hx0 hx1 hx2
          have HX := Lib.hid hx2
          clear hx hx2
          by_cases hmn : F - x + ra < ro
          · go_wp2_with fail
            go_quiet (fail)
            go_wp2_with fail
            go_roundg (gk - 1)
            case measure => omega
            case rel => exact ⟨j + 1, n + nq, F - x + ra, by omega, by go_num, rfl, by omega, by omega, Lib.hid (by rw [HX.out]; omega), rfl⟩
          · go_wp2_with fail
            go_quiet (fail)
            go_wp2_with fail
            go_roundg (gk - 1)
            case measure => omega
            case rel => exact ⟨j + 1, n + nq, ro, by omega, by go_num, rfl, by omega, by omega, Lib.hid (by rw [HX.out]; omega), rfl⟩
        · go_wp2_with fail
          refine (Fills_any (by omega) _ (HR3.out.keep (below_drewN (Below.refl _ _) n))).mono ?_
          rw [HF.out]
          rintro e w4 ⟨A4, c4, rfl, hg4, hb4⟩
          have hbD := (below_drewN hbC n).trans (hb4.mono (below_drewN hbC n).size)
          have he1 : ((g.length : Int) == (l.length : Int)) = true := by rw [HGL.out, HML.out]; simp
          have he2 : ((m.length : Int) == (l.length : Int)) = true := by rw [HML.out]; simp
          clear a0 a1 a2 a3 a4 a5 a6 a7
          go_wp2_with fail
          refine (first_true _ (HG.out.keep hbD)).mono ?_
          rintro e w5 ⟨rfl, hb5⟩
          go_wp2_with fail
          go_ret
          exact ⟨rfl, hbD.trans (hb5.mono hbD.size)⟩
  · go_enter Tryd.func5, Tryd.ntmps5
    go_wp2_with fail
    refine (first_true _ (HG.out.keep hb0)).mono ?_
    rintro e w1 ⟨rfl, hb1⟩
    have hbA : Below w.heap.size w w1 := hb0.trans (hb1.mono hb0.size)
    go_wp2_with fail
    refine (first_true _ (HG.out.keep hbA)).mono ?_
    rintro e w2 ⟨rfl, hb2⟩
    go_wp2_with fail
    go_ret
    exact ⟨rfl, hbA.trans (hb2.mono hbA.size)⟩

end Go.Proofs.YtiaplanhlkndiaaDoor
