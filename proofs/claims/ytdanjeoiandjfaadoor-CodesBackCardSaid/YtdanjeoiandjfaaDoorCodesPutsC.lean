/- The contract of kinlaw3.puts: an operation of both writers. -/
import Derived.Test.YtdanjeoiandjfaaDoorCodesOps
import Derived.Deep.RegionHeld3
namespace Go.Proofs.YtdanjeoiandjfaaDoor
open Go Go.RowKit Go.Extern.Stop Go.Stop Go.Extern

/-- The bits that an operation puts. -/
def bitsOp (o : Op3) : List Bool :=
  if o.k = 0 then (if Co.ueMay o.v then Co.ueBits o.v else [])
  else if o.k = 1 then (if Co.seMay o.v then Co.ueBits (Co.fold o.v) else [])
  else if o.k = 2 then (if Co.riceMay o.v o.n then Co.riceBits o.v o.n.toNat else [])
  else (if putMay o.v o.n then Bi.bitsOf o.v o.n.toNat else [])
theorem bitsOp_len (o : Op3) : (bitsOp o).length ≤ 61 := by
  unfold bitsOp
  split
  · split
    · next h => have := Co.ueBits_length h; have := Co.sizeUe_bd o.v; omega
    · simp
  · split
    · split
      · next h => have := Co.ueBits_length (fold_may h); have := Co.sizeUe_bd (Co.fold o.v); omega
      · simp
    · split
      · split
        · next h => have := Co.riceBits_length h; have := Co.sizeRice_bd o.v o.n; omega
        · simp
      · split
        · next h =>
          obtain ⟨h0, h1, _⟩ := of_decide_eq_true h
          rw [Bi.bitsOf_length]; omega
        · simp

/-- A block of another type is as it was behind a writer's call. -/
theorem Blk.write {t : TypeId} {w w' : World} {z B g : Nat} {v : Value} {l m : List Bool} {cs : Array Value} (hz : Blk w z t cs) (h1 : t ≠ 68) (h2 : t ≠ 5) (hw : Wtr w B g v l) (ho : WOut w B g v m w') : Blk w' z t cs := by
  obtain ⟨_, _, hc, _⟩ := ho
  refine hz.chg hc (fun hS => ?_)
  rcases hS with e | e
  · exact Blk.apart hz hw.1 h1 e
  · exact own_notBlk hw.2 hz (fun e => h2 e.symm) e
theorem Blk.rwrite {t : TypeId} {w w' : World} {z B g : Nat} {v : Value} {l m : List Bool} {cs : Array Value} (hz : Blk w z t cs) (h1 : t ≠ 38) (h2 : t ≠ 4) (hw : RWtr w B g v l) (ho : RWOut w B g v m w') : Blk w' z t cs := by
  obtain ⟨_, _, hc, _⟩ := ho
  refine hz.chg hc (fun hS => ?_)
  rcases hS with e | e
  · exact Blk.apart hz hw.1 h1 e
  · exact own_notBlk hw.2 hz (fun e => h2 e.symm) e
theorem op_cells {w : World} {z : Nat} {a b c d : Value} (h : Blk w z 41 #[a, b, c, d]) : w.cell? ⟨z, 0, none⟩ = some a ∧ w.cell? ⟨z, 1, none⟩ = some b ∧ w.cell? ⟨z, 2, none⟩ = some c ∧ w.cell? ⟨z, 3, none⟩ = some d :=
  ⟨by rw [h.cell]; rfl, by rw [h.cell]; rfl, by rw [h.cell]; rfl, by rw [h.cell]; rfl⟩

/-- What puts answers. -/
def PutsOut (w0 : World) (B g gx : Nat) (m : List Bool) (e : Ending) (w' : World) : Prop :=
  e = .returned (.bool true) ∧ Below w0.heap.size w0 w' ∧ ∃ v' u', Wtr w' B g v' m ∧ RWtr w' B gx u' m

set_option maxRecDepth 100000 in
set_option maxHeartbeats 4000000 in
theorem puts_any {o : Op3} {w0 w : World} {B g gx : Nat} {v u : Value} {l : List Bool} (hl : l.length ≤ 999990000) (hbo : InB o) (hg : Gl w0) (hbel : Below w0.heap.size w0 w) (hg0 : w0.heap.size ≤ g) (hgx0 : w0.heap.size ≤ gx) (hB0 : w0.heap.size ≤ B) (hB : B ≤ w.heap.size) (hw : Wtr w B g v l) (hx : RWtr w B gx u l) :
    Calls Tryd.prog 24 #[.pointer (some ⟨g, 0, none⟩), .pointer (some ⟨gx, 0, none⟩), .agg #[.int .i64 o.k, .int .i64 o.v, .int .i64 o.n, .int .i64 o.m]] w (PutsOut w0 B g gx (l ++ bitsOp o)) := by
  obtain ⟨k, x, n, m⟩ := o
  obtain ⟨hxb, hnb, _⟩ := hbo
  simp only at hxb hnb ⊢
  have HG := Lib.hid hg
  have hbA : Below w.heap.size w (w.alloc (.cells #[.int .i64 k, .int .i64 x, .int .i64 n, .int .i64 m] 41)) := (Below.refl _ _).alloc (Nat.le_refl _) _
  obtain ⟨W, hW⟩ : ∃ W, W = w.alloc (.cells #[.int .i64 k, .int .i64 x, .int .i64 n, .int .i64 m] 41) := ⟨_, rfl⟩
  rw [← hW] at hbA
  have HZ : Hid (Blk W w.heap.size 41 #[.int .i64 k, .int .i64 x, .int .i64 n, .int .i64 m]) := by rw [hW]; exact Blk.new _ _ _
  have HWD : Hid (Wtr W.drew B g v l) := show Wtr W B g v l from hw.keep hbA
  have HXD : Hid (RWtr W.drew B gx u l) := show RWtr W B gx u l from hx.keep hbA
  have hbW : Below w0.heap.size w0 W.drew := (hbel.trans (hbA.mono hbel.size)).drew
  have hsz : w.heap.size ≤ W.heap.size := hbA.size
  obtain ⟨q0, q1, q2, q3⟩ := op_cells HZ.out
  have HZD : Hid (Blk W.drew w.heap.size 41 #[.int .i64 k, .int .i64 x, .int .i64 n, .int .i64 m]) := HZ.out
  obtain ⟨z, hz⟩ : ∃ z, w.heap.size = z := ⟨_, rfl⟩
  have HW := Lib.hid hW
  have HZZ := Lib.hid hz
  rw [hz] at q0 q1 q2 q3 HZ HZD hsz hB
  clear hg hw hx hbel hbA hW q3
  rcases (show k = 0 ∨ k = 1 ∨ k = 2 ∨ (k ≠ 0 ∧ k ≠ 1 ∧ k ≠ 2) by omega) with rfl | rfl | rfl | ⟨hk0, hk1, hk2⟩
  · cases hm : Co.ueMay x with
    | false =>
      have hbits : bitsOp ⟨0, x, n, m⟩ = [] := by simp [bitsOp, hm]
      rw [hbits, List.append_nil]
      clear hbits
      go_enter Tryd.func24, Tryd.ntmps24
      go_wp2_with fail
      rw [← HW.out]
      clear HW HZZ hz
      go_region_held3 (fun W => W.cell? ⟨z, 1, none⟩ = some (.int .i64 x))
        (first
          | go_keep
          | (exact (op_cells (HZD.out.keep hb6)).2.1)
          | (exact (op_cells ((HZD.out.keep hb6).keep hb7')).2.1))
        (first
          | (go_at_call 21; refine (PutUe_no _ hm).mono ?_; rintro e w5 ⟨rfl, rfl⟩)
          | (go_at_call 43; refine (RPutUe_no _ hm).mono ?_; rintro e w6 ⟨rfl, hb6⟩)
          | (go_at_call 33; refine (Err_some (path := []) (c := 3) (A := none) (cap := 0) (by simp) (by omega) _ (HG.out.keep (hbW.trans (hb6.mono hbW.size))) rfl Rd.nil).mono ?_; rintro e w7 ⟨rfl, hb7'⟩))
      go_wp2_with fail
      go_ret
      exact ⟨rfl, (hbW.trans (hb6.mono hbW.size)).trans (hb7'.mono (hbW.trans (hb6.mono hbW.size)).size), v, u, (HWD.out.keep hb6).keep hb7', (HXD.out.keep hb6).keep hb7'⟩
    | true =>
      have hbits : bitsOp ⟨0, x, n, m⟩ = Co.ueBits x := by simp [bitsOp, hm]
      rw [hbits]
      clear hbits
      have HM := Lib.hid hm
      clear hm
      go_enter Tryd.func24, Tryd.ntmps24
      go_wp2_with fail
      rw [← HW.out]
      clear HW HZZ hz
      go_region_held3 (fun W => W.cell? ⟨z, 1, none⟩ = some (.int .i64 x))
        (first
          | go_keep
          | (exact (op_cells hz5.out).2.1)
          | (exact (op_cells hz6.out).2.1)
          | (exact (op_cells (hz6.out.keep hb7')).2.1))
        (first
          | (go_at_call 21; refine (PutUe_yes (by omega) _ (by simp; omega) HM.out HWD.out).mono ?_; rintro e w5 ⟨rfl, ho5⟩; have hb5 := below_w hbW HWD.out ho5 (by omega) (by omega); have hx5 := Lib.hid (HXD.out.write HWD.out ho5); have hz5 := Lib.hid (HZD.out.write (by decide) (by decide) HWD.out ho5); have hc5 : z ≤ w5.heap.size := (Nat.le_of_lt hz5.out.lt); have HO5 := Lib.hid ho5; clear ho5)
          | (go_at_call 43; refine (RPutUe_yes (by omega) _ (by have := hc5; omega) HM.out hx5.out).mono ?_; rintro e w6 ⟨rfl, ho6⟩; have hb6 := below_rw hb5 hx5.out ho6 (by omega) (by omega); have hz6 := Lib.hid (hz5.out.rwrite (by decide) (by decide) hx5.out ho6); have HO6 := Lib.hid ho6; clear ho6)
          | (go_at_call 33; refine (Err_none _ (HG.out.keep hb6)).mono ?_; rintro e w7 ⟨rfl, hb7'⟩; have hb7 := hb6.trans (hb7'.mono hb6.size)))
      obtain ⟨v5, hw5, _, _⟩ := HO5.out
      have hw7 := (hw5.rwrite hx5.out HO6.out).keep hb7'
      obtain ⟨u7, hx7, _, _⟩ := HO6.out
      have hx8 := hx7.keep hb7'
      go_wp2_with fail
      go_ret
      exact ⟨rfl, hb7, v5, u7, hw7, hx8⟩
  · cases hm : Co.seMay x with
    | false =>
      have hbits : bitsOp ⟨1, x, n, m⟩ = [] := by simp [bitsOp, hm]
      rw [hbits, List.append_nil]
      clear hbits
      go_enter Tryd.func24, Tryd.ntmps24
      go_wp2_with fail
      rw [← HW.out]
      clear HW HZZ hz
      go_region_held3 (fun W => W.cell? ⟨z, 1, none⟩ = some (.int .i64 x))
        (first
          | go_keep
          | (exact (op_cells (HZD.out.keep hb6)).2.1)
          | (exact (op_cells ((HZD.out.keep hb6).keep hb7')).2.1))
        (first
          | (go_at_call 36; refine (PutSe_no _ hm).mono ?_; rintro e w5 ⟨rfl, rfl⟩)
          | (go_at_call 44; refine (RPutSe_no _ hm).mono ?_; rintro e w6 ⟨rfl, hb6⟩)
          | (go_at_call 33; refine (Err_some (path := []) (c := 3) (A := none) (cap := 0) (by simp) (by omega) _ (HG.out.keep (hbW.trans (hb6.mono hbW.size))) rfl Rd.nil).mono ?_; rintro e w7 ⟨rfl, hb7'⟩))
      go_wp2_with fail
      go_ret
      exact ⟨rfl, (hbW.trans (hb6.mono hbW.size)).trans (hb7'.mono (hbW.trans (hb6.mono hbW.size)).size), v, u, (HWD.out.keep hb6).keep hb7', (HXD.out.keep hb6).keep hb7'⟩
    | true =>
      have hbits : bitsOp ⟨1, x, n, m⟩ = Co.ueBits (Co.fold x) := by simp [bitsOp, hm]
      rw [hbits]
      clear hbits
      have HM := Lib.hid hm
      clear hm
      go_enter Tryd.func24, Tryd.ntmps24
      go_wp2_with fail
      rw [← HW.out]
      clear HW HZZ hz
      go_region_held3 (fun W => W.cell? ⟨z, 1, none⟩ = some (.int .i64 x))
        (first
          | go_keep
          | (exact (op_cells hz5.out).2.1)
          | (exact (op_cells hz6.out).2.1)
          | (exact (op_cells (hz6.out.keep hb7')).2.1))
        (first
          | (go_at_call 36; refine (PutSe_yes (by omega) _ (by simp; omega) HM.out HWD.out).mono ?_; rintro e w5 ⟨rfl, ho5⟩; have hb5 := below_w hbW HWD.out ho5 (by omega) (by omega); have hx5 := Lib.hid (HXD.out.write HWD.out ho5); have hz5 := Lib.hid (HZD.out.write (by decide) (by decide) HWD.out ho5); have hc5 : z ≤ w5.heap.size := (Nat.le_of_lt hz5.out.lt); have HO5 := Lib.hid ho5; clear ho5)
          | (go_at_call 44; refine (RPutSe_yes (by omega) _ (by have := hc5; omega) HM.out hx5.out).mono ?_; rintro e w6 ⟨rfl, ho6⟩; have hb6 := below_rw hb5 hx5.out ho6 (by omega) (by omega); have hz6 := Lib.hid (hz5.out.rwrite (by decide) (by decide) hx5.out ho6); have HO6 := Lib.hid ho6; clear ho6)
          | (go_at_call 33; refine (Err_none _ (HG.out.keep hb6)).mono ?_; rintro e w7 ⟨rfl, hb7'⟩; have hb7 := hb6.trans (hb7'.mono hb6.size)))
      obtain ⟨v5, hw5, _, _⟩ := HO5.out
      have hw7 := (hw5.rwrite hx5.out HO6.out).keep hb7'
      obtain ⟨u7, hx7, _, _⟩ := HO6.out
      have hx8 := hx7.keep hb7'
      go_wp2_with fail
      go_ret
      exact ⟨rfl, hb7, v5, u7, hw7, hx8⟩
  · cases hm : Co.riceMay x n with
    | false =>
      have hbits : bitsOp ⟨2, x, n, m⟩ = [] := by simp [bitsOp, hm]
      rw [hbits, List.append_nil]
      clear hbits
      go_enter Tryd.func24, Tryd.ntmps24
      go_wp2_with fail
      rw [← HW.out]
      clear HW HZZ hz
      go_region_held3 (fun W => W.cell? ⟨z, 1, none⟩ = some (.int .i64 x) ∧ W.cell? ⟨z, 2, none⟩ = some (.int .i64 n))
        (first
          | go_keep
          | (exact ⟨(op_cells (HZD.out.keep hb6)).2.1, (op_cells (HZD.out.keep hb6)).2.2.1⟩)
          | (exact ⟨(op_cells ((HZD.out.keep hb6).keep hb7')).2.1, (op_cells ((HZD.out.keep hb6).keep hb7')).2.2.1⟩))
        (first
          | (go_at_call 22; refine (PutRice_no hxb hnb _ hm).mono ?_; rintro e w5 ⟨rfl, rfl⟩)
          | (go_at_call 45; refine (RPutRice_no _ hm).mono ?_; rintro e w6 ⟨rfl, hb6⟩)
          | (go_at_call 33; refine (Err_some (path := []) (c := 3) (A := none) (cap := 0) (by simp) (by omega) _ (HG.out.keep (hbW.trans (hb6.mono hbW.size))) rfl Rd.nil).mono ?_; rintro e w7 ⟨rfl, hb7'⟩))
      go_wp2_with fail
      go_ret
      exact ⟨rfl, (hbW.trans (hb6.mono hbW.size)).trans (hb7'.mono (hbW.trans (hb6.mono hbW.size)).size), v, u, (HWD.out.keep hb6).keep hb7', (HXD.out.keep hb6).keep hb7'⟩
    | true =>
      obtain ⟨N, rfl⟩ := Int.eq_ofNat_of_zero_le (show 0 ≤ n from (of_decide_eq_true hm).2.2.1)
      have hbits : bitsOp ⟨2, x, (N : Int), m⟩ = Co.riceBits x N := by simp [bitsOp, hm]
      rw [hbits]
      clear hbits
      have HM := Lib.hid hm
      clear hm
      go_enter Tryd.func24, Tryd.ntmps24
      go_wp2_with fail
      rw [← HW.out]
      clear HW HZZ hz
      go_region_held3 (fun W => W.cell? ⟨z, 1, none⟩ = some (.int .i64 x) ∧ W.cell? ⟨z, 2, none⟩ = some (.int .i64 (N : Int)))
        (first
          | go_keep
          | (exact ⟨(op_cells hz5.out).2.1, (op_cells hz5.out).2.2.1⟩)
          | (exact ⟨(op_cells hz6.out).2.1, (op_cells hz6.out).2.2.1⟩)
          | (exact ⟨(op_cells (hz6.out.keep hb7')).2.1, (op_cells (hz6.out.keep hb7')).2.2.1⟩))
        (first
          | (go_at_call 22; refine (PutRice_yes (by omega) _ (by simp; omega) HM.out HWD.out).mono ?_; rintro e w5 ⟨rfl, ho5⟩; have hb5 := below_w hbW HWD.out ho5 (by omega) (by omega); have hx5 := Lib.hid (HXD.out.write HWD.out ho5); have hz5 := Lib.hid (HZD.out.write (by decide) (by decide) HWD.out ho5); have hc5 : z ≤ w5.heap.size := (Nat.le_of_lt hz5.out.lt); have HO5 := Lib.hid ho5; clear ho5)
          | (go_at_call 45; refine (RPutRice_yes (by omega) _ (by have := hc5; omega) HM.out hx5.out).mono ?_; rintro e w6 ⟨rfl, ho6⟩; have hb6 := below_rw hb5 hx5.out ho6 (by omega) (by omega); have hz6 := Lib.hid (hz5.out.rwrite (by decide) (by decide) hx5.out ho6); have HO6 := Lib.hid ho6; clear ho6)
          | (go_at_call 33; refine (Err_none _ (HG.out.keep hb6)).mono ?_; rintro e w7 ⟨rfl, hb7'⟩; have hb7 := hb6.trans (hb7'.mono hb6.size)))
      obtain ⟨v5, hw5, _, _⟩ := HO5.out
      have hw7 := (hw5.rwrite hx5.out HO6.out).keep hb7'
      obtain ⟨u7, hx7, _, _⟩ := HO6.out
      have hx8 := hx7.keep hb7'
      go_wp2_with fail
      go_ret
      exact ⟨rfl, hb7, v5, u7, hw7, hx8⟩
  · cases hm : putMay x n with
    | false =>
      have hbits : bitsOp ⟨k, x, n, m⟩ = [] := by simp [bitsOp, hm, hk0, hk1, hk2]
      rw [hbits, List.append_nil]
      clear hbits
      go_enter Tryd.func24, Tryd.ntmps24
      go_wp2_with fail
      rw [← HW.out]
      clear HW HZZ hz
      go_region_held3 (fun W => W.cell? ⟨z, 1, none⟩ = some (.int .i64 x) ∧ W.cell? ⟨z, 2, none⟩ = some (.int .i64 n))
        (first
          | go_keep
          | (exact ⟨(op_cells (HZD.out.keep hb6)).2.1, (op_cells (HZD.out.keep hb6)).2.2.1⟩)
          | (exact ⟨(op_cells ((HZD.out.keep hb6).keep hb7')).2.1, (op_cells ((HZD.out.keep hb6).keep hb7')).2.2.1⟩))
        (first
          | (go_at_call 41; refine (Put_no _ hm).mono ?_; rintro e w5 ⟨rfl, rfl⟩)
          | (go_at_call 46; refine (RPut_no _ hm).mono ?_; rintro e w6 ⟨rfl, hb6⟩)
          | (go_at_call 33; refine (Err_some (path := []) (c := 3) (A := none) (cap := 0) (by simp) (by omega) _ (HG.out.keep (hbW.trans (hb6.mono hbW.size))) rfl Rd.nil).mono ?_; rintro e w7 ⟨rfl, hb7'⟩))
      go_wp2_with fail
      go_ret
      exact ⟨rfl, (hbW.trans (hb6.mono hbW.size)).trans (hb7'.mono (hbW.trans (hb6.mono hbW.size)).size), v, u, (HWD.out.keep hb6).keep hb7', (HXD.out.keep hb6).keep hb7'⟩
    | true =>
      obtain ⟨p0, p1, p2, p3⟩ : 0 ≤ n ∧ n ≤ 32 ∧ 0 ≤ x ∧ x < 2 ^ n.toNat := of_decide_eq_true hm
      obtain ⟨N, rfl⟩ := Int.eq_ofNat_of_zero_le p0
      have hbits : bitsOp ⟨k, x, (N : Int), m⟩ = Bi.bitsOf x N := by simp [bitsOp, hm, hk0, hk1, hk2]
      rw [hbits]
      clear hbits
      rw [Int.toNat_natCast] at p3
      have HP3 := Lib.hid p3
      clear p3
      clear hm
      go_enter Tryd.func24, Tryd.ntmps24
      go_wp2_with fail
      rw [← HW.out]
      clear HW HZZ hz
      go_region_held3 (fun W => W.cell? ⟨z, 1, none⟩ = some (.int .i64 x) ∧ W.cell? ⟨z, 2, none⟩ = some (.int .i64 (N : Int)))
        (first
          | go_keep
          | (exact ⟨(op_cells hz5.out).2.1, (op_cells hz5.out).2.2.1⟩)
          | (exact ⟨(op_cells hz6.out).2.1, (op_cells hz6.out).2.2.1⟩)
          | (exact ⟨(op_cells (hz6.out.keep hb7')).2.1, (op_cells (hz6.out.keep hb7')).2.2.1⟩))
        (first
          | (go_at_call 41; refine (Put_yes (by omega) _ (by simp; omega) (by omega) p2 HP3.out HWD.out).mono ?_; rintro e w5 ⟨rfl, ho5⟩; have hb5 := below_w hbW HWD.out ho5 (by omega) (by omega); have hx5 := Lib.hid (HXD.out.write HWD.out ho5); have hz5 := Lib.hid (HZD.out.write (by decide) (by decide) HWD.out ho5); have hc5 : z ≤ w5.heap.size := (Nat.le_of_lt hz5.out.lt); have HO5 := Lib.hid ho5; clear ho5)
          | (go_at_call 46; refine (RPut_yes (by omega) _ (by have := hc5; omega) (by omega) p2 HP3.out hx5.out).mono ?_; rintro e w6 ⟨rfl, ho6⟩; have hb6 := below_rw hb5 hx5.out ho6 (by omega) (by omega); have hz6 := Lib.hid (hz5.out.rwrite (by decide) (by decide) hx5.out ho6); have HO6 := Lib.hid ho6; clear ho6)
          | (go_at_call 33; refine (Err_none _ (HG.out.keep hb6)).mono ?_; rintro e w7 ⟨rfl, hb7'⟩; have hb7 := hb6.trans (hb7'.mono hb6.size)))
      obtain ⟨v5, hw5, _, _⟩ := HO5.out
      have hw7 := (hw5.rwrite hx5.out HO6.out).keep hb7'
      obtain ⟨u7, hx7, _, _⟩ := HO6.out
      have hx8 := hx7.keep hb7'
      go_wp2_with fail
      go_ret
      exact ⟨rfl, hb7, v5, u7, hw7, hx8⟩

end Go.Proofs.YtdanjeoiandjfaaDoor
