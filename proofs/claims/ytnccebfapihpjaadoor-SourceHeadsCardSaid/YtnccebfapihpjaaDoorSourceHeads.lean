/- The walk of SourceHeads: heads, frames one by one. -/
import Derived.Test.YtnccebfapihpjaaDoorSourceBack
namespace Go.Proofs.YtnccebfapihpjaaDoor
open Go Go.RowKit Go.Extern.Stop Go.Stop Go.Extern

theorem lens_snoc {l : List Frm} {j : Nat} (h : j < l.length) : lens (l.take (j + 1)) = lens (l.take j) + ((encF [l[j]]).length - 5) := by
  rw [List.take_succ_eq_append_getElem h]
  unfold lens
  rw [List.map_append, List.sum_append]
  simp only [List.map_cons, List.map_nil, List.sum_cons, List.sum_nil, Nat.add_zero]
theorem lens_bd {l : List Frm} (h : ∀ g ∈ l, checkF [g] = 0) : lens l ≤ 200000 * l.length := by
  induction l with
  | nil => simp [lens]
  | cons f r ih =>
    have h1 := ih fun g hg => h g (by simp [hg])
    have h2 := (enc_bd (h f (by simp))).2
    simp only [lens, List.map_cons, List.sum_cons, List.length_cons] at *
    omega
theorem strKS : strOf [75, 83] = ⟨#[75, 83]⟩ := by kernel_rfl
/-- The cells of the head of what was encoded. -/
theorem enc_cells {w : World} {l : List Frm} {f : Frm} {r : List Frm} {g : Nat} (h0 : checkF l = 0) (hl : l = f :: r) (ha : RdI .u8 w (some ⟨g, 0, none⟩) (encF l)) : ∃ q2 q3 : Nat, f.w = 8 * (q2 : Int) ∧ f.h = 8 * (q3 : Int) ∧ q2 ≤ 4 ∧ q3 ≤ 4 ∧
    w.cell? ⟨g, 2, none⟩ = some (.int .u8 q2) ∧ w.cell? ⟨g, 3, none⟩ = some (.int .u8 q3) ∧ w.cell? ⟨g, 4, none⟩ = some (.int .u8 l.length) ∧ (encF l).take 2 = [75, 83] := by
  obtain ⟨f', r', h1, _, _, ⟨h6, h7⟩, h4, h5⟩ := enc_parts h0
  have hf : f' = f := by rw [hl] at h1; injection h1 with h1 _; exact h1.symm
  subst hf
  obtain ⟨b, o, hA, hc⟩ := ha.2 (by have := (enc_bd h0).1; omega)
  obtain ⟨rfl, rfl⟩ : g = b ∧ 0 = o := by injection hA with h; injection h with h8 h9; exact ⟨h8, h9⟩
  have he := enc_eq h1
  have key : ∀ (j : Nat) (v : Int), (encF l)[j]? = some v → w.cell? ⟨g, j, none⟩ = some (.int .u8 v) := fun j v hv => by
    have := hc j (.int .u8 v) (by rw [List.getElem?_map, hv]; rfl)
    rwa [Nat.zero_add] at this
  refine ⟨(f'.w / 8).toNat, (f'.h / 8).toNat, by omega, by omega, by omega, by omega, ?_, ?_, ?_, ?_⟩
  · refine key 2 _ ?_
    rw [he]; simp; omega
  · refine key 3 _ ?_
    rw [he]; simp; omega
  · exact key 4 _ (by rw [he]; rfl)
  · rw [he]; rfl

set_option maxRecDepth 100000 in
set_option maxHeartbeats 4000000 in
theorem SourceHeads_ok {l : List Frm} {A : Option Addr} {c : Nat} (hl : l.length ≤ 9223372036854775807) (hlc : l.length ≤ c) (hfew : fewF l = true) (h0 : checkF l = 0) (w : World) (ha : RdF w A l) (hg : Gl w) (hT : Tb w) :
    Calls Tryd.prog 4 #[.slice A l.length c] w fun e w' => e = .returned (.bool true) ∧ Below w.heap.size w w' := by
  have HA := Lib.hid ha
  have HG := Lib.hid hg
  have HT := Lib.hid hT
  have H0 := Lib.hid h0
  have C1 := Lib.hid (first_true w hg hT)
  have C2 := Lib.hid (fun W (hW : Below w.heap.size w W) => few_any (c := c) hl W (ha.keep hW))
  rw [hfew] at C2
  have C3 := Lib.hid (fun W (hW : Below w.heap.size w W) => Encode_ok (c := c) W (ha.keep hW) h0)
  obtain ⟨f, r, hfr, -, h16, -, -, -⟩ := enc_parts h0
  have HFR := Lib.hid hfr
  obtain ⟨n5, n9⟩ := enc_bd h0
  have h1n : 1 ≤ l.length := by rw [hfr]; simp
  have hn6 : 6 ≤ (encF l).length := by
    have h1 := enc_len h0
    have h2 : 1 ≤ (bitsF l).length := by
      rw [hfr]
      simp only [bitsF, List.map_cons, So.allBits, So.frameBits, List.length_append, Bi.bitsOf_length]
      omega
    omega
  have HLE := Lib.hid (heads_len h0)
  obtain ⟨b, hb⟩ : ∃ b, encF l = b := ⟨_, rfl⟩
  have HB := Lib.hid hb
  obtain ⟨n, hn⟩ : ∃ n, l.length = n := ⟨_, rfl⟩
  obtain ⟨nb, hnb⟩ : ∃ nb, b.length = nb := ⟨_, rfl⟩
  rw [hb] at n5 n9 hn6 C3 HLE
  rw [hnb] at n5 n9 hn6 C3 HLE
  rw [hn] at C2 C3 hl hlc h16 h1n HLE ⊢
  have HN := Lib.hid hn
  have HNB := Lib.hid hnb
  clear ha hg hT h0 hfew hn hb hnb hfr
  go_enter Tryd.func4, Tryd.ntmps4
  go_wp2_with fail
  refine C1.out.mono ?_
  rintro e w1 ⟨rfl, hb1⟩
  have HB1 := Lib.hid hb1
  clear hb1
  go_wp2_with fail
  refine (C2.out _ HB1.out).mono ?_
  rintro e w' ⟨rfl, rfl⟩
  go_wp2_with fail
  refine (C3.out _ HB1.out).mono ?_
  rintro e w2 ⟨A2, c2, rfl, hown2, hb2⟩
  obtain ⟨g, cap, hv, hg2, hgl2, hncap, -, -⟩ := own_form hown2 (by omega)
  obtain ⟨rfl, rfl⟩ : A2 = some ⟨g, 0, none⟩ ∧ c2 = cap := by injection hv with h1 h2 h3; exact ⟨h1, h3⟩
  have HB2 := Lib.hid (HB1.out.trans (hb2.mono HB1.out.size))
  have hrd2 : RdI .u8 w2 (some ⟨g, 0, none⟩) b := by
    rw [← HNB.out] at hown2
    exact (RdI.of_own hown2).1
  obtain ⟨q2, q3, hfw, hfh, hq2, hq3, k2, k3, k4, htk⟩ := enc_cells H0.out HFR.out (by rw [HB.out]; exact hrd2)
  rw [HN.out] at k4
  rw [HB.out] at htk
  have hcv := fun p : Go.Regrown => conv_rd (c := c2) (Sort.grow (redrawn w2 p.d) p.os) ((hrd2.take (i := 2) (by rw [HNB.out]; omega)).keep (below_regrown w2 _ _))
  rw [htk, strKS] at hcv
  have h0L : 0 < l.length := by rw [HN.out]; omega
  obtain ⟨b4, o4, rfl, z0, z1, -⟩ := (HA.out.keep HB2.out).at_ h0L
  have hl0 : l[0] = f := by have := HFR.out; subst this; rfl
  rw [hl0, hfw] at z0
  rw [hl0, hfh] at z1
  simp only [Nat.zero_mul, Nat.add_zero] at z0 z1
  have GCV : ∀ p : Go.Regrown, (convert 25 9 (.slice (some ⟨g, 0, none⟩) 2 c2)).run Tryd.prog (Sort.grow (redrawn w2 p.d) p.os) = .ok (.string ⟨#[75, 83]⟩) (Sort.grow (redrawn w2 p.d) p.os) := hcv
  have G2 := fun p : Go.Regrown => Go.cell_regrown k2 p.d p.os
  have G3 := fun p : Go.Regrown => Go.cell_regrown k3 p.d p.os
  have G4 := fun p : Go.Regrown => Go.cell_regrown k4 p.d p.os
  have G5 := fun p : Go.Regrown => Go.cell_regrown z0 p.d p.os
  have G6 := fun p : Go.Regrown => Go.cell_regrown z1 p.d p.os
  have i6 : ¬ (nb : Int) < 6 := by omega
  have i2 : (2 : Int) < (nb : Int) := by omega
  have i3 : (3 : Int) < (nb : Int) := by omega
  have i4 : (4 : Int) < (nb : Int) := by omega
  have i5 : (2 : Int) ≤ (c2 : Int) := by omega
  have j0 : 0 < n := by omega
  have j1 : (0 : Int) < (n : Int) := by omega
  have u2 : IntKind.i64.wrap (q2 : Int) = q2 := IntWalk.i64_in _ (by omega)
  have u3 : IntKind.i64.wrap (q3 : Int) = q3 := IntWalk.i64_in _ (by omega)
  have u4 : IntKind.i64.wrap (n : Int) = n := IntWalk.i64_in _ (by omega)
  have v2 : IntKind.i64.wrap (8 * (q2 : Int)) = 8 * (q2 : Int) := IntWalk.i64_in _ (by omega)
  have v3 : IntKind.i64.wrap (8 * (q3 : Int)) = 8 * (q3 : Int) := IntWalk.i64_in _ (by omega)
  have e2 : ((8 * (q2 : Int)) != (8 * (q2 : Int))) = false := by simp
  have e3 : ((8 * (q3 : Int)) != (8 * (q3 : Int))) = false := by simp
  have e4 : ((n : Int) != (n : Int)) = false := by simp
  have hgw : w.heap.size ≤ g := by have := HB1.out.size; omega
  clear hv hown2 hb2 hrd2 hg2 hfw hfh htk hcv hl0 k2 k3 k4 z0 z1
  go_wp2_with fail
  (refine hq_start (by kernel_rfl) (by kernel_rfl) ?_; (repeat (refine hq_step (fun K hK => ?_); go_simp; first | (refine hK _ ?_; clear hK K) | (apply Exists.intro; refine ⟨fun _ => ?_, hK _ ?_⟩; (focus (fail)); clear hK K))); (refine hq_nil ?_))
  intro wq hwq
  have hbq := hwq.below
  have HBQ := Lib.hid (HB2.out.trans (hbq.mono HB2.out.size))
  clear hbq hwq GCV G2 G3 G4 G5 G6 u2 u3 u4 v2 v3 e2 e3 e4
  go_wp2_with fail
  go_loopg [5, 6] n (fun k v5 v6 wr => ∃ j : Nat, j + k = n ∧ v6 = .int .i64 j ∧ v5 = .int .i64 ((5 + lens (l.take j) : Nat) : Int) ∧ Below w.heap.size w wr)
  case atStart => exact ⟨0, by omega, rfl, rfl, HBQ.out⟩
  case round =>
    obtain ⟨j, hj, rfl, rfl, hbel⟩ := hrel
    have HBEL := Lib.hid hbel
    have hlb : lens (l.take j) ≤ 200000 * j := by
      have h1 := lens_bd (l := l.take j) fun x hx => one_check H0.out (List.mem_of_mem_take hx)
      have h2 : (l.take j).length ≤ j := List.length_take_le _ _
      omega
    by_cases hlt : j < n
    · obtain ⟨m, rfl⟩ : ∃ m, gk = m + 1 := ⟨gk - 1, by omega⟩
      have hltL : j < l.length := by rw [HN.out]; exact hlt
      have hsn := Lib.hid (lens_snoc hltL)
      have hone := one_check H0.out (List.getElem_mem hltL)
      obtain ⟨b5, o5, hA5, y0, y1, y2⟩ := (HA.out.keep hbel).at_ hltL
      obtain ⟨rfl, rfl⟩ : b4 = b5 ∧ o4 = o5 := by injection hA5 with h; injection h with h1 h2; exact ⟨h1, h2⟩
      obtain ⟨hp1, hp2⟩ := (HA.out.keep hbel).pix hltL
      obtain ⟨x, hx⟩ : ∃ x, l[j] = x := ⟨_, rfl⟩
      rw [hx] at hsn hone y0 y1 y2 hp1 hp2
      have hsub : RdF wr (some ⟨b4, o4 + j * 3, none⟩) [x] := by
        refine ⟨⟨flatF_length [x], fun _ => ⟨b4, o4 + j * 3, rfl, fun i u hu => ?_⟩⟩, fun f' hf' => ?_⟩
        · have hi : i < 3 := by have := (List.getElem?_eq_some_iff.1 hu).1; simpa [flatF_length] using this
          rcases (show i = 0 ∨ i = 1 ∨ i = 2 by omega) with rfl | rfl | rfl
          · simp [flatF, Frm.cells] at hu; subst hu; exact y0
          · simp [flatF, Frm.cells] at hu; subst hu; exact y1
          · simp [flatF, Frm.cells] at hu; subst hu; exact y2
        · simp only [List.mem_singleton] at hf'; subst hf'; exact ⟨hp1, hp2⟩
      have CE := Lib.hid (Encode_ok (l := [x]) (c := c - j) wr hsub hone)
      obtain ⟨e5, e9⟩ := enc_bd hone
      have HEB := Lib.hid (enc_bytes hone)
      have HDE := Lib.hid (dec_enc hone)
      have HBS : Hid (∀ m : List Frm, m.map Frm.pix = [x].map Frm.pix → (∀ f ∈ m, f.w = wOf (encF [x]) ∧ f.h = hOf (encF [x])) → m.length = [x].length ∧ ∀ i (h : i < m.length) (h' : i < [x].length), sameF m[i] [x][i]) := Lib.hid fun m => back_same hone
      obtain ⟨bx, hbx⟩ : ∃ bx, encF [x] = bx := ⟨_, rfl⟩
      obtain ⟨nx, hnx⟩ : ∃ nx, bx.length = nx := ⟨_, rfl⟩
      rw [hbx] at CE e5 e9 HEB HDE HBS hsn
      rw [hnx] at CE e5 e9 hsn
      have HNX := Lib.hid hnx
      have HP1 := Lib.hid hp1
      have hcj : ¬ c = j := by omega
      have hj1 : IntKind.i64.wrap ((j : Int) + 1) = (j : Int) + 1 := IntWalk.i64_in _ (by omega)
      have hj2 : (j : Int) + 1 ≤ (c : Int) := by omega
      have hj3 : ((j : Int) + 1).toNat = j + 1 := by omega
      have hj4 : j + 1 - j = 1 := by omega
      clear hbel hone hA5 hsub hbx hnx hp1 hx
      go_wp2_with fail
      refine CE.out.mono ?_
      rintro e w5 ⟨A5, c5, rfl, hown5, hb5⟩
      obtain ⟨g5, cap5, hv5, -, -, hncap5, -, -⟩ := own_form hown5 (by omega)
      obtain ⟨rfl, rfl⟩ : A5 = some ⟨g5, 0, none⟩ ∧ c5 = cap5 := by injection hv5 with h1 h2 h3; exact ⟨h1, h3⟩
      have HB5 := Lib.hid (HBEL.out.trans (hb5.mono HBEL.out.size))
      have hrd5 : RdI .u8 w5 (some ⟨g5, 0, none⟩) bx := by
        rw [← HNX.out] at hown5
        exact (RdI.of_own hown5).1
      have CD := Lib.hid (Decode_any (b := bx) (c := c5) (by rw [HNX.out]; omega) (by rw [HNX.out]; exact hncap5) HEB.out w5 hrd5)
      rw [HNX.out] at CD
      have q0 := cell_keep y0 hb5
      have q1 := cell_keep y1 hb5
      have q2' := cell_keep y2 hb5
      have HP5 := Lib.hid (HP1.out.keep hb5)
      clear hv5 hown5 hb5 hrd5 CE y0 y1 y2 hj1 hj2 hj3 hj4 hcj
      go_wp2_with fail
      refine CD.out.mono ?_
      unfold DecOut
      rw [HDE.out]
      rintro e w6 ⟨⟨A6, c6, m6, rfl, hrd6, hpx, hwh⟩, hb6⟩
      obtain ⟨hml, hsame⟩ := HBS.out m6 hpx hwh
      have HB6 := Lib.hid (HB5.out.trans (hb6.mono HB5.out.size))
      rw [hml]
      simp only [List.length_cons, List.length_nil] at hml
      obtain ⟨f6, rfl⟩ : ∃ f6, m6 = [f6] := by
        rcases m6 with _ | ⟨f6, _ | ⟨f7, r7⟩⟩
        · cases hml
        · exact ⟨f6, rfl⟩
        · simp at hml
      obtain ⟨s1, s2, s3⟩ := hsame 0 (by simp) (by simp)
      simp only [List.getElem_cons_zero] at s1 s2 s3
      obtain ⟨b7, o7, rfl, x0, x1, x2⟩ := hrd6.at_ (i := 0) (by simp)
      obtain ⟨hp6, hp7⟩ := hrd6.pix (i := 0) (by simp)
      simp only [List.getElem_cons_zero, Nat.zero_mul, Nat.add_zero] at x0 x1 x2 hp6 hp7
      have y0 := cell_keep q0 hb6
      have y1 := cell_keep q1 hb6
      have y2 := cell_keep q2' hb6
      have hp8 := HP5.out.keep hb6
      obtain ⟨w9, h9, A9, p9, c9⟩ := x
      obtain ⟨w8, h8, A8, p8, c8⟩ := f6
      simp only at s1 s2 s3 x0 x1 x2 hp6 hp7 y0 y1 y2 hp8
      subst s1 s2 s3
      have D : ∀ w', Below w6.heap.size w6 w' → Calls Tryd.prog 12 #[.agg #[.int .i64 w8, .int .i64 h8, .slice A8 p8.length c8], .agg #[.int .i64 w8, .int .i64 h8, .slice A9 p8.length c9]] w' fun e w'' => e = .returned (.bool true) ∧ Below w'.heap.size w' w'' :=
        fun w' hb' => Frame_same hp7 w' (hp6.keep hb') (hp8.keep hb')
      have C7 := Lib.hid (Calls.grown D)
      have G0 := fun p : Go.Regrown => Go.cell_regrown x0 p.d p.os
      have G1 := fun p : Go.Regrown => Go.cell_regrown x1 p.d p.os
      have G2 := fun p : Go.Regrown => Go.cell_regrown x2 p.d p.os
      have G3 := fun p : Go.Regrown => Go.cell_regrown y0 p.d p.os
      have G4 := fun p : Go.Regrown => Go.cell_regrown y1 p.d p.os
      have G5 := fun p : Go.Regrown => Go.cell_regrown y2 p.d p.os
      have i1 : (0 : Int) ≤ (j : Int) := by omega
      have i2' : (j : Int) < (n : Int) := by omega
      have hsz : lens (l.take j) + (nx - 5) ≤ 10000000 := by omega
      have hsub : (nx : Int) - 5 = ((nx - 5 : Nat) : Int) := by omega
      obtain ⟨d, hd⟩ : ∃ d, nx - 5 = d := ⟨_, rfl⟩
      rw [hd] at hsn hsz hsub
      clear hd hrd6 hpx hwh hb6 hml hsame CD D q0 q1 q2' hp6 hp7 hp8
      go_wp2_with fail
      (refine hq_start (by kernel_rfl) (by kernel_rfl) ?_; (repeat (refine hq_step (fun K hK => ?_); go_simp; first | (refine hK _ ?_; clear hK K) | (apply Exists.intro; refine ⟨fun _ => ?_, hK _ ?_⟩; (focus (with_reducible exact C7.out _)); clear hK K))); (refine hq_nil ?_))
      intro wq7 hwq7
      have hbq7 := hwq7.below
      have HBQ7 := Lib.hid (HB6.out.trans (hbq7.mono HB6.out.size))
      clear hbq7 hwq7 G0 G1 G2 G3 G4 G5 C7 x0 x1 x2 y0 y1 y2
      go_wp2_with fail
      go_roundg m
      case measure => omega
      case rel => exact ⟨j + 1, by omega, by go_num, by rw [hsn.out]; go_num, HBQ7.out⟩
    · obtain rfl : j = n := by omega
      obtain rfl : gk = 0 := by omega
      have htl : l.take j = l := List.take_of_length_le (by rw [HN.out]; exact Nat.le_refl _)
      rw [htl] at hlb ⊢
      obtain ⟨S, hS⟩ : ∃ S, lens l = S := ⟨_, rfl⟩
      rw [hS] at hlb HLE ⊢
      have h1 : (nb : Int) ≤ ((5 + S : Nat) : Int) := by have := HLE.out.1; omega
      have h2 : ((5 + S : Nat) : Int) - (j : Int) ≤ (nb : Int) := by have := HLE.out.2; omega
      clear htl hS hbel
      go_wp2_with fail
      refine (first_true _ (HG.out.keep HBEL.out) (HT.out.keep HBEL.out)).mono ?_
      rintro e w8 ⟨rfl, hb8⟩
      have HB8 := Lib.hid (HBEL.out.trans (hb8.mono HBEL.out.size))
      clear hb8
      go_wp2_with fail
      go_ret
      refine ⟨?_, HB8.out⟩
      have hd : decide ((5 : Int) + (S : Int) - (j : Int) ≤ (nb : Int)) = true := decide_eq_true (by omega)
      show Ending.returned (.bool (decide ((5 : Int) + (S : Int) - (j : Int) ≤ (nb : Int)))) = _
      rw [hd]

set_option maxRecDepth 100000 in
set_option maxHeartbeats 1000000 in
theorem SourceHeads_walk {l : List Frm} {A : Option Addr} {c : Nat} (hl : l.length ≤ 9223372036854775807) (hlc : l.length ≤ c) (w : World) (ha : RdF w A l) (hg : Gl w) (hT : Tb w) :
    Calls Tryd.prog 4 #[.slice A l.length c] w fun e w' => e = .returned (.bool true) ∧ Below w.heap.size w w' := by
  have HG := Lib.hid hg
  have HT := Lib.hid hT
  have C1 := Lib.hid (first_true w hg hT)
  have C2 := Lib.hid (fun W (hW : Below w.heap.size w W) => few_any (c := c) hl W (ha.keep hW))
  cases hfew : fewF l with
  | true =>
    by_cases h0 : checkF l = 0
    · exact SourceHeads_ok hl hlc hfew h0 w ha hg hT
    · have h40 : l.length ≤ 40 := by
        unfold fewF at hfew
        simp only [Bool.and_eq_true, decide_eq_true_eq] at hfew
        exact hfew.1
      have C3 := Lib.hid (fun W (hW : Below w.heap.size w W) => Encode_no (c := c) (by omega) W (ha.keep hW) h0)
      obtain ⟨k, hk⟩ : ∃ k, checkF l = k := ⟨_, rfl⟩
      obtain ⟨n, hn⟩ : ∃ n, l.length = n := ⟨_, rfl⟩
      rw [hfew] at C2
      rw [hn] at C2 C3 ⊢
      rw [hk] at C3
      clear ha hg hT h0 hfew hn hl hlc hk h40
      go_enter Tryd.func4, Tryd.ntmps4
      go_wp2_with fail
      refine C1.out.mono ?_
      rintro e w1 ⟨rfl, hb1⟩
      have HB1 := Lib.hid hb1
      clear hb1
      go_wp2_with fail
      refine (C2.out _ HB1.out).mono ?_
      rintro e w' ⟨rfl, rfl⟩
      go_wp2_with fail
      refine (C3.out _ HB1.out).mono ?_
      rintro e w2 ⟨rfl, hb2⟩
      have HB2 := Lib.hid (HB1.out.trans (hb2.mono HB1.out.size))
      clear hb2
      go_wp2_with fail
      refine (first_true _ (HG.out.keep HB2.out) (HT.out.keep HB2.out)).mono ?_
      rintro e w3 ⟨rfl, hb3⟩
      have HB3 := Lib.hid (HB2.out.trans (hb3.mono HB2.out.size))
      clear hb3
      go_wp2_with fail
      go_ret
      exact ⟨rfl, HB3.out⟩
  | false =>
    rw [hfew] at C2
    clear ha hg hT hfew
    go_enter Tryd.func4, Tryd.ntmps4
    go_wp2_with fail
    refine C1.out.mono ?_
    rintro e w1 ⟨rfl, hb1⟩
    have HB1 := Lib.hid hb1
    clear hb1
    go_wp2_with fail
    refine (C2.out _ HB1.out).mono ?_
    rintro e w' ⟨rfl, rfl⟩
    go_wp2_with fail
    refine (first_true _ (HG.out.keep HB1.out) (HT.out.keep HB1.out)).mono ?_
    rintro e w2 ⟨rfl, hb2⟩
    have HB2 := Lib.hid (HB1.out.trans (hb2.mono HB1.out.size))
    clear hb2
    go_wp2_with fail
    go_ret
    exact ⟨rfl, HB2.out⟩

end Go.Proofs.YtnccebfapihpjaaDoor
