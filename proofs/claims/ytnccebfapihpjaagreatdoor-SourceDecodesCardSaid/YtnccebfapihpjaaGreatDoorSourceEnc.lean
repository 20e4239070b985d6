/- Contracts of source.Encode. -/
import Derived.Test.YtnccebfapihpjaaGreatDoorEncL
import Derived.Deep.RegionLaw
import Derived.Test.YtnccebfapihpjaaGreatDoorAppend
namespace Go.Proofs.YtnccebfapihpjaaGreatDoor
open Go Go.RowKit Go.Extern.Stop Go.Stop Go.Extern

set_option maxRecDepth 100000 in
set_option maxHeartbeats 1000000 in
theorem Encode_no {l : List Frm} {A : Option Addr} {c : Nat} (hl : l.length ≤ 1000000) (W : World) (ha : RdF W A l) (hne : checkF l ≠ 0) :
    Calls Tryz.prog 8 #[.slice A l.length c] W fun e w' => e = .returned (.tuple #[.slice none 0 0, .iface 31 (.int .i64 (checkF l))]) ∧ Below W.heap.size W w' := by
  obtain ⟨k, hk⟩ : ∃ k, checkF l = k := ⟨_, rfl⟩
  have CC : Hid (Calls Tryz.prog 18 #[.slice A l.length c] W fun e w' => e = .returned (.iface 31 (.int .i64 k)) ∧ Below W.heap.size W w') := Lib.hid (by
    have h := check_any (c := c) hl W ha
    unfold codeV at h
    rw [if_neg hne, hk] at h
    exact h)
  rw [hk]
  clear ha hne hk
  go_enter Tryz.func8, Tryz.ntmps8
  go_wp2_with fail
  refine CC.out.mono ?_
  rintro e w1 ⟨rfl, hb1⟩
  go_wp2_with fail
  go_ret2
  exact ⟨rfl, hb1⟩

set_option maxRecDepth 100000 in
set_option maxHeartbeats 1000000 in
theorem Encode_ok {l : List Frm} {A : Option Addr} {c : Nat} (W : World) (ha : RdF W A l) (h0 : checkF l = 0) :
    Calls Tryz.prog 8 #[.slice A l.length c] W fun e w' => ∃ A' c', e = .returned (.tuple #[.slice A' (encF l).length c', .nilIface]) ∧
      w'.ownsRow W.heap.size 5 1 (.slice A' (encF l).length c') (encF l).length ((encF l).map (Value.int .u8)) ∧ Below W.heap.size W w' := by
  obtain ⟨i0, hi, hz0, hz1, hz2⟩ := info_parts u8Info
  obtain ⟨f, r, hfr, hall, h16⟩ := check_zero h0
  have CC : Hid (Calls Tryz.prog 18 #[.slice A l.length c] W fun e w' => e = .returned .nilIface ∧ Below W.heap.size W w') := Lib.hid (by
    have h := check_any (c := c) (by omega) W ha
    unfold codeV at h
    rw [if_pos h0] at h
    exact h)
  have HA := Lib.hid ha
  have HALL := Lib.hid hall
  have hl0 : 0 < l.length := by rw [hfr]; simp
  have hf0 : Hid (l[0] = f) := Lib.hid (by subst hfr; rfl)
  have HE : Hid (encF l = [75, 83, f.w / 8, f.h / 8, (l.length : Int)] ++ Bi.pack (So.allBits f.w.toNat (l.map Frm.pix))) := Lib.hid (by subst hfr; rfl)
  obtain ⟨hw1, hh1, -, -, -⟩ := may_bd ((hall f (by rw [hfr]; simp)).1)
  obtain ⟨fw, hfw⟩ : ∃ fw : Nat, f.w = fw := ⟨f.w.toNat, by omega⟩
  obtain ⟨n, hn⟩ : ∃ n, l.length = n := ⟨_, rfl⟩
  have HN := Lib.hid hn
  have HFW := Lib.hid hfw
  rw [hn] at h16 CC hl0 ⊢
  clear ha hall hfr h0 hn hfw
  go_enter Tryz.func8, Tryz.ntmps8
  go_wp2_with fail
  refine CC.out.mono ?_
  rintro e w1 ⟨rfl, hb1⟩
  go_wp2_with fail
  refine (NewWriter_any _).mono ?_
  rintro e w2 ⟨rfl, rfl⟩
  have hw0 := Wtr.new w1 w1.heap.size
  have hbW := hb1.alloc hb1.size (.cells #[.slice none 0 0, .int .i64 0] 94)
  have HW0 := Lib.hid hw0
  have HBW := Lib.hid hbW
  have hgW := hb1.size
  clear hw0 hbW CC
  go_wp2_with fail
  go_loopg [20] n (fun k v20 wr => ∃ (j : Nat) (v : Value) (acc : List Bool), j + k = n ∧ v20 = .int .i64 j ∧ Wtr wr w1.heap.size w1.heap.size v acc ∧ Hid (acc = So.allBits fw ((l.take j).map Frm.pix)) ∧ acc.length ≤ j * 56323 ∧ w1.heap.size ≤ wr.heap.size ∧ Below W.heap.size W wr)
  case atStart => exact ⟨0, _, [], by omega, rfl, HW0.out, Lib.hid rfl, by simp, by simp, HBW.out⟩
  case round =>
    obtain ⟨j, v, acc, hj, rfl, hwr, hacc, hal, hsz, hbel⟩ := hrel
    have hwd := Lib.hid hwr
    clear hwr
    by_cases hlt : j < n
    · have hltL : j < l.length := by have := HN.out; omega
      have hlt' : (j : Int) < (n : Int) := by omega
      obtain ⟨b2, o2, rfl, k0, k1, k2⟩ := (HA.out.keep hbel).at_ hltL
      obtain ⟨hp1, hp2⟩ := (HA.out.keep hbel).pix hltL
      obtain ⟨hm1, hm2, hm3⟩ := HALL.out _ (List.getElem_mem hltL)
      have hsn := Lib.hid (all_snoc fw hltL)
      obtain ⟨fj, hfj⟩ : ∃ fj, l[j] = fj := ⟨_, rfl⟩
      rw [hfj] at k0 k1 k2 hp1 hp2 hm1 hm2 hsn
      obtain ⟨hq1, hq2, -, hq4, hq5⟩ := may_bd hm1
      obtain ⟨w9, h9, A9, p9, c9⟩ := fj
      simp only at k0 k1 k2 hp1 hp2 hq1 hq4 hq5 hm2 hsn
      obtain rfl : w9 = (fw : Int) := hm2.trans HFW.out
      have HP1 := Lib.hid hp1
      have HQ5 := Lib.hid hq5
      have hKb := So.bestK_bd (So.folds p9 fw)
      have hFl := folds_length p9 fw
      have hFb := Lib.hid (folds_bd hq5 fw)
      have hfb : Hid (So.frameBits p9 fw = Bi.bitsOf (So.bestK (So.folds p9 fw)) 3 ++ So.manyBits (So.bestK (So.folds p9 fw)).toNat (So.folds p9 fw)) := Lib.hid rfl
      have CF := Lib.hid (folds_any (L := p9) (A := A9) (c := c9) (fw := fw) (fh := h9) (by omega) (by omega) hq5 (by omega) _ (hp1.alloc (.cells #[.int .i64 fw, .int .i64 h9, .slice A9 p9.length c9] 48)))
      obtain ⟨F, hF⟩ : ∃ F, So.folds p9 fw = F := ⟨_, rfl⟩
      rw [hF] at hKb hFl hFb hfb CF
      obtain ⟨K, hK⟩ : ∃ K : Nat, So.bestK F = K := ⟨(So.bestK F).toNat, by omega⟩
      rw [hK] at hKb hfb
      have HK := Lib.hid hK
      simp only [Int.toNat_natCast] at hfb
      have hF9 : F.length ≤ 1024 := by omega
      have hK7 : K ≤ 7 := by omega
      have hb2 := hbel.alloc hbel.size (.cells #[.int .i64 fw, .int .i64 h9, .slice A9 p9.length c9] 48)
      have hwd2 := Lib.hid (hwd.out.keep ((Below.refl wr.heap.size wr).alloc (Nat.le_refl _) (.cells #[.int .i64 fw, .int .i64 h9, .slice A9 p9.length c9] 48)))
      clear hfj hm1 hm2 hm3 hp1 hp2 hq5 hF hFl hK hKb
      go_wp2_with fail
      refine CF.out.mono ?_
      rintro e w5 ⟨A5, c5, rfl, hown5, hb5⟩
      have hra5 := (RdI.of_own hown5).1
      have hB5 := Lib.hid (hb2.trans (hb5.mono hb2.size))
      have hwd5 := Lib.hid (hwd2.out.keep hb5)
      have HO5 := Lib.hid hown5
      have hz5 := hb5.size
      clear k0 k1 k2 CF hb2 hown5
      go_wp2_with fail
      refine (best_any (by omega) hFb.out _ hra5).mono ?_
      rw [HK.out]
      rintro e w6 ⟨rfl, rfl⟩
      go_wp2_with fail
      have hK2 : (K : Int) < 2 ^ 3 := by omega
      refine (Put_yes (n := 3) (by omega) _ (by have := hz5; simp at this; omega) (by omega) (by omega) hK2 hwd5.out).mono ?_
      rintro e w6 ⟨rfl, ho6⟩
      have hb6 := below_w hB5.out hwd5.out ho6 hgW hgW
      have HO6 := Lib.hid (own_writeI HO5.out hwd5.out ho6)
      obtain ⟨v6, hwd6, hc6, _⟩ := ho6
      have hz6 := hc6.size
      clear hc6
      have hwd6 := Lib.hid hwd6
      have HB6 := Lib.hid hb6
      clear hb6 hra5
      go_wp2_with fail
      go_loopg [33] F.length (fun k v33 wx => ∃ (t : Nat) (vx : Value) (ax : List Bool), t + k = F.length ∧ v33 = .int .i64 t ∧ Wtr wx w1.heap.size w1.heap.size vx ax ∧ Hid (ax = (acc ++ Bi.bitsOf K 3) ++ So.manyBits K (F.take t)) ∧ ax.length ≤ acc.length + 3 + 55 * t ∧
        wx.ownsRow (wr.alloc (.cells #[.int .i64 fw, .int .i64 h9, .slice A9 p9.length c9] 48)).heap.size 3 1 (.slice A5 F.length c5) F.length (F.map (Value.int .i64)) ∧ w1.heap.size ≤ wx.heap.size ∧ Below W.heap.size W wx)
      case atStart => exact ⟨0, v6, _, by omega, rfl, hwd6.out, Lib.hid (by simp [So.manyBits]), by simp [Bi.bitsOf_length], HO6.out, by have := hz5; simp at this; omega, HB6.out⟩
      case round =>
        obtain ⟨t, vx, ax, ht, rfl, hwx, hax, haxl, hox, hzx, hbx⟩ := hrel
        by_cases htl : t < F.length
        · have htl' : (t : Int) < (F.length : Int) := by omega
          obtain ⟨b3, o3, rfl, q2⟩ := (RdI.of_own hox).1.at_ htl
          have hx := hFb.out _ (List.getElem_mem htl)
          have hms := Lib.hid (many_snoc (k := K) htl)
          obtain ⟨x, hxe⟩ : ∃ x, F[t] = x := ⟨_, rfl⟩
          rw [hxe] at q2 hx hms
          have hri := rice_may (k := K) hx.1 hx.2 hK7
          have hrl := rice_len hri
          have HWX := Lib.hid hwx
          have HOX := Lib.hid hox
          have HBX := Lib.hid hbx
          have hax9 : ax.length ≤ 999990000 := by omega
          clear hxe hwx hox hbx
          go_wp2_with fail
          refine (PutRice_yes hax9 _ (by omega) hri HWX.out).mono ?_
          rintro e w7 ⟨rfl, ho7⟩
          have hb7 := below_w HBX.out HWX.out ho7 hgW hgW
          have HO7 := Lib.hid (own_writeI HOX.out HWX.out ho7)
          obtain ⟨v7, hwd7, hc7, _⟩ := ho7
          have hz7 := hc7.size
          clear hc7
          have hwd7 := Lib.hid hwd7
          have HB7 := Lib.hid hb7
          clear hb7 q2
          go_wp2_with fail
          go_roundg (F.length - t - 1)
          case measure => omega
          case rel => exact ⟨t + 1, v7, _, by omega, by go_num, hwd7.out, Lib.hid (by rw [hms.out, hax.out, List.append_assoc]), by rw [List.length_append]; omega, HO7.out, by omega, HB7.out⟩
        · obtain rfl : t = F.length := by omega
          have hend : Hid (ax = So.allBits fw ((l.take (j + 1)).map Frm.pix)) := Lib.hid (by rw [hsn.out, hfb.out, hax.out, hacc.out, List.take_length, List.append_assoc])
          have HWX := Lib.hid hwx
          have HBX := Lib.hid hbx
          clear hwx hox hbx
          go_wp2_with fail
          go_roundg (n - j - 1)
          case measure => omega
          case rel => exact ⟨j + 1, vx, ax, by omega, by go_num, HWX.out, hend, by omega, hzx, HBX.out⟩
    · obtain rfl : j = n := by omega
      have hfin : Hid (Bi.pack acc = Bi.pack (So.allBits fw (l.map Frm.pix))) := Lib.hid (by rw [hacc.out, List.take_of_length_le (by have := HN.out; omega)])
      have hl0L : 0 < l.length := by have := HN.out; omega
      obtain ⟨b2, o2, rfl, q0, q1, _⟩ := (HA.out.keep hbel).at_ hl0L
      rw [hf0.out] at q0 q1
      rw [HFW.out] at q0
      simp only [Nat.zero_mul, Nat.add_zero] at q0 q1
      rw [HFW.out] at hw1
      obtain ⟨fh, hfh⟩ : ∃ fh : Nat, f.h = fh := ⟨f.h.toNat, by omega⟩
      rw [hfh] at q1 hh1
      have HFH := Lib.hid hfh
      have hj0 : (0 : Int) < (j : Int) := by omega
      have c1 : IntKind.u8.wrap ((fw : Int) / 8) = (fw : Int) / 8 := IntWalk.u8_in _ (by omega)
      have c2 : IntKind.u8.wrap ((fh : Int) / 8) = (fh : Int) / 8 := IntWalk.u8_in _ (by omega)
      have c3 : IntKind.u8.wrap (j : Int) = (j : Int) := IntWalk.u8_in _ (by omega)
      have c4 : IntKind.i64.wrap ((fw : Int) / 8) = (fw : Int) / 8 := IntWalk.i64_in _ (by omega)
      have c5 : IntKind.i64.wrap ((fh : Int) / 8) = (fh : Int) / 8 := IntWalk.i64_in _ (by omega)
      have hac9 : acc.length ≤ 1000000000 := by omega
      have hpk9 : (Bi.pack acc).length ≤ 1000000000 := by rw [Bi.pack_length]; omega
      have B2 : Below wr.heap.size wr (wr.alloc (.cells #[.int .u8 75, .int .u8 83, .int .u8 ((fw : Int) / 8), .int .u8 ((fh : Int) / 8), .int .u8 j] 5)).drew := ((Below.refl _ _).alloc (Nat.le_refl _) _).drew
      have hol := Lib.hid ((World.ownsRow_lit (base := W.heap.size) (size := 1) (e := 5) wr #[.int .u8 75, .int .u8 83, .int .u8 ((fw : Int) / 8), .int .u8 ((fh : Int) / 8), .int .u8 j] 5 hbel.size (by unfold maxLen; omega) rfl).drew)
      have hlt2 : b2 < wr.heap.size := lt_of_cell q0
      have B1 : Below wr.heap.size wr wr.drew := (Below.refl _ _).drew
      have hbW1 : Below W.heap.size W wr.drew := hbel.drew
      have hbW2 : Below W.heap.size W (wr.alloc (.cells #[.int .u8 75, .int .u8 83, .int .u8 ((fw : Int) / 8), .int .u8 ((fh : Int) / 8), .int .u8 j] 5)).drew := (hbel.alloc hbel.size _).drew
      have hsW := hbel.size
      have henc : encF l = [75, 83, (fw : Int) / 8, (fh : Int) / 8, (j : Int)] ++ Bi.pack acc := by rw [HE.out, HFW.out, HFH.out, hfin.out, HN.out, Int.toNat_natCast]
      have HENC := Lib.hid henc
      clear hfh henc
      go_wp2_with fail
      go_region_held3 (fun W' => W'.cell? ⟨b2, o2, none⟩ = some (.int .i64 fw) ∧ W'.cell? ⟨b2, o2 + 1, none⟩ = some (.int .i64 fh))
        (first
          | go_keep
          | exact hs9
          | exact hs8
          | exact ⟨cell_keep hs8.1 ((Below.refl w8.heap.size w8).alloc (Nat.le_refl _) _), cell_keep hs8.2 ((Below.refl w8.heap.size w8).alloc (Nat.le_refl _) _)⟩
          | fail)
        (first
          | (go_at_call 24; refine (WBytes_any hac9 _ (hwd.out.keep B2)).mono ?_; rintro e w8 ⟨A8, c8, rfl, ho8, hb8⟩; have hs8 := And.intro (cell_keep (cell_keep q0 B2) hb8) (cell_keep (cell_keep q1 B2) hb8); have hz8 := Nat.le_trans B2.size hb8.size; have hbW8 := hbW2.trans (hb8.mono hbW2.size); have hol8 := own_keep hol.out hb8)
          | (go_at_call 24; refine (WBytes_any hac9 _ (hwd.out.keep B1)).mono ?_; rintro e w8 ⟨A8, c8, rfl, ho8, hb8⟩; have hs8 := And.intro (cell_keep (cell_keep q0 B1) hb8) (cell_keep (cell_keep q1 B1) hb8); have hz8 := Nat.le_trans B1.size hb8.size; have hbW8 := hbW1.trans (hb8.mono hbW1.size))
          | (refine step_append_rd _ (by rfl) (.tmp 58) (.tmp 60) _ (by rfl) W.heap.size 5 i0 _ 1 1 Tryz.underlying26 hi hz0 hz1 hz2 rfl (by omega) (.slice (some ⟨wr.heap.size, 0, none⟩) 5 5) 5 _ (by rfl) hol8 A8 _ c8 _ (by rfl) (Rd.of_own ho8) (ints_one .u8 _) (by unfold maxLen; omega) (by omega) (by omega) ?_; intro Bz cap w9 hown9 hgrow9 hB9
             have hs9 := And.intro ((hgrow9.cell_far ⟨b2, o2, none⟩ (by simp only; omega) (by simp [Value.ownBlock]; omega)).trans hs8.1) ((hgrow9.cell_far ⟨b2, o2 + 1, none⟩ (by simp only; omega) (by simp [Value.ownBlock]; omega)).trans hs8.2)
             have HB9 := Lib.hid (hbW8.grown hgrow9 hbW8.size (fun k hk => by simp [Value.ownBlock] at hk; omega))
             have HO9 := Lib.hid hown9)
          | (refine step_append_rd _ (by rfl) (.tmp 58) (.tmp 60) _ (by rfl) W.heap.size 5 i0 _ 1 1 Tryz.underlying26 hi hz0 hz1 hz2 rfl (by omega) (.slice (some ⟨w8.heap.size, 0, none⟩) 5 5) 5 _ (by rfl) (World.ownsRow_lit w8 #[.int .u8 75, .int .u8 83, .int .u8 ((fw : Int) / 8), .int .u8 ((fh : Int) / 8), .int .u8 j] 5 hbW8.size (by unfold maxLen; omega) rfl) A8 _ c8 _ (by rfl) (Rd.of_own (ho8.alloc _)) (ints_one .u8 _) (by unfold maxLen; omega) (by omega) (by simp; omega) ?_; intro Bz cap w9 hown9 hgrow9 hB9
             have hs9 := And.intro ((hgrow9.cell_far ⟨b2, o2, none⟩ (by simp; omega) (by simp [Value.ownBlock]; omega)).trans (cell_keep hs8.1 ((Below.refl w8.heap.size w8).alloc (Nat.le_refl _) _))) ((hgrow9.cell_far ⟨b2, o2 + 1, none⟩ (by simp; omega) (by simp [Value.ownBlock]; omega)).trans (cell_keep hs8.2 ((Below.refl w8.heap.size w8).alloc (Nat.le_refl _) _)))
             have HB9 := Lib.hid ((hbW8.alloc hbW8.size _).grown hgrow9 (by simp; omega) (fun k hk => by simp [Value.ownBlock] at hk; omega))
             have HO9 := Lib.hid hown9)
          | fail)
      all_goals
        clear hown9 hgrow9 hB9 hb8 ho8 hs8 hs9 hbW8 hbW1 hbW2 hol B1 B2 q0 q1 hbel
        go_wp2_with fail
        go_ret2
        have hlen : (encF l).length = 5 + (Bi.pack acc).length := by rw [HENC.out]; simp; omega
        refine ⟨Bz, cap, by rw [hlen]; rfl, ?_, HB9.out⟩
        rw [hlen]
        have h := HO9.out
        rw [HENC.out]
        simpa using h

end Go.Proofs.YtnccebfapihpjaaGreatDoor
