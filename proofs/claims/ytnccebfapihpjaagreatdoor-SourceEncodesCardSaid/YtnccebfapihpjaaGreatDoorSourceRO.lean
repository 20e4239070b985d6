/- Contract of kinref15.Encode: frames that may be. -/
import Derived.Test.YtnccebfapihpjaaGreatDoorSourceRN
import Derived.Test.YtnccebfapihpjaaGreatDoorSourceEnc
import Derived.Test.YtnccebfapihpjaaGreatDoorCodesRW
import Derived.Test.YtnccebfapihpjaaGreatDoorQuietTail
namespace Go.Proofs.YtnccebfapihpjaaGreatDoor
open Go Go.RowKit Go.Extern.Stop Go.Stop Go.Extern

theorem own_rwriteI {w w' : World} {B B' g n size : Nat} {v u : Value} {l m : List Bool} {xs : List Value} (h : w.ownsRow B' 3 size u n xs) (hw : RWtr w B g v l) (ho : RWOut w B g v m w') : w'.ownsRow B' 3 size u n xs := by
  obtain ⟨_, _, hc, _⟩ := ho
  refine own_chg h hc (fun i hi hS => ?_)
  rcases hS with rfl | e
  · exact own_notBlk h hw.1 (by decide) hi
  · exact own_own h hw.2 (by decide) i hi e
theorem blk_rwrite {w w' : World} {B g z : Nat} {v : Value} {l m : List Bool} {cs : Array Value} (h : Blk w z 34 cs) (hw : RWtr w B g v l) (ho : RWOut w B g v m w') : Blk w' z 34 cs := by
  obtain ⟨_, _, hc, _⟩ := ho
  refine h.chg hc (fun hS => ?_)
  rcases hS with e | e
  · exact Blk.apart h hw.1 (by decide) e
  · exact own_notBlk hw.2 h (by decide) e

/-- What the document's Encode answers of frames that may be. -/
def REncOk (W : World) (b : List Int) (e : Ending) (w' : World) : Prop :=
  ∃ A c, e = .returned (.tuple #[.slice A b.length c, .agg #[.int .i64 0, .slice none 0 0]]) ∧ RdI .u8 w' A b ∧ Below W.heap.size W w'

set_option maxRecDepth 100000 in
set_option maxHeartbeats 4000000 in
theorem REncode_ok {l : List Frm} {A : Option Addr} {c : Nat} (W : World) (ha : RdF W A l) (h0 : checkF l = 0) :
    Calls Tryz.prog 9 #[.slice A l.length c] W (REncOk W (encF l)) := by
  obtain ⟨i0, hi, hz0, hz1, hz2⟩ := info_parts u8Info
  obtain ⟨f, r, hfr, hall, h16⟩ := check_zero h0
  have HA := Lib.hid ha
  have HALL := Lib.hid hall
  have hb0 : Below W.heap.size W (W.alloc (.cells #[.int .i64 0, .slice none 0 0] 34)) := (Below.refl _ _).alloc (Nat.le_refl _) _
  have hZ0 := Blk.new W 34 #[.int .i64 0, .slice none 0 0]
  have HB0 := Lib.hid hb0
  have HZ0 := Lib.hid hZ0
  have hl0 : 0 < l.length := by rw [hfr]; simp
  have hf0 : Hid (l[0] = f) := Lib.hid (by subst hfr; rfl)
  have HE : Hid (encF l = [75, 83, f.w / 8, f.h / 8, (l.length : Int)] ++ Bi.pack (So.allBits f.w.toNat (l.map Frm.pix))) := Lib.hid (by subst hfr; rfl)
  obtain ⟨hw1, hh1, -, -, -⟩ := may_bd ((hall f (by rw [hfr]; simp)).1)
  obtain ⟨fw, hfw⟩ : ∃ fw : Nat, f.w = fw := ⟨f.w.toNat, by omega⟩
  obtain ⟨fh, hfh⟩ : ∃ fh : Nat, f.h = fh := ⟨f.h.toNat, by omega⟩
  obtain ⟨n, hn⟩ : ∃ n, l.length = n := ⟨_, rfl⟩
  have HN := Lib.hid hn
  have HFW := Lib.hid hfw
  have HFH := Lib.hid hfh
  rw [hn] at h16 hl0 ⊢
  rw [hfw] at hw1
  rw [hfh] at hh1
  clear ha hall hfr h0 hn hfw hfh hb0 hZ0
  have hn2 : ((n : Int) == 0) = false := by rw [beq_eq_false_iff_ne]; omega
  go_enter Tryz.func9, Tryz.ntmps9
  go_wp2_with fail
  go_loopg [4] n (fun k v4 wr => ∃ j : Nat, j + k = n ∧ v4 = .int .i64 j ∧ Blk wr W.heap.size 34 #[.int .i64 0, .slice none 0 0] ∧ Below W.heap.size W wr)
  case atStart => exact ⟨0, by omega, rfl, HZ0.out, HB0.out⟩
  case round =>
    obtain ⟨j, hj, rfl, hzr, hbel⟩ := hrel
    have HZR := Lib.hid hzr
    have HBEL := Lib.hid hbel
    by_cases hlt : j < n
    · have hltL : j < l.length := by have := HN.out; omega
      have hlt' : (j : Int) < (n : Int) := by omega
      obtain ⟨b2, o2, rfl, k0, k1, k2⟩ := (HA.out.keep hbel).at_ hltL
      obtain ⟨hp1, hp2⟩ := (HA.out.keep hbel).pix hltL
      have hm : mayF l[j].w l[j].h l[j].pix = true := (HALL.out _ (List.getElem_mem hltL)).1
      obtain ⟨fj, hfj⟩ : ∃ fj, l[j] = fj := ⟨_, rfl⟩
      rw [hfj] at k0 k1 k2 hp1 hp2 hm
      clear hfj
      obtain ⟨w1, h1, A1, p1, c1⟩ := fj
      simp only at k0 k1 k2 hp1 hp2 hm
      have CM := Lib.hid (RMay_any (fw := w1) (fh := h1) (c := c1) hp2 _ hp1)
      rw [hm] at CM
      clear hzr hbel hp1 hp2 hm
      go_wp2_with fail
      refine CM.out.mono ?_
      rintro e w' ⟨rfl, rfl⟩
      have HB2 := Lib.hid (HBEL.out.alloc HBEL.out.size (.cells #[.int .i64 w1, .int .i64 h1, .slice A1 p1.length c1] 48))
      have HZ2 := Lib.hid (HZR.out.alloc (.cells #[.int .i64 w1, .int .i64 h1, .slice A1 p1.length c1] 48))
      clear k0 k1 k2
      go_wp2_with fail
      go_roundg (gk - 1)
      case measure => omega
      case rel => exact ⟨j + 1, by omega, by go_num, HZ2.out, HB2.out⟩
    · obtain rfl : j = n := by omega
      clear hzr hbel
      go_wp2_with fail
      go_loopg [5] j (fun k v5 wr => ∃ i : Nat, i + k = j ∧ v5 = .int .i64 i ∧ Blk wr W.heap.size 34 #[.int .i64 0, .slice none 0 0] ∧ Below W.heap.size W wr)
      case atStart => exact ⟨0, by omega, rfl, HZR.out, HBEL.out⟩
      case round =>
        obtain ⟨i, hi', rfl, hzr, hbel⟩ := hrel
        have HZ1 := Lib.hid hzr
        have HB1 := Lib.hid hbel
        by_cases hlt : i < j
        · have hltL : i < l.length := by have := HN.out; omega
          have h0L : 0 < l.length := by have := HN.out; omega
          have hlt' : (i : Int) < (j : Int) := by omega
          have hj0 : (0 : Int) < (j : Int) := by omega
          obtain ⟨b3, o3, rfl, k0, k1, -⟩ := (HA.out.keep hbel).at_ hltL
          obtain ⟨b4, o4, hA4, q0, q1, -⟩ := (HA.out.keep hbel).at_ h0L
          obtain ⟨rfl, rfl⟩ : b3 = b4 ∧ o3 = o4 := by injection hA4 with h; injection h with h1 h2; exact ⟨h1, h2⟩
          obtain ⟨-, e1, e2⟩ := HALL.out _ (List.getElem_mem hltL)
          rw [hf0.out, HFW.out] at q0
          rw [hf0.out, HFH.out] at q1
          simp only [Nat.zero_mul, Nat.add_zero] at q0 q1
          rw [e1, HFW.out] at k0
          rw [e2, HFH.out] at k1
          clear hA4 e1 e2 hzr hbel
          have e1 : ((fw : Int) != (fw : Int)) = false := by simp
          have e2 : ((fh : Int) != (fh : Int)) = false := by simp
          go_wp2_with fail
          go_quiet (fail)
          go_wp2_with fail
          go_roundg (j - i - 1)
          case measure => omega
          case rel => exact ⟨i + 1, by omega, by go_num, HZ1.out.drewN _, below_drewN HB1.out _⟩
        · obtain rfl : i = j := by omega
          have hw0 := RWtr.new wr wr.heap.size
          have hbW := HB1.out.alloc HB1.out.size (.cells #[.slice none 0 0] 64)
          have HW0 := Lib.hid hw0
          have HBW := Lib.hid hbW
          have HZ3 := Lib.hid (HZ1.out.alloc (.cells #[.slice none 0 0] 64))
          have hgW := hbel.size
          have hle16 : (i : Int) ≤ 16 := by omega
          obtain ⟨B0, hB0⟩ : ∃ B0, wr.heap.size = B0 := ⟨_, rfl⟩
          have hBB : B0 ≤ (wr.alloc (.cells #[.slice none 0 0] 64)).heap.size := by rw [← hB0]; simp
          rw [hB0] at HW0 hgW
          clear hw0 hbW hzr hbel
          go_wp2_with fail
          clear hB0
          go_loopg [7] i (fun k v7 wx => ∃ (j : Nat) (v : Value) (acc : List Bool), j + k = i ∧ v7 = .int .i64 j ∧ RWtr wx B0 B0 v acc ∧ Hid (acc = So.allBits fw ((l.take j).map Frm.pix)) ∧ acc.length ≤ j * 56323 ∧ B0 ≤ wx.heap.size ∧
            Blk wx W.heap.size 34 #[.int .i64 0, .slice none 0 0] ∧ Below W.heap.size W wx)
          case atStart => exact ⟨0, _, [], by omega, rfl, HW0.out, Lib.hid rfl, by simp, hBB, HZ3.out, HBW.out⟩
          case round =>
            obtain ⟨j, v, acc, hj, rfl, hwr, hacc, hal, hsz, hzx, hbel⟩ := hrel
            have hwd := Lib.hid hwr
            have HZX := Lib.hid hzx
            have HBELX := Lib.hid hbel
            clear hwr hzx
            by_cases hlt : j < i
            · have hltL : j < l.length := by have := HN.out; omega
              have hlt' : (j : Int) < (i : Int) := by omega
              obtain ⟨b2, o2, rfl, k0, k1, k2⟩ := (HA.out.keep hbel).at_ hltL
              obtain ⟨hp1, hp2⟩ := (HA.out.keep hbel).pix hltL
              obtain ⟨hm1, hm2, hm3⟩ := HALL.out _ (List.getElem_mem hltL)
              have hsn := Lib.hid (all_snoc fw hltL)
              obtain ⟨fj, hfj⟩ : ∃ fj, l[j] = fj := ⟨_, rfl⟩
              rw [hfj] at k0 k1 k2 hp1 hp2 hm1 hm2 hm3 hsn
              obtain ⟨hq1, hq2, hq3, hq4, hq5⟩ := may_bd hm1
              obtain ⟨w9, h9, A9, p9, c9⟩ := fj
              simp only at k0 k1 k2 hp1 hp2 hq1 hq3 hq4 hq5 hm2 hm3 hsn
              obtain rfl : w9 = (fw : Int) := hm2.trans HFW.out
              obtain rfl : h9 = (fh : Int) := hm3.trans HFH.out
              have hpl : p9.length = fw * fh := by
                have h1 : (p9.length : Int) = ((fw * fh : Nat) : Int) := by rw [hq3]; simp
                exact Int.ofNat_inj.1 h1
              have hKb := So.bestK_bd (So.folds p9 fw)
              have hFl := folds_length p9 fw
              have hFb := Lib.hid (folds_bd hq5 fw)
              have hfb : Hid (So.frameBits p9 fw = Bi.bitsOf (So.bestK (So.folds p9 fw)) 3 ++ So.manyBits (So.bestK (So.folds p9 fw)).toNat (So.folds p9 fw)) := Lib.hid rfl
              have CF := Lib.hid (rfolds_any (L := p9) (A := A9) (c := c9) (fw := fw) (fh := fh) (by omega) hpl (by omega) hq5 (by omega) _ hp1)
              obtain ⟨F, hF⟩ : ∃ F, So.folds p9 fw = F := ⟨_, rfl⟩
              rw [hF] at hKb hFl hFb hfb CF
              obtain ⟨K, hK⟩ : ∃ K : Nat, So.bestK F = K := ⟨(So.bestK F).toNat, by omega⟩
              rw [hK] at hKb hfb
              have HK := Lib.hid hK
              simp only [Int.toNat_natCast] at hfb
              have hF9 : F.length ≤ 1024 := by omega
              have hK7 : K ≤ 7 := by omega
              have hsb := hbel.size
              obtain ⟨B5, hB5'⟩ : ∃ B5, wr.heap.size = B5 := ⟨_, rfl⟩
              clear hfj hm1 hm2 hm3 hp1 hp2 hq3 hq5 hF hFl hK hKb hpl hbel
              go_wp2_with fail
              refine CF.out.mono ?_
              unfold NewI
              rintro e w5 ⟨A5, c5, rfl, hown5, hb5⟩
              have hra5 := (RdI.of_own hown5).1
              have hB5 := Lib.hid (HBELX.out.trans (hb5.mono hsb))
              have hwd5 := Lib.hid (hwd.out.keep hb5)
              rw [hB5'] at hown5
              have HO5 := Lib.hid hown5
              have HZ5 := Lib.hid (HZX.out.keep hb5)
              have hz5 := hb5.size
              rw [hB5'] at hz5 hsb hsz
              clear hB5'
              clear k0 k1 k2 CF hown5 hb5
              go_wp2_with fail
              refine (least_any (by omega) hFb.out _ hra5).mono ?_
              rw [HK.out]
              rintro e w6 ⟨rfl, rfl⟩
              go_wp2_with fail
              have hK2 : (K : Int) < 2 ^ 3 := by omega
              refine (RPut_yes (n := 3) (by omega) _ (by omega) (by omega) (by omega) hK2 hwd5.out).mono ?_
              rintro e w6 ⟨rfl, ho6⟩
              have hb6 := below_rw hB5.out hwd5.out ho6 hgW hgW
              have HO6 := Lib.hid (own_rwriteI HO5.out hwd5.out ho6)
              have HZ6 := Lib.hid (blk_rwrite HZ5.out hwd5.out ho6)
              obtain ⟨v6, hwd6, hc6, _⟩ := ho6
              have hz6 := hc6.size
              clear hc6
              have hwd6 := Lib.hid hwd6
              have HB6 := Lib.hid hb6
              clear hb6 hra5
              go_wp2_with fail
              go_loopg [10] F.length (fun k v10 wy => ∃ (t : Nat) (vx : Value) (ax : List Bool), t + k = F.length ∧ v10 = .int .i64 t ∧ RWtr wy B0 B0 vx ax ∧ Hid (ax = (acc ++ Bi.bitsOf K 3) ++ So.manyBits K (F.take t)) ∧ ax.length ≤ acc.length + 3 + 55 * t ∧
                wy.ownsRow B5 3 1 (.slice A5 F.length c5) F.length (F.map (Value.int .i64)) ∧ B0 ≤ wy.heap.size ∧ Blk wy W.heap.size 34 #[.int .i64 0, .slice none 0 0] ∧ Below W.heap.size W wy)
              case atStart => exact ⟨0, v6, _, by omega, rfl, hwd6.out, Lib.hid (by simp [So.manyBits]), by simp [Bi.bitsOf_length], HO6.out, by omega, HZ6.out, HB6.out⟩
              case round =>
                obtain ⟨t, vx, ax, ht, rfl, hwx, hax, haxl, hox, hzy, hzb, hbx⟩ := hrel
                by_cases htl : t < F.length
                · have htl' : (t : Int) < (F.length : Int) := by omega
                  obtain ⟨b3, o3, rfl, q2⟩ := (RdI.of_own hox).1.at_ htl
                  have hx := hFb.out _ (List.getElem_mem htl)
                  have hms := Lib.hid (many_snoc (k := K) htl)
                  obtain ⟨x, hxe⟩ : ∃ x, F[t] = x := ⟨_, rfl⟩
                  rw [hxe] at q2 hx hms
                  have hri := rice_may (k := K) hx.1 hx.2 hK7
                  have hrl := rice_len hri
                  have HWX := Lib.hid hwx
                  have HOX := Lib.hid hox
                  have HBX := Lib.hid hbx
                  have HZB := Lib.hid hzb
                  have hax9 : ax.length ≤ 999990000 := by omega
                  clear hxe hwx hox hbx hzb
                  go_wp2_with fail
                  refine (RPutRice_yes hax9 _ (by omega) hri HWX.out).mono ?_
                  rintro e w7 ⟨rfl, ho7⟩
                  have hb7 := below_rw HBX.out HWX.out ho7 hgW hgW
                  have HO7 := Lib.hid (own_rwriteI HOX.out HWX.out ho7)
                  have HZ7 := Lib.hid (blk_rwrite HZB.out HWX.out ho7)
                  obtain ⟨v7, hwd7, hc7, _⟩ := ho7
                  have hz7 := hc7.size
                  clear hc7
                  have hwd7 := Lib.hid hwd7
                  have HB7 := Lib.hid hb7
                  clear hb7 q2
                  go_wp2_with fail
                  go_roundg (F.length - t - 1)
                  case measure => omega
                  case rel => exact ⟨t + 1, v7, _, by omega, by go_num, hwd7.out, Lib.hid (by rw [hms.out, hax.out, List.append_assoc]), by rw [List.length_append]; omega, HO7.out, by omega, HZ7.out, HB7.out⟩
                · obtain rfl : t = F.length := by omega
                  have hend : Hid (ax = So.allBits fw ((l.take (j + 1)).map Frm.pix)) := Lib.hid (by rw [hsn.out, hfb.out, hax.out, hacc.out, List.take_length, List.append_assoc])
                  have HWX := Lib.hid hwx
                  have HBX := Lib.hid hbx
                  have HZB := Lib.hid hzb
                  clear hwx hox hbx hzb
                  go_wp2_with fail
                  go_roundg (i - j - 1)
                  case measure => omega
                  case rel => exact ⟨j + 1, vx, ax, by omega, by go_num, HWX.out, hend, by omega, hzy, HZB.out, HBX.out⟩
            · obtain rfl : j = i := by omega
              have hfin : Hid (Bi.pack acc = Bi.pack (So.allBits fw (l.map Frm.pix))) := Lib.hid (by rw [hacc.out, List.take_of_length_le (by have := HN.out; omega)])
              have h0L : 0 < l.length := by have := HN.out; omega
              obtain ⟨b2, o2, rfl, q0, q1, -⟩ := (HA.out.keep hbel).at_ h0L
              rw [hf0.out, HFW.out] at q0
              rw [hf0.out, HFH.out] at q1
              simp only [Nat.zero_mul, Nat.add_zero] at q0 q1
              have c1 : IntKind.u8.wrap ((fw : Int) / 8) = (fw : Int) / 8 := IntWalk.u8_in _ (by omega)
              have c2 : IntKind.u8.wrap ((fh : Int) / 8) = (fh : Int) / 8 := IntWalk.u8_in _ (by omega)
              have c3 : IntKind.u8.wrap (j : Int) = (j : Int) := IntWalk.u8_in _ (by omega)
              have c4 : IntKind.i64.wrap ((fw : Int) / 8) = (fw : Int) / 8 := IntWalk.i64_in _ (by omega)
              have c5 : IntKind.i64.wrap ((fh : Int) / 8) = (fh : Int) / 8 := IntWalk.i64_in _ (by omega)
              have hac9 : acc.length ≤ 1000000000 := by omega
              have hj0 : (0 : Int) < (j : Int) := by omega
              have hj1 : 0 < j := by omega
              have hpk9 : (Bi.pack acc).length ≤ 1000000000 := by rw [Bi.pack_length]; omega
              have henc : encF l = [75, 83, (fw : Int) / 8, (fh : Int) / 8, (j : Int)] ++ Bi.pack acc := by rw [HE.out, HFW.out, HFH.out, hfin.out, HN.out, Int.toNat_natCast]
              have HENC := Lib.hid henc
              have G0 := fun p : Go.Regrown => Go.cell_regrown q0 p.d p.os
              have G1 := fun p : Go.Regrown => Go.cell_regrown q1 p.d p.os
              clear henc hbel
              go_wp2_with fail
              (refine hqt_start 15 (by kernel_rfl) (by kernel_rfl) ?_; simp only [List.take_succ_cons, List.take_zero, List.drop_succ_cons, List.drop_zero]; (repeat (refine hq_step (fun K hK => ?_); go_simp; first | (refine hK _ ?_; clear hK K) | (apply Exists.intro; refine ⟨fun _ => ?_, hK _ ?_⟩; (focus (fail)); clear hK K))); (refine hq_nil ?_))
              intro wq hwq
              have hbq := hwq.below
              have hwr : W.heap.size < wr.heap.size := HZX.out.lt
              have hbW := HBELX.out.trans (hbq.mono HBELX.out.size)
              have hsq := hbq.size
              have al : Below wq.heap.size wq (wq.alloc (.cells #[.int .u8 75, .int .u8 83, .int .u8 ((fw : Int) / 8), .int .u8 ((fh : Int) / 8), .int .u8 j] 5)) := (Below.refl _ _).alloc (Nat.le_refl _) _
              have hol := World.ownsRow_lit (base := W.heap.size) (size := 1) (e := 5) wq #[.int .u8 75, .int .u8 83, .int .u8 ((fw : Int) / 8), .int .u8 ((fh : Int) / 8), .int .u8 j] 5 hbW.size (by unfold maxLen; omega) rfl
              have CB := Lib.hid (RBytes_any hac9 _ ((hwd.out.keep hbq).keep al))
              have HZY := Lib.hid ((HZX.out.keep hbq).keep al)
              have HBY := Lib.hid (hbW.trans (al.mono hbW.size))
              have HOL := Lib.hid hol
              clear G0 G1 q0 q1 hwq hbq hbW al hol c1 c2 c3 c4 c5
              go_wp2_with fail
              refine CB.out.mono ?_
              unfold NewB
              rintro e w8 ⟨A8, c8, rfl, ho8, hb8⟩
              have hol8 := own_keep HOL.out hb8
              have hrd8 := Rd.of_own ho8
              have HZ8 := Lib.hid (HZY.out.keep hb8)
              have HB8 := Lib.hid (HBY.out.trans (hb8.mono HBY.out.size))
              have hs8 := HB8.out.size
              clear ho8 hb8 CB
              go_wp2_with (at_builtin; refine wpList_append_rd _ rfl (.tmp 109) (.tmp 111) _ rfl W.heap.size 5 i0 _ 1 1 Tryz.underlying26 hi hz0 hz1 hz2 rfl (by omega) (.slice (some ⟨wq.heap.size, 0, none⟩) 5 5) 5 _ rfl hol8 A8 _ c8 _ rfl hrd8 (ints_one .u8 _) (by unfold maxLen; omega) (by omega) (by omega) ?_; intro Bz cap w9 hown9 hgrow9 hB9; have hz9 := HZ8.out.grown hgrow9 (by simp [Value.ownBlock]; omega); obtain ⟨⟨r0, r1⟩, f0, f1⟩ := er_cells hz9)
              obtain ⟨hc3, hr3⟩ := er_set (a' := .int .i64 0) (b' := .slice none 0 0) hz9
              obtain ⟨⟨s0, s1⟩, _⟩ := er_cells hr3
              have hlen : (encF l).length = 5 + (Bi.pack acc).length := by rw [HENC.out]; simp; omega
              have HB9 := Lib.hid ((HB8.out.grown hgrow9 hs8 (fun k hk => by simp [Value.ownBlock] at hk; omega)).trans (hc3.below (HB8.out.grown hgrow9 hs8 (fun k hk => by simp [Value.ownBlock] at hk; omega)).size (fun i e => by omega)))
              have hrd9 : RdI .u8 w9 Bz (encF l) := by
                have h := Rd.of_own hown9
                unfold RdI
                rw [hlen, HENC.out]
                simpa using h
              refine bodyPost_ret (v := .tuple #[.slice Bz (encF l).length cap, .agg #[.int .i64 0, .slice none 0 0]]) (by rw [hlen]; simp [results, Tryz.results9, go_sem, s0, s1]) rfl ?_
              exact ⟨Bz, cap, rfl, hrd9.chg0 hc3 (fun p hp _ e => by
                obtain ⟨g9, cap9, hv9, -, -, -, -, -⟩ := own_form hown9 (by omega)
                have hb : Bz = some ⟨g9, 0, none⟩ := by injection hv9
                subst hb
                injection hp with hp
                subst hp
                exact own_notBlk hown9 hz9 (by decide) (by rw [show g9 = W.heap.size from e]; rfl)), HB9.out⟩

end Go.Proofs.YtnccebfapihpjaaGreatDoor
