/- The walk of kinlaw18.VbvRoom: it returns true, whatever the input. -/
import Derived.Test.YthjcidpfiddeeaaDoorVbvPlays
import Derived.BigQuiet
namespace Go.Proofs.YthjcidpfiddeeaaDoor
open Go Go.RowKit Go.Extern.Stop Go.Stop Go.Extern

theorem bucketR_of_ok {may sizes : Bool} {f : Except (Nat × Int) (List Int)} {g : List Int} (h : bucketR may sizes f = .ok g) : may = true ∧ sizes = true ∧ f = .ok g := by
  unfold bucketR at h
  split at h
  · next h1 =>
    split at h
    · next h2 =>
      split at h
      · cases h; exact ⟨h1, h2, rfl⟩
      · cases h
    · cases h
  · cases h

theorem fills_bd {ra ro fi : Int} {l g : List Int} (h : Vb.fills ra ro 0 fi l = .ok g) (hl : ∀ n ∈ l, 0 ≤ n) (h1 : fi ≤ ro) (h2 : 0 ≤ ra) (k : Nat) (hk : k < g.length) : 0 ≤ g[k] ∧ g[k] ≤ ra := by
  have hlen := Vb.fills_length h
  have h3 := (Vb.fills_get h k (by omega) hk).2
  have h4 := Vb.afterF_le (rate := ra) (l.take k) h1
  have h5 := hl l[k] (List.getElem_mem (by omega))
  omega

set_option maxRecDepth 100000 in
set_option maxHeartbeats 1000000 in
theorem VbvRoom_walk {qn qx re cu go ra ro fi mo : Int} {A : Option Addr} {l : List Int} {c : Nat} (hl : l.length ≤ 9223372036854775807) (w : World) (hg : Gl w) (ha : RdI .i64 w A l) :
    Calls Tryd.prog 7 #[.agg #[.int .i64 qn, .int .i64 qx, .int .i64 re, .int .i64 cu, .int .i64 go, .int .i64 ra, .int .i64 ro, .int .i64 fi], .slice A l.length c, .int .i64 mo] w
      fun e w' => e = .returned (.bool true) ∧ Below w.heap.size w w' := by
  have HG := Lib.hid hg
  have HA := Lib.hid ha
  clear hg ha
  have hb0 : Below w.heap.size w (w.alloc (cfgC qn qx re cu go ra ro fi)) := (Below.refl _ _).alloc (Nat.le_refl _) _
  rcases (show (l.length ≤ 5000 ∧ 0 ≤ mo ∧ mo ≤ 16384) ∨ 5000 < l.length ∨ (l.length ≤ 5000 ∧ mo < 0) ∨ (l.length ≤ 5000 ∧ 0 ≤ mo ∧ 16384 < mo) by omega) with ⟨h5, hm0, hm1⟩ | h5 | ⟨h5, h6⟩ | ⟨h5, h6, h7⟩
  rotate_left 1
  iterate 3
    · go_enter Tryd.func7, Tryd.ntmps7
      go_wp2_with fail
      refine (first_true _ (HG.out.keep hb0)).mono ?_
      rintro e w1 ⟨rfl, hb1⟩
      have hbA : Below w.heap.size w w1 := hb0.trans (hb1.mono hb0.size)
      go_wp2_with fail
      refine (first_true _ (HG.out.keep hbA)).mono ?_
      rintro e w2 ⟨rfl, hb2⟩
      go_wp2_with fail
      go_ret
      exact ⟨rfl, hbA.trans (hb2.mono hbA.size)⟩
  · go_enter Tryd.func7, Tryd.ntmps7
    go_wp2_with fail
    refine (first_true _ (HG.out.keep hb0)).mono ?_
    rintro e w1 ⟨rfl, hb1⟩
    have hbA : Below w.heap.size w w1 := hb0.trans (hb1.mono hb0.size)
    have hcf := (Blk.new w 23 #[.int .i64 qn, .int .i64 qx, .int .i64 re, .int .i64 cu, .int .i64 go, .int .i64 ra, .int .i64 ro, .int .i64 fi]).keep hb1
    clear hb1 hb0
    obtain ⟨a0, a1, a2, a3, a4, a5, a6, a7⟩ := cfg_cells hcf
    have hca := hcf.alloc (.cells #[.int .i64 qn, .int .i64 qx, .int .i64 re, .int .i64 cu, .int .i64 go, .int .i64 ra, .int .i64 ro, .int .i64 fi] 23)
    have hda := Blk.new w1 23 #[.int .i64 qn, .int .i64 qx, .int .i64 re, .int .i64 cu, .int .i64 go, .int .i64 ra, .int .i64 ro, .int .i64 fi]
    have hca6 : (w1.alloc (.cells #[.int .i64 qn, .int .i64 qx, .int .i64 re, .int .i64 cu, .int .i64 go, .int .i64 ra, .int .i64 ro, .int .i64 fi] 23)).cell? ⟨w.heap.size, 6, none⟩ = some (.int .i64 ro) := by rw [hca.cell]; rfl
    have hda6 : (w1.alloc (.cells #[.int .i64 qn, .int .i64 qx, .int .i64 re, .int .i64 cu, .int .i64 go, .int .i64 ra, .int .i64 ro, .int .i64 fi] 23)).cell? ⟨w1.heap.size, 6, none⟩ = some (.int .i64 ro) := by rw [hda.cell]; rfl
    have hdf6 := hda.frozen 6
    have hlt1 := hcf.lt
    go_wp2_with fail
    generalize hro2 : wrap64 (ro + mo) = ro2
    have HRO := Lib.hid hro2
    have hdd := Blk.new w1 23 #[.int .i64 qn, .int .i64 qx, .int .i64 re, .int .i64 cu, .int .i64 go, .int .i64 ra, .int .i64 ro2, .int .i64 fi]
    have hbB := hbA.alloc hbA.size (.cells #[.int .i64 qn, .int .i64 qx, .int .i64 re, .int .i64 cu, .int .i64 go, .int .i64 ra, .int .i64 ro2, .int .i64 fi] 23)
    clear hro2 hca hda hca6 hda6 hdf6 a0 a1 a2 a3 a4 a5 a6 a7
    cases hr : bucketR (Vb.mayB qn qx re cu go ra ro fi) (Vb.sizesB l) (Vb.fills ra ro 0 fi l) with
    | error x =>
      obtain ⟨p, k⟩ := x
      have HR := Lib.hid hr
      clear hr
      refine (Fills_any hl _ (HA.out.keep hbB)).mono ?_
      rw [HR.out]
      rintro e w2 ⟨v2, rfl, he2, hb2⟩
      obtain ⟨T, x, rfl⟩ := he2.iface
      have hbC := hbB.trans (hb2.mono hbB.size)
      obtain ⟨a0, a1, a2, a3, a4, a5, a6, a7⟩ := cfg_cells (hdd.keep hb2)
      go_wp2_with fail
      refine (Fills_res hl _ (HA.out.keep hbC)).mono ?_
      rintro e w3 ⟨A3, c3, v3, rfl, _, _, hb3⟩
      have hbD := hbC.trans (hb3.mono hbC.size)
      go_wp2_with fail
      refine (first_true _ (HG.out.keep hbD)).mono ?_
      rintro e w4 ⟨rfl, hb4⟩
      go_wp2_with fail
      go_ret
      exact ⟨rfl, hbD.trans (hb4.mono hbD.size)⟩
    | ok g =>
      obtain ⟨hmay, hsz, hf⟩ := bucketR_of_ok hr
      have HR := Lib.hid hr
      clear hr
      refine (Fills_any hl _ (HA.out.keep hbB)).mono ?_
      rw [HR.out]
      rintro e w2 ⟨A2, c2, rfl, hg2, hb2⟩
      have hbC := hbB.trans (hb2.mono hbB.size)
      have hdd2 := hdd.keep hb2
      obtain ⟨a0, a1, a2, a3, a4, a5, a6, a7⟩ := cfg_cells hdd2
      go_wp2_with fail
      cases hmay2 : Vb.mayB qn qx re cu go ra ro2 fi with
      | false =>
        have HM := Lib.hid hmay2
        clear hmay2
        refine (Fills_res hl _ (HA.out.keep hbC)).mono ?_
        rintro e w3 ⟨A3, c3, v3, rfl, _, _, hb3⟩
        have hbD := hbC.trans (hb3.mono hbC.size)
        clear a0 a1 a2 a3 a4 a5 a6 a7
        obtain ⟨a0, a1, a2, a3, a4, a5, a6, a7⟩ := cfg_cells (hdd2.keep hb3)
        go_wp2_with fail
        refine (May_any _).mono ?_
        rw [HM.out]
        rintro e w4 ⟨rfl, hb4⟩
        have hbE := hbD.trans (hb4.mono hbD.size)
        go_wp2_with fail
        refine (first_true _ (HG.out.keep hbE)).mono ?_
        rintro e w5 ⟨rfl, hb5⟩
        go_wp2_with fail
        go_ret
        exact ⟨rfl, hbE.trans (hb5.mono hbE.size)⟩
      | true =>
        have hm1' := mayB_of hmay
        have hm2' := mayB_of hmay2
        obtain ⟨_, _, _, _, _, _, _, _, _, hn1, hn2, hn3, hn4, hn5⟩ := hm1'
        obtain ⟨_, _, _, _, _, _, _, _, _, _, hp2, hp3, _, hp5⟩ := hm2'
        have hro : ro2 = ro + mo := by rw [← HRO.out]; unfold wrap64; omega
        obtain ⟨g', hf', hsum⟩ := Vb.fills_room (room' := ro2) (by omega) hf
        have hs := sizesB_of hsz
        have hgl := Vb.fills_length hf
        have hgl' := Vb.fills_length hf'
        have hbd := fills_bd hf (fun n hn => (hs.2 n hn).1) hn5 (by omega)
        have hbd' := fills_bd hf' (fun n hn => (hs.2 n hn).1) hp5 (by omega)
        have HR2 := Lib.hid (show bucketR (Vb.mayB qn qx re cu go ra ro2 fi) (Vb.sizesB l) (Vb.fills ra ro2 0 fi l) = .ok g' by rw [hmay2, hsz, hf']; rfl)
        have HM := Lib.hid hmay2
        have HB := Lib.hid (And.intro hbd (And.intro hbd' hsum))
        have HL := Lib.hid (And.intro hgl hgl')
        have hne : ((g'.length : Int) != (g.length : Int)) = false := by rw [hgl, hgl']; simp
        clear hmay2 hmay hsz hf hf' hsum hs hbd hbd' hgl hgl' hro
        refine (Fills_any hl _ (HA.out.keep hbC)).mono ?_
        rw [HR2.out]
        rintro e w3 ⟨A3, c3, rfl, hg3, hb3⟩
        have hbD := hbC.trans (hb3.mono hbC.size)
        clear a0 a1 a2 a3 a4 a5 a6 a7
        obtain ⟨a0, a1, a2, a3, a4, a5, a6, a7⟩ := cfg_cells (hdd2.keep hb3)
        go_wp2_with fail
        refine (May_any _).mono ?_
        rw [HM.out]
        rintro e w4 ⟨rfl, hb4⟩
        have hbE := hbD.trans (hb4.mono hbD.size)
        have hg24 := (hg2.keep hb3).keep hb4
        have hg34 := hg3.keep hb4
        clear a0 a1 a2 a3 a4 a5 a6 a7
        go_wp2_with fail
        go_loopg [12, 13, 14] g.length (fun k va vb vi wr => ∃ (j n : Nat) (a b : Int), j + k = g.length ∧ vi = .int .i64 j ∧ va = .int .i64 a ∧ vb = .int .i64 b ∧ 0 ≤ a ∧ a ≤ j * 16384 ∧ 0 ≤ b ∧ b ≤ j * 16384 ∧ Hid (a = Vb.sumL (g.take j) ∧ b = Vb.sumL (g'.take j)) ∧ wr = w4.drewN n)
        case atStart => exact ⟨0, 0, 0, 0, by omega, rfl, rfl, rfl, by omega, by omega, by omega, by omega, ⟨rfl, rfl⟩, rfl⟩
        case round =>
          obtain ⟨j, n, a, b, hj, rfl, rfl, rfl, ha0, ha1, hb0', hb1', hab, rfl⟩ := hrel
          have hg5 : g.length ≤ 5000 := by have := HL.out; omega
          by_cases hlt : j < g.length
          · have hlt3 : j < g'.length := by have := HL.out; omega
            obtain ⟨b2, o2, rfl, k2⟩ := hg24.at_ hlt
            obtain ⟨b3, o3, rfl, k3⟩ := hg34.at_ hlt3
            have hlt' : (j : Int) < (g.length : Int) := by omega
            have hlt3' : (j : Int) < (g'.length : Int) := by omega
            obtain ⟨hy0, hy1⟩ := HB.out.1 j hlt
            obtain ⟨hz0, hz1⟩ := HB.out.2.1 j hlt3
            have hs1 := Vb.sumL_snoc g j hlt
            have hs2 := Vb.sumL_snoc g' j hlt3
            have hs3 := HB.out.2.2 (j + 1) (by have := HL.out; omega)
            rw [← hab.out.1] at hs1
            rw [← hab.out.2] at hs2
            obtain ⟨y, hy⟩ : ∃ y, g[j] = y := ⟨_, rfl⟩
            obtain ⟨z, hz⟩ : ∃ z, g'[j] = z := ⟨_, rfl⟩
            rw [hy] at k2 hy0 hy1 hs1
            rw [hz] at k3 hz0 hz1 hs2
            have hle : b + z ≤ a + y := by omega
            have HS := Lib.hid (And.intro hs1 hs2)
            clear hy hz hs1 hs2 hs3
            go_wp2_with fail
            go_quiet (fail)
            go_wp2_with fail
            go_roundg (gk - 1)
            case measure => omega
            case rel => exact ⟨j + 1, n + nq, a + y, b + z, by omega, by go_num, rfl, rfl, by omega, by omega, by omega, by omega, ⟨HS.out.1.symm, HS.out.2.symm⟩, rfl⟩
          · go_wp2_with fail
            refine (first_true _ (HG.out.keep (below_drewN hbE n))).mono ?_
            rintro e w5 ⟨rfl, hb5⟩
            go_wp2_with fail
            go_ret
            exact ⟨rfl, (below_drewN hbE n).trans (hb5.mono (below_drewN hbE n).size)⟩

end Go.Proofs.YthjcidpfiddeeaaDoor
