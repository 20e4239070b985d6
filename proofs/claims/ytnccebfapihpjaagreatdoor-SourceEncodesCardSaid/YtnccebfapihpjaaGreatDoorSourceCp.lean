/- Contracts of kinref.CopyFrame and kinref.CopyFrames. -/
import Derived.Test.YtnccebfapihpjaaGreatDoorSourceDf
namespace Go.Proofs.YtnccebfapihpjaaGreatDoor
open Go Go.RowKit Go.Extern.Stop Go.Stop Go.Extern

set_option maxHeartbeats 1000000 in
theorem CopyInts_own {l : List Int} {A : Option Addr} {c : Nat} (hl : l.length * 8 ≤ 140737488355328) (w : World) (ha : RdI .i64 w A l) :
    Calls Tryz.prog 49 #[.slice A l.length c] w (NewI w l) := by
  obtain ⟨i0, hi, hz0, hz1, hz2⟩ := info_parts intInfo
  have HA := Lib.hid ha
  clear ha
  go_enter Tryz.func49, Tryz.ntmps49
  go_wp2_with (at_builtin; refine wpList_append_rd _ rfl (.tmp 3) (.tmp 4) _ rfl w.heap.size 3 i0 _ 1 8 Tryz.underlying46 hi hz0 hz1 hz2 rfl (by omega) (.slice (some ⟨w.heap.size, 0, none⟩) 0 0) 0 [] rfl (own_empty w _ _ _ (Nat.le_refl _)) A l.length c _ rfl (HA.out.alloc _) (ints_one _ _) (by unfold maxLen; omega) (by omega) (by simp) ?_; intro B cap w1 hown1 hg1 hat1; simp only [Nat.zero_add, List.nil_append] at hown1)
  go_ret
  refine ⟨B, cap, by simp, hown1, ?_⟩
  exact ((Below.refl _ _).alloc (Nat.le_refl _) _).grown hg1 (by simp) (fun k hk => by have : w.heap.size = k := by simpa [Value.ownBlock] using hk
                                                                                       omega)

/-- Behind the append of a frame: what stands. -/
theorem own_push {W9 w9 : World} {base B : Nat} {pix : List Int} {AL A8 : Option Addr} {cL c8 : Nat} {l : List Frm}
    (hrow : W9.ownsRow base 48 3 (.slice AL l.length cL) l.length (flatF l)) (hof : OwnF W9 B l) (hpx : W9.ownsRow B 3 1 (.slice A8 pix.length c8) pix.length (pix.map (Value.int .i64)))
    (fw fh : Int) (o : Obj) (hgrow : (W9.alloc o).grownBy w9 (Value.slice AL l.length cL).ownBlock) : OwnF w9 B (l ++ [⟨fw, fh, A8, pix, c8⟩]) := by
  have B0 : Below W9.heap.size W9 (W9.alloc o) := (Below.refl _ _).alloc (Nat.le_refl _) _
  have hc : Chg (fun i => (Value.slice AL l.length cL).ownBlock = some i) (W9.alloc o) w9 := Chg.of_grown hgrow (fun i _ e => e.symm)
  intro f hf
  have key : ∀ f : Frm, W9.ownsRow B 3 1 (.slice f.A f.pix.length f.c) f.pix.length (f.pix.map (Value.int .i64)) → w9.ownsRow B 3 1 (.slice f.A f.pix.length f.c) f.pix.length (f.pix.map (Value.int .i64)) :=
    fun f h => own_chg (own_keep h B0) hc (fun i hi e => own_own (own_keep h B0) (own_keep hrow B0) (by decide) i hi e)
  rcases List.mem_append.1 hf with h | h
  · exact key f (hof f h)
  · simp at h; subst h; exact key _ hpx

/-- A frame's copy. -/
def NewF (W : World) (f : Frm) (e : Ending) (w' : World) : Prop :=
  ∃ A c, e = .returned (.agg #[.int .i64 f.w, .int .i64 f.h, .slice A f.pix.length c]) ∧ w'.ownsRow W.heap.size 3 1 (.slice A f.pix.length c) f.pix.length (f.pix.map (Value.int .i64)) ∧ Below W.heap.size W w'

set_option maxRecDepth 100000 in
set_option maxHeartbeats 1000000 in
theorem CopyFrame_any {f : Frm} (hl : f.pix.length ≤ 1000000) (W : World) (ha : RdI .i64 W f.A f.pix) :
    Calls Tryz.prog 17 #[.agg #[.int .i64 f.w, .int .i64 f.h, .slice f.A f.pix.length f.c]] W (NewF W f) := by
  obtain ⟨w9, h9, A9, p9, c9⟩ := f
  simp only at hl ha ⊢
  have hb1 : Below W.heap.size W (W.alloc (.cells #[.int .i64 w9, .int .i64 h9, .slice A9 p9.length c9] 48)) := (Below.refl _ _).alloc (Nat.le_refl _) _
  have HB2 := Lib.hid (hb1.alloc hb1.size (.cells #[.int .i64 0, .int .i64 0, .slice none 0 0] 48))
  have hZ1 := (Blk.new W 48 #[.int .i64 w9, .int .i64 h9, .slice A9 p9.length c9]).alloc (.cells #[.int .i64 0, .int .i64 0, .slice none 0 0] 48)
  have hZ2 := Blk.new1 W (.cells #[.int .i64 w9, .int .i64 h9, .slice A9 p9.length c9] 48) 48 #[.int .i64 0, .int .i64 0, .slice none 0 0]
  have CC : Hid (∀ W', Below W.heap.size W W' → Calls Tryz.prog 49 #[.slice A9 p9.length c9] W' (NewI W' p9)) := Lib.hid fun W' hW => CopyInts_own (by omega) W' (ha.keep hW)
  obtain ⟨n, hn⟩ : ∃ n, p9.length = n := ⟨_, rfl⟩
  have HN := Lib.hid hn
  have HZ1 := Lib.hid hZ1
  have HZ2 := Lib.hid hZ2
  rw [hn] at HB2 HZ1 HZ2 CC hl ⊢
  clear hb1 ha hZ1 hZ2 hn
  go_enter Tryz.func17, Tryz.ntmps17
  go_wp2_with fail
  have B2 := HB2.out.drew
  obtain ⟨⟨r0, r1, r2⟩, -⟩ := fr_cells HZ1.out
  have hne : ¬ W.heap.size = W.heap.size + 1 := by omega
  go_region_held3 (fun W' => W'.cell? ⟨W.heap.size, 0, none⟩ = some (.int .i64 w9) ∧ W'.cell? ⟨W.heap.size, 1, none⟩ = some (.int .i64 h9) ∧ W'.cell? ⟨W.heap.size, 2, none⟩ = some (.slice A9 n c9))
    (first | go_keep | exact hs8 | exact ⟨cell_chg hs8.1 (fr_set hz8).1 hne, cell_chg hs8.2.1 (fr_set hz8).1 hne, cell_chg hs8.2.2 (fr_set hz8).1 hne⟩ | fail)
    (first
      | (go_at_call 49; refine (CC.out _ B2).mono ?_; unfold NewI; rintro e w8 ⟨A8, c8, rfl, ho8, hb8⟩; have hb8' : Below (W.heap.size + 1 + 1) _ w8 := hb8.mono (by simp); obtain ⟨⟨t0, t1, t2⟩, -⟩ := fr_cells (HZ1.out.drew.keep hb8); have hs8 := And.intro t0 (And.intro t1 t2); have hz8 := HZ2.out.drew.keep hb8; obtain ⟨⟨u0, u1, u2⟩, g0, g1, g2⟩ := fr_cells hz8)
      | fail)
  have hst := fr_set (a' := .int .i64 w9) (b' := .int .i64 h9) (c' := .slice A8 p9.length c8) hz8
  obtain ⟨⟨s0, s1, s2⟩, -⟩ := fr_cells hst.2
  have HO := Lib.hid (own_base (own_chg ho8 hst.1 (fun i hi e => own_notBlk ho8 hz8 (by decide) (by rw [hi, e]))) (show W.heap.size ≤ _ by simp; omega))
  have HBE := Lib.hid ((B2.trans (hb8.mono B2.size)).trans (hst.1.below (B2.trans (hb8.mono B2.size)).size (fun i e => by omega)))
  clear hst hb8 hb8' ho8 hz8
  go_wp2_with fail
  refine bodyPost_ret (v := .agg #[.int .i64 w9, .int .i64 h9, .slice A8 p9.length c8]) (by simp [results, Tryz.results17, go_sem, s0, s1, s2]) rfl ?_
  exact ⟨A8, c8, rfl, HO.out, HBE.out⟩

/-- Frames' copies: rows of their own. -/
def NewFs (W : World) (l : List Frm) (e : Ending) (w' : World) : Prop :=
  ∃ A c m, e = .returned (.slice A l.length c) ∧ m.length = l.length ∧ (∀ i (h : i < m.length) (h' : i < l.length), m[i].w = l[i].w ∧ m[i].h = l[i].h ∧ m[i].pix = l[i].pix) ∧ w'.ownsRow W.heap.size 48 3 (.slice A m.length c) m.length (flatF m) ∧ OwnF w' W.heap.size m ∧ Below W.heap.size W w'

set_option maxRecDepth 100000 in
set_option maxHeartbeats 1000000 in
theorem CopyFrames_any {l : List Frm} {A : Option Addr} {c : Nat} (hl : l.length ≤ 1000) (hp : ∀ f ∈ l, f.pix.length ≤ 1000000) (W : World) (ha : RdF W A l) :
    Calls Tryz.prog 7 #[.slice A l.length c] W (NewFs W l) := by
  obtain ⟨i0, hi, hz0, hz1, hz2⟩ := info_parts frameInfo
  have HA := Lib.hid ha
  have HP := Lib.hid hp
  obtain ⟨n, hn⟩ : ∃ n, l.length = n := ⟨_, rfl⟩
  have HN := Lib.hid hn
  rw [hn] at hl ⊢
  clear ha hp hn
  go_enter Tryz.func7, Tryz.ntmps7
  go_wp2_with fail
  go_loopg [3, 4] n (fun k v3 v4 wr => ∃ (j : Nat) (AL : Option Addr) (cL : Nat) (m : List Frm), j + k = n ∧ v4 = .int .i64 j ∧ v3 = .slice AL m.length cL ∧ Hid (m.length = j) ∧
    Hid (∀ i (h : i < m.length) (h' : i < l.length), m[i].w = l[i].w ∧ m[i].h = l[i].h ∧ m[i].pix = l[i].pix) ∧ wr.ownsRow W.heap.size 48 3 (.slice AL m.length cL) m.length (flatF m) ∧ OwnF wr W.heap.size m ∧ Below W.heap.size W wr)
  case atStart => exact ⟨0, none, 0, [], by omega, rfl, rfl, Lib.hid rfl, Lib.hid (fun i h => by simp at h), ⟨rfl, .inl ⟨rfl, rfl⟩⟩, (fun f hf => by cases hf), Below.refl _ _⟩
  case round =>
    obtain ⟨j, AL, cL, m, hj, rfl, rfl, hml, hms, hrow, hof, hbel⟩ := hrel
    have HROW := Lib.hid hrow
    have HOF := Lib.hid hof
    have HBEL := Lib.hid hbel
    clear hrow hof
    by_cases hlt : j < n
    · obtain ⟨k, rfl⟩ : ∃ k, gk = k + 1 := ⟨gk - 1, by omega⟩
      have hltL : j < l.length := by rw [HN.out]; exact hlt
      have hlt' : (j : Int) < (n : Int) := by omega
      obtain ⟨b2, o2, rfl, y0, y1, y2⟩ := (HA.out.keep hbel).at_ hltL
      obtain ⟨hp1, -⟩ := (HA.out.keep hbel).pix hltL
      have hpb := HP.out _ (List.getElem_mem hltL)
      obtain ⟨f, hf⟩ : ∃ f, l[j] = f := ⟨_, rfl⟩
      have HFJ := Lib.hid hf
      rw [hf] at y0 y1 y2 hp1 hpb
      have CC := Lib.hid (CopyFrame_any hpb wr hp1)
      obtain ⟨w9, h9, A9, p9, c9⟩ := f
      simp only at y0 y1 y2 CC hpb
      have hlj : m.length ≤ 1000 := by have := hml.out; omega
      have hwr := hbel.size
      clear hf hp1 hbel
      go_wp2_with fail
      refine CC.out.mono ?_
      unfold NewF
      rintro e w8 ⟨A8, c8, rfl, ho8, hb8⟩
      simp only at ho8
      have HROW8 := Lib.hid (own_keep HROW.out hb8)
      have HOF8 : Hid (OwnF w8 W.heap.size m) := Lib.hid fun f hf => own_keep (HOF.out f hf) hb8
      have HP8 := Lib.hid (own_base ho8 hwr)
      have HB8 := Lib.hid (HBEL.out.trans (hb8.mono hwr))
      have hs8 : W.heap.size ≤ w8.heap.size := HB8.out.size
      clear ho8 hb8 CC y0 y1 y2
      go_wp2_with (at_builtin; refine wpList_append_lies _ rfl (.tmp 11) (.tmp 17) _ rfl W.heap.size 48 i0 _ 3 40 Tryz.underlying22 hi hz0 hz1 hz2 rfl (by omega) (.slice AL m.length cL) m.length _ rfl (HROW8.out.alloc _) ⟨w8.heap.size, 0, none⟩ 1 1 [.int .i64 w9, .int .i64 h9, .slice A8 p9.length c8] rfl rfl (World.news_of_block (cs := #[.int .i64 w9, .int .i64 h9, .slice A8 p9.length c8]) (t := 48) (fr := (0, 0)) (heap_alloc_new w8 _)) (by simp [Value.oneCell']) (by omega) (by unfold maxLen; omega) (by omega) (by simp; omega) _ rfl ?_; intro gb cap w9' hown9 hgrow9 hat9 hlt9)
      have hfl9 : flatF (m ++ [(⟨w9, h9, A8, p9, c8⟩ : Frm)]) = flatF m ++ [.int .i64 w9, .int .i64 h9, .slice A8 p9.length c8] := by rw [flatF_app]; rfl
      have hln : (m ++ [(⟨w9, h9, A8, p9, c8⟩ : Frm)]).length = m.length + 1 := by simp
      have HFL := Lib.hid hfl9
      have HLN := Lib.hid hln
      have HOWN9 := Lib.hid hown9
      have HOF9 := Lib.hid (own_push HROW8.out HOF8.out HP8.out w9 h9 _ hgrow9)
      have HB9 := Lib.hid ((HB8.out.alloc HB8.out.size (.cells #[.int .i64 w9, .int .i64 h9, .slice A8 p9.length c8] 48)).grown hgrow9 (by simp; omega) (fun z hz => (HROW8.out.lt z hz).1))
      clear hown9 hgrow9 hat9 hfl9 hln
      go_roundg k
      case measure => omega
      case rel =>
        exact ⟨j + 1, some ⟨gb, 0, none⟩, cap, m ++ [⟨w9, h9, A8, p9, c8⟩], by omega, by go_num, by rw [HLN.out], Lib.hid (by rw [HLN.out, hml.out]), Lib.hid (fun i h h' => by
          by_cases hi : i < m.length
          · rw [List.getElem_append_left hi]; exact hms.out i hi h'
          · have hij : i = j := by rw [HLN.out] at h; have := hml.out; omega
            subst hij
            rw [List.getElem_append_right (by omega)]
            simp only [hml.out, Nat.sub_self, List.getElem_cons_zero]
            rw [HFJ.out]
            exact ⟨rfl, rfl, rfl⟩), by rw [HLN.out, HFL.out]; exact HOWN9.out, HOF9.out, HB9.out⟩
    · obtain rfl : j = n := by omega
      obtain rfl : gk = 0 := by omega
      clear hbel
      go_wp2_with fail
      go_ret
      exact ⟨AL, cL, m, by rw [hml.out, HN.out]; rfl, by rw [hml.out, HN.out], hms.out, HROW.out, HOF.out, HBEL.out⟩

end Go.Proofs.YtnccebfapihpjaaGreatDoor
