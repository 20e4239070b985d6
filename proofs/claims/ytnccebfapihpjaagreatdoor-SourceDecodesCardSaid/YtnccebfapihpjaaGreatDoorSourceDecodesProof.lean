/- For every input the law SourceDecodes returns true and leaves its arguments as they were. Conditions: the listed variables (errors.errorType, internal/strconv.uint64pow10, math/bits.deBruijn32tab, math/bits.deBruijn64tab) read as listed (the card ties that to the program's text); what the form itself asks of every input (each slice takes at most 2^47 - 4096 bytes). -/
import Derived.Test.YtnccebfapihpjaaGreatDoorSourceDf
import Derived.Test.YtnccebfapihpjaaGreatDoorFaultText2
import Derived.Lib.SlBytesConst
import Derived.Test.YtnccebfapihpjaaGreatDoorFrames
import Derived.Test.YtnccebfapihpjaaGreatDoorQuietTail
import Derived.Test.YtnccebfapihpjaaGreatDoorSourceRG
import Derived.Test.YtnccebfapihpjaaGreatDoorRowF
import Derived.Test.YtnccebfapihpjaaGreatDoorTie
import Derived.Test.YtnccebfapihpjaaGreatDoorCards
namespace Go.Proofs.YtnccebfapihpjaaGreatDoor
open Go Go.RowKit Go.Extern.Stop Go.Stop Go.Extern

set_option maxHeartbeats 1000000 in
theorem CopyInts_own {l : List Int} {A : Option Addr} {c : Nat} (hl : l.length * 8 ≤ 140737488355328) (w : World) (ha : RdI .i64 w A l) :
    Calls Tryz.prog 49 #[.slice A l.length c] w (NewI w l) := by
  obtain ⟨i0, hi, hz0, hz1, hz2⟩ := info_parts intInfo
  have HA := Lib.hid ha
  clear ha
  go_enter Tryz.func49, Tryz.ntmps49
  go_wp2_with (at_builtin; refine wpList_append_rd _ rfl (.tmp 3) (.tmp 4) _ rfl w.heap.size 3 i0 _ 1 8 Tryz.underlying46 hi hz0 hz1 hz2 rfl (by omega) (.slice (some ⟨w.heap.size, 0, none⟩) 0 0) 0 [] rfl (own_empty w _ _ _ (Nat.le_refl _)) A l.length c _ rfl (HA.out.alloc _) (ints_one _ _) (by unfold maxLen; omega) (by omega) (by simp) ?_; intro B cap w1 hown1 hg1 hat1; simp only [Nat.zero_add, List.nil_append] at hown1)
  go_ret
  refine ⟨B, cap, by simp, hown1, ?_⟩
  exact ((Below.refl _ _).alloc (Nat.le_refl _) _).grown hg1 (by simp) (fun k hk => by have : w.heap.size = k := by simpa [Value.ownBlock] using hk
                                                                                       omega)

/-- Behind the append of a frame: what stands. -/
theorem own_push {W9 w9 : World} {base B : Nat} {pix : List Int} {AL A8 : Option Addr} {cL c8 : Nat} {l : List Frm}
    (hrow : W9.ownsRow base 48 3 (.slice AL l.length cL) l.length (flatF l)) (hof : OwnF W9 B l) (hpx : W9.ownsRow B 3 1 (.slice A8 pix.length c8) pix.length (pix.map (Value.int .i64)))
    (fw fh : Int) (o : Obj) (hgrow : (W9.alloc o).grownBy w9 (Value.slice AL l.length cL).ownBlock) : OwnF w9 B (l ++ [⟨fw, fh, A8, pix, c8⟩]) := by
  have B0 : Below W9.heap.size W9 (W9.alloc o) := (Below.refl _ _).alloc (Nat.le_refl _) _
  have hc : Chg (fun i => (Value.slice AL l.length cL).ownBlock = some i) (W9.alloc o) w9 := Chg.of_grown hgrow (fun i _ e => e.symm)
  intro f hf
  have key : ∀ f : Frm, W9.ownsRow B 3 1 (.slice f.A f.pix.length f.c) f.pix.length (f.pix.map (Value.int .i64)) → w9.ownsRow B 3 1 (.slice f.A f.pix.length f.c) f.pix.length (f.pix.map (Value.int .i64)) :=
    fun f h => own_chg (own_keep h B0) hc (fun i hi e => own_own (own_keep h B0) (own_keep hrow B0) (by decide) i hi e)
  rcases List.mem_append.1 hf with h | h
  · exact key f (hof f h)
  · simp at h; subst h; exact key _ hpx

/-- A frame's copy. -/
def NewF (W : World) (f : Frm) (e : Ending) (w' : World) : Prop :=
  ∃ A c, e = .returned (.agg #[.int .i64 f.w, .int .i64 f.h, .slice A f.pix.length c]) ∧ w'.ownsRow W.heap.size 3 1 (.slice A f.pix.length c) f.pix.length (f.pix.map (Value.int .i64)) ∧ Below W.heap.size W w'

set_option maxRecDepth 100000 in
set_option maxHeartbeats 1000000 in
theorem CopyFrame_any {f : Frm} (hl : f.pix.length ≤ 1000000) (W : World) (ha : RdI .i64 W f.A f.pix) :
    Calls Tryz.prog 17 #[.agg #[.int .i64 f.w, .int .i64 f.h, .slice f.A f.pix.length f.c]] W (NewF W f) := by
  obtain ⟨w9, h9, A9, p9, c9⟩ := f
  simp only at hl ha ⊢
  have hb1 : Below W.heap.size W (W.alloc (.cells #[.int .i64 w9, .int .i64 h9, .slice A9 p9.length c9] 48)) := (Below.refl _ _).alloc (Nat.le_refl _) _
  have HB2 := Lib.hid (hb1.alloc hb1.size (.cells #[.int .i64 0, .int .i64 0, .slice none 0 0] 48))
  have hZ1 := (Blk.new W 48 #[.int .i64 w9, .int .i64 h9, .slice A9 p9.length c9]).alloc (.cells #[.int .i64 0, .int .i64 0, .slice none 0 0] 48)
  have hZ2 := Blk.new1 W (.cells #[.int .i64 w9, .int .i64 h9, .slice A9 p9.length c9] 48) 48 #[.int .i64 0, .int .i64 0, .slice none 0 0]
  have CC : Hid (∀ W', Below W.heap.size W W' → Calls Tryz.prog 49 #[.slice A9 p9.length c9] W' (NewI W' p9)) := Lib.hid fun W' hW => CopyInts_own (by omega) W' (ha.keep hW)
  obtain ⟨n, hn⟩ : ∃ n, p9.length = n := ⟨_, rfl⟩
  have HN := Lib.hid hn
  have HZ1 := Lib.hid hZ1
  have HZ2 := Lib.hid hZ2
  rw [hn] at HB2 HZ1 HZ2 CC hl ⊢
  clear hb1 ha hZ1 hZ2 hn
  go_enter Tryz.func17, Tryz.ntmps17
  go_wp2_with fail
  have B2 := HB2.out.drew
  obtain ⟨⟨r0, r1, r2⟩, -⟩ := fr_cells HZ1.out
  have hne : ¬ W.heap.size = W.heap.size + 1 := by omega
  go_region_held3 (fun W' => W'.cell? ⟨W.heap.size, 0, none⟩ = some (.int .i64 w9) ∧ W'.cell? ⟨W.heap.size, 1, none⟩ = some (.int .i64 h9) ∧ W'.cell? ⟨W.heap.size, 2, none⟩ = some (.slice A9 n c9))
    (first | go_keep | exact hs8 | exact ⟨cell_chg hs8.1 (fr_set hz8).1 hne, cell_chg hs8.2.1 (fr_set hz8).1 hne, cell_chg hs8.2.2 (fr_set hz8).1 hne⟩ | fail)
    (first
      | (go_at_call 49; refine (CC.out _ B2).mono ?_; unfold NewI; rintro e w8 ⟨A8, c8, rfl, ho8, hb8⟩; have hb8' : Below (W.heap.size + 1 + 1) _ w8 := hb8.mono (by simp); obtain ⟨⟨t0, t1, t2⟩, -⟩ := fr_cells (HZ1.out.drew.keep hb8); have hs8 := And.intro t0 (And.intro t1 t2); have hz8 := HZ2.out.drew.keep hb8; obtain ⟨⟨u0, u1, u2⟩, g0, g1, g2⟩ := fr_cells hz8)
      | fail)
  have hst := fr_set (a' := .int .i64 w9) (b' := .int .i64 h9) (c' := .slice A8 p9.length c8) hz8
  obtain ⟨⟨s0, s1, s2⟩, -⟩ := fr_cells hst.2
  have HO := Lib.hid (own_base (own_chg ho8 hst.1 (fun i hi e => own_notBlk ho8 hz8 (by decide) (by rw [hi, e]))) (show W.heap.size ≤ _ by simp; omega))
  have HBE := Lib.hid ((B2.trans (hb8.mono B2.size)).trans (hst.1.below (B2.trans (hb8.mono B2.size)).size (fun i e => by omega)))
  clear hst hb8 hb8' ho8 hz8
  go_wp2_with fail
  refine bodyPost_ret (v := .agg #[.int .i64 w9, .int .i64 h9, .slice A8 p9.length c8]) (by simp [results, Tryz.results17, go_sem, s0, s1, s2]) rfl ?_
  exact ⟨A8, c8, rfl, HO.out, HBE.out⟩

/-- Frames' copies: rows of their own. -/
def NewFs (W : World) (l : List Frm) (e : Ending) (w' : World) : Prop :=
  ∃ A c m, e = .returned (.slice A l.length c) ∧ m.length = l.length ∧ (∀ i (h : i < m.length) (h' : i < l.length), m[i].w = l[i].w ∧ m[i].h = l[i].h ∧ m[i].pix = l[i].pix) ∧ w'.ownsRow W.heap.size 48 3 (.slice A m.length c) m.length (flatF m) ∧ OwnF w' W.heap.size m ∧ Below W.heap.size W w'

set_option maxRecDepth 100000 in
set_option maxHeartbeats 1000000 in
theorem CopyFrames_any {l : List Frm} {A : Option Addr} {c : Nat} (hl : l.length ≤ 1000) (hp : ∀ f ∈ l, f.pix.length ≤ 1000000) (W : World) (ha : RdF W A l) :
    Calls Tryz.prog 7 #[.slice A l.length c] W (NewFs W l) := by
  obtain ⟨i0, hi, hz0, hz1, hz2⟩ := info_parts frameInfo
  have HA := Lib.hid ha
  have HP := Lib.hid hp
  obtain ⟨n, hn⟩ : ∃ n, l.length = n := ⟨_, rfl⟩
  have HN := Lib.hid hn
  rw [hn] at hl ⊢
  clear ha hp hn
  go_enter Tryz.func7, Tryz.ntmps7
  go_wp2_with fail
  go_loopg [3, 4] n (fun k v3 v4 wr => ∃ (j : Nat) (AL : Option Addr) (cL : Nat) (m : List Frm), j + k = n ∧ v4 = .int .i64 j ∧ v3 = .slice AL m.length cL ∧ Hid (m.length = j) ∧
    Hid (∀ i (h : i < m.length) (h' : i < l.length), m[i].w = l[i].w ∧ m[i].h = l[i].h ∧ m[i].pix = l[i].pix) ∧ wr.ownsRow W.heap.size 48 3 (.slice AL m.length cL) m.length (flatF m) ∧ OwnF wr W.heap.size m ∧ Below W.heap.size W wr)
  case atStart => exact ⟨0, none, 0, [], by omega, rfl, rfl, Lib.hid rfl, Lib.hid (fun i h => by simp at h), ⟨rfl, .inl ⟨rfl, rfl⟩⟩, (fun f hf => by cases hf), Below.refl _ _⟩
  case round =>
    obtain ⟨j, AL, cL, m, hj, rfl, rfl, hml, hms, hrow, hof, hbel⟩ := hrel
    have HROW := Lib.hid hrow
    have HOF := Lib.hid hof
    have HBEL := Lib.hid hbel
    clear hrow hof
    by_cases hlt : j < n
    · obtain ⟨k, rfl⟩ : ∃ k, gk = k + 1 := ⟨gk - 1, by omega⟩
      have hltL : j < l.length := by rw [HN.out]; exact hlt
      have hlt' : (j : Int) < (n : Int) := by omega
      obtain ⟨b2, o2, rfl, y0, y1, y2⟩ := (HA.out.keep hbel).at_ hltL
      obtain ⟨hp1, -⟩ := (HA.out.keep hbel).pix hltL
      have hpb := HP.out _ (List.getElem_mem hltL)
      obtain ⟨f, hf⟩ : ∃ f, l[j] = f := ⟨_, rfl⟩
      have HFJ := Lib.hid hf
      rw [hf] at y0 y1 y2 hp1 hpb
      have CC := Lib.hid (CopyFrame_any hpb wr hp1)
      obtain ⟨w9, h9, A9, p9, c9⟩ := f
      simp only at y0 y1 y2 CC hpb
      have hlj : m.length ≤ 1000 := by have := hml.out; omega
      have hwr := hbel.size
      clear hf hp1 hbel
      go_wp2_with fail
      refine CC.out.mono ?_
      unfold NewF
      rintro e w8 ⟨A8, c8, rfl, ho8, hb8⟩
      simp only at ho8
      have HROW8 := Lib.hid (own_keep HROW.out hb8)
      have HOF8 : Hid (OwnF w8 W.heap.size m) := Lib.hid fun f hf => own_keep (HOF.out f hf) hb8
      have HP8 := Lib.hid (own_base ho8 hwr)
      have HB8 := Lib.hid (HBEL.out.trans (hb8.mono hwr))
      have hs8 : W.heap.size ≤ w8.heap.size := HB8.out.size
      clear ho8 hb8 CC y0 y1 y2
      go_wp2_with (at_builtin; refine wpList_append_lies _ rfl (.tmp 11) (.tmp 17) _ rfl W.heap.size 48 i0 _ 3 40 Tryz.underlying22 hi hz0 hz1 hz2 rfl (by omega) (.slice AL m.length cL) m.length _ rfl (HROW8.out.alloc _) ⟨w8.heap.size, 0, none⟩ 1 1 [.int .i64 w9, .int .i64 h9, .slice A8 p9.length c8] rfl rfl (World.news_of_block (cs := #[.int .i64 w9, .int .i64 h9, .slice A8 p9.length c8]) (t := 48) (fr := (0, 0)) (heap_alloc_new w8 _)) (by simp [Value.oneCell']) (by omega) (by unfold maxLen; omega) (by omega) (by simp; omega) _ rfl ?_; intro gb cap w9' hown9 hgrow9 hat9 hlt9)
      have hfl9 : flatF (m ++ [(⟨w9, h9, A8, p9, c8⟩ : Frm)]) = flatF m ++ [.int .i64 w9, .int .i64 h9, .slice A8 p9.length c8] := by rw [flatF_app]; rfl
      have hln : (m ++ [(⟨w9, h9, A8, p9, c8⟩ : Frm)]).length = m.length + 1 := by simp
      have HFL := Lib.hid hfl9
      have HLN := Lib.hid hln
      have HOWN9 := Lib.hid hown9
      have HOF9 := Lib.hid (own_push HROW8.out HOF8.out HP8.out w9 h9 _ hgrow9)
      have HB9 := Lib.hid ((HB8.out.alloc HB8.out.size (.cells #[.int .i64 w9, .int .i64 h9, .slice A8 p9.length c8] 48)).grown hgrow9 (by simp; omega) (fun z hz => (HROW8.out.lt z hz).1))
      clear hown9 hgrow9 hat9 hfl9 hln
      go_roundg k
      case measure => omega
      case rel =>
        exact ⟨j + 1, some ⟨gb, 0, none⟩, cap, m ++ [⟨w9, h9, A8, p9, c8⟩], by omega, by go_num, by rw [HLN.out], Lib.hid (by rw [HLN.out, hml.out]), Lib.hid (fun i h h' => by
          by_cases hi : i < m.length
          · rw [List.getElem_append_left hi]; exact hms.out i hi h'
          · have hij : i = j := by rw [HLN.out] at h; have := hml.out; omega
            subst hij
            rw [List.getElem_append_right (by omega)]
            simp only [hml.out, Nat.sub_self, List.getElem_cons_zero]
            rw [HFJ.out]
            exact ⟨rfl, rfl, rfl⟩), by rw [HLN.out, HFL.out]; exact HOWN9.out, HOF9.out, HB9.out⟩
    · obtain rfl : j = n := by omega
      obtain rfl : gk = 0 := by omega
      clear hbel
      go_wp2_with fail
      go_ret
      exact ⟨AL, cL, m, by rw [hml.out, HN.out]; rfl, by rw [hml.out, HN.out], hms.out, HROW.out, HOF.out, HBEL.out⟩

end Go.Proofs.YtnccebfapihpjaaGreatDoor

namespace Go.Proofs.YtnccebfapihpjaaGreatDoor
open Go Go.RowKit Go.Extern.Stop Go.Stop Go.Extern

/-- A grey frame. -/
def greyF (A : Option Addr) (c : Nat) : Frm := ⟨8, 8, A, List.replicate 64 128, c⟩
theorem greyEnc (A : Option Addr) (c : Nat) : encF [greyF A c] = [75, 83, 1, 1, 1, 0, 0, 0, 0, 0, 0, 0, 0, 0] := by kernel_rfl
theorem greyOk (A : Option Addr) (c : Nat) : checkF [greyF A c] = 0 := by kernel_rfl
theorem greyStr : strOf [75, 83, 1, 1, 1, 0, 0, 0, 0, 0, 0, 0, 0, 0] = ⟨#[75, 83, 1, 1, 1, 0, 0, 0, 0, 0, 0, 0, 0, 0]⟩ := by kernel_rfl
theorem shortDec : decF [75, 83, 1, 1, 1] = .error ([(sSource, 0), (sBits, 0)], 1) := by kernel_rfl
theorem noneDec : decF [] = .error ([(sSource, -1)], 1) := by kernel_rfl
theorem code1 : Fa.codeL 1 = [99, 111, 100, 101, 32, 49] := by unfold Fa.codeL; rw [if_neg (by decide)]; rw [show (1 : Int).toNat = 1 from rfl, Fa.dec_small (u := 1) (by decide)]; rfl
theorem shortText : Fa.S (Fa.saidL [(sSource, 0), (sBits, 0)] 1) = ⟨#[115, 111, 117, 114, 99, 101, 32, 48, 58, 32, 98, 105, 116, 115, 32, 48, 58, 32, 99, 111, 100, 101, 32, 49]⟩ := by
  have h1 : Lib.itoa 0 = [48] := by rw [Fa.itoa_pos (by decide)]; exact Fa.dec_small (u := 0) (by decide)
  unfold Fa.saidL Fa.pathL
  simp only [List.flatMap_cons, List.flatMap_nil, Fa.stepL, h1, code1]
  rfl
theorem noneText : Fa.S (Fa.saidL [(sSource, -1)] 1) = ⟨#[115, 111, 117, 114, 99, 101, 32, 45, 49, 58, 32, 99, 111, 100, 101, 32, 49]⟩ := by
  have h1 : Lib.itoa (-1) = [45, 49] := by rw [Fa.itoa_neg (by decide), show (-1 : Int).natAbs = 1 from rfl, Fa.dec_small (u := 1) (by decide)]; rfl
  unfold Fa.saidL Fa.pathL
  simp only [List.flatMap_cons, List.flatMap_nil, Fa.stepL, h1, code1]
  rfl
theorem RdI.of_row {w : World} {g : Nat} {e : TypeId} {cs : Array Value} {fr : Nat × Nat} {l : List Int} (h : w.heap[g]? = some (.cells cs e fr)) (hc : cs = (l.map (Value.int .u8)).toArray) : RdI .u8 w (some ⟨g, 0, none⟩) l := by
  subst hc
  refine ⟨by simp, fun _ => ⟨g, 0, rfl, fun j u hu => ?_⟩⟩
  rw [cell_of_row w g (0 + j) _ e fr h]
  simpa using hu
theorem RdF.of_blk {w : World} {z : Nat} {l : List Frm} {cs : Array Value} (h : Blk w z 48 cs) (hc : cs = (flatF l).toArray) (hp : ∀ f ∈ l, RdI .i64 w f.A f.pix ∧ f.pix.length ≤ 9223372036854775807) : RdF w (some ⟨z, 0, none⟩) l := by
  subst hc
  refine ⟨⟨flatF_length l, fun _ => ⟨z, 0, rfl, fun j u hu => ?_⟩⟩, hp⟩
  rw [h.cell]
  simpa using hu

set_option maxRecDepth 100000 in
set_option maxHeartbeats 2000000 in
theorem first_true (w : World) (hg : Gl w) (hT : Tb w) : Calls Tryz.prog 5 #[] w fun e w' => e = .returned (.bool true) ∧ Below w.heap.size w w' := by
  obtain ⟨i0, hi, hz0, hz1, hz2⟩ := info_parts intInfo
  have HG := Lib.hid hg
  have HT := Lib.hid hT
  have hb0 := Lib.hid (show Below w.heap.size w (w.alloc (.cells #[.int .i64 8, .int .i64 8, .slice none 0 0] 48)) from (Below.refl _ _).alloc (Nat.le_refl _) _)
  have hB0 := Lib.hid (Blk.new w 48 #[.int .i64 8, .int .i64 8, .slice none 0 0])
  clear hg hT
  go_enter Tryz.func5, Tryz.ntmps5
  go_wp2_with fail
  go_loopg [2] (64 : Nat) (fun k v2 wr => ∃ (j : Nat) (A : Option Addr) (c : Nat), j + k = 64 ∧ v2 = .int .i64 j ∧ Blk wr w.heap.size 48 #[.int .i64 8, .int .i64 8, .slice A j c] ∧
    wr.ownsRow (w.heap.size + 1) 3 1 (.slice A j c) j ((List.replicate j (128 : Int)).map (Value.int .i64)) ∧ Below w.heap.size w wr)
  case atStart => exact ⟨0, none, 0, by omega, rfl, hB0.out, ⟨rfl, .inl ⟨rfl, rfl⟩⟩, hb0.out⟩
  case round =>
    obtain ⟨j, A, c, hj, rfl, hblk, hown, hbel⟩ := hrel
    have hzz := hblk.lt
    obtain ⟨⟨r0, r1, r2⟩, f0, f1, f2⟩ := fr_cells hblk
    have HB := Lib.hid hblk
    have HO := Lib.hid hown
    have HBEL := Lib.hid hbel
    clear hblk hown hbel
    by_cases hlt : j < 64
    · have hlt' : (j : Int) < 64 := by omega
      obtain ⟨m, rfl⟩ : ∃ m, gk = m + 1 := ⟨gk - 1, by omega⟩
      go_wp2_with (at_builtin; refine wpList_append_lies _ rfl (.tmp 15) (.tmp 16) _ rfl (w.heap.size + 1) 3 i0 _ 1 8 Tryz.underlying46 hi hz0 hz1 hz2 rfl (by omega) (.slice A j c) j _ rfl (HO.out.alloc _) ⟨wr.heap.size, 0, none⟩ 1 1 [.int .i64 128] rfl rfl (World.news_of_block (cs := #[.int .i64 128]) (t := 3) (fr := (0, 0)) (heap_alloc_new wr _)) (by simp [Value.oneCell']) (by omega) (by unfold maxLen; omega) (by omega) (by simp; omega) _ rfl ?_; intro gb cap w9 hown9 hgrow9 hat9 hlt9; have hb9 := (HB.out.alloc (.cells #[.int .i64 128] 3)).grown hgrow9 (Ne.symm (own_notBlk HO.out HB.out (by decide))); obtain ⟨⟨-, -, y2⟩, -, -, g2⟩ := fr_cells hb9)
      have hs9 := hb9.store 2 (.slice (some ⟨gb, 0, none⟩) (j + 1) cap)
      have ho9 := own_chg hown9 ((Chg.refl (fun i => i = w.heap.size) w9).setCell (p := ⟨w.heap.size, 2, none⟩) (fun _ => rfl) (.slice (some ⟨gb, 0, none⟩) (j + 1) cap)) (fun i hi e => by have := (hown9.lt i hi).1; omega)
      have hbl9 := ((HBEL.out.alloc HBEL.out.size (.cells #[.int .i64 128] 3)).grown hgrow9 (by simp; omega) (fun z hz => by have := (HO.out.lt z hz).1; omega)).setCell (p := ⟨w.heap.size, 2, none⟩) (Nat.le_refl _) (.slice (some ⟨gb, 0, none⟩) (j + 1) cap)
      have hrep : List.map (Value.int IntKind.i64) (List.replicate j 128) ++ [Value.int IntKind.i64 128] = (List.replicate (j + 1) (128 : Int)).map (Value.int .i64) := by rw [List.replicate_succ']; simp
      rw [hrep] at ho9
      have HS9 := Lib.hid hs9
      have HO9 := Lib.hid ho9
      have HBL9 := Lib.hid hbl9
      clear hs9 ho9 hbl9 hrep hown9 hgrow9 hat9 hb9 y2 g2
      go_roundg m
      case measure => omega
      case rel => exact ⟨j + 1, _, _, by omega, by go_num, HS9.out, HO9.out, HBL9.out⟩
    · obtain rfl : j = 64 := by omega
      obtain rfl : gk = 0 := by omega
      have hbX : Below wr.heap.size wr (wr.alloc (.cells #[.int .i64 8, .int .i64 8, .slice A 64 c] 48)) := (Below.refl _ _).alloc (Nat.le_refl _) _
      have hrdF : RdF (wr.alloc (.cells #[.int .i64 8, .int .i64 8, .slice A 64 c] 48)) (some ⟨wr.heap.size, 0, none⟩) [greyF A c] :=
        RdF.of_blk (Blk.new wr 48 #[.int .i64 8, .int .i64 8, .slice A 64 c]) rfl (fun f hf => by
          simp only [List.mem_singleton] at hf
          subst hf
          exact ⟨((RdI.of_own HO.out).1).keep hbX, by simp [greyF]⟩)
      have CE := Lib.hid (Encode_ok (l := [greyF A c]) (c := 1) _ hrdF (greyOk A c))
      rw [greyEnc] at CE
      have hbE := HBEL.out.trans (hbX.mono HBEL.out.size)
      have HBE := Lib.hid hbE
      clear hbX hrdF hbE
      go_wp2_with fail
      refine CE.out.mono ?_
      rintro e w2 ⟨A2, c2, rfl, hown2, hb2⟩
      have hbe2 := HBE.out.trans (hb2.mono HBE.out.size)
      have HR2 := Lib.hid (RdI.of_own hown2).1
      have HBE2 := Lib.hid hbe2
      have hbX : Below w2.heap.size w2 (w2.alloc (.cells #[.int .u8 75, .int .u8 83, .int .u8 1, .int .u8 1, .int .u8 1] 5 (5, 6))) := (Below.refl _ _).alloc (Nat.le_refl _) _
      have CD := Lib.hid (Decode_any (b := [75, 83, 1, 1, 1]) (A := some ⟨w2.heap.size, 0, none⟩) (c := 5) (by simp) (by simp) (by simp) (w2.alloc (.cells #[.int .u8 75, .int .u8 83, .int .u8 1, .int .u8 1, .int .u8 1] 5 (5, 6))) (RdI.of_row (heap_alloc_new w2 _) rfl))
      have HBX := Lib.hid hbX
      have kc := fun (w : World) (C : Array Value) (n c : Nat) => Lib.run_convert_bytes_const (P := Tryz.prog) w 26 5 C n c Tryz.underlying26 Tryz.underlying5
      clear hown2 hb2 hbe2 hbX CE
      go_wp2_with fail
      refine CD.out.mono ?_
      unfold DecOut
      rw [shortDec]
      rintro e w3 ⟨⟨v3, rfl, hE3⟩, hb3⟩
      obtain ⟨T3, y3, rfl⟩ := hE3.iface
      have HE3 := Lib.hid hE3
      have HB23 := Lib.hid (HBX.out.trans (hb3.mono HBX.out.size))
      have CN := Lib.hid (Decode_any (b := []) (A := none) (c := 0) (by simp) (by simp) (by simp) w3 RdI.nil)
      clear hE3 hb3 CD HBX kc
      go_wp2_with fail
      refine CN.out.mono ?_
      unfold DecOut
      rw [noneDec]
      rintro e w4 ⟨⟨v4, rfl, hE4⟩, hb4⟩
      obtain ⟨T4, y4, rfl⟩ := hE4.iface
      have HE4 := Lib.hid hE4
      have HB34 := Lib.hid hb4
      have hb24 := HB23.out.trans (hb4.mono HB23.out.size)
      have HB4 := Lib.hid (HBE2.out.trans (hb24.mono HBE2.out.size))
      have hcv0 := conv_rd (c := c2) w4 (HR2.out.keep hb24)
      rw [greyStr] at hcv0
      have hcv : (convert 26 9 (.slice A2 14 c2)).run Tryz.prog w4 = _ := hcv0
      clear hcv0
      have CT1 := Lib.hid (Text_any (path := [(sSource, 0), (sBits, 0)]) (t := .iface 31 (.int .i64 1)) (c := 1) (by
        have h1 := congrArg ByteArray.size shortText
        rw [Fa.S_size] at h1
        unfold Fa.saidL at h1
        rw [List.length_append] at h1
        have h2 : (⟨#[115, 111, 117, 114, 99, 101, 32, 48, 58, 32, 98, 105, 116, 115, 32, 48, 58, 32, 99, 111, 100, 101, 32, 49]⟩ : ByteArray).size = 24 := rfl
        omega) (by simp) (by unfold Fa.InI; simp) (by unfold Fa.InI; omega) (Tail.code 1) w4 (HG.out.keep HB4.out) (HT.out.keep HB4.out) (HE3.out.below HB34.out) (fun W hg he => Of_code W hg he))
      rw [shortText] at CT1
      clear hE4 hb4 hb24 CN
      go_wp2_with fail
      refine CT1.out.mono ?_
      rintro e w5 ⟨rfl, hb5⟩
      have HB45 := Lib.hid hb5
      have HB5 := Lib.hid (HB4.out.trans (hb5.mono HB4.out.size))
      have CT2 := Lib.hid (Text_any (path := [(sSource, -1)]) (t := .iface 31 (.int .i64 1)) (c := 1) (by
        have h1 := congrArg ByteArray.size noneText
        rw [Fa.S_size] at h1
        unfold Fa.saidL at h1
        rw [List.length_append] at h1
        have h2 : (⟨#[115, 111, 117, 114, 99, 101, 32, 45, 49, 58, 32, 99, 111, 100, 101, 32, 49]⟩ : ByteArray).size = 17 := rfl
        omega) (by simp) (by unfold Fa.InI; simp) (by unfold Fa.InI; omega) (Tail.code 1) w5 (HG.out.keep HB5.out) (HT.out.keep HB5.out) (HE4.out.below hb5) (fun W hg he => Of_code W hg he))
      rw [noneText] at CT2
      clear hb5 hcv
      go_wp2_with fail
      refine CT2.out.mono ?_
      rintro e w6 ⟨rfl, hb6⟩
      have HB6 := Lib.hid (HB5.out.trans (hb6.mono HB5.out.size))
      clear hb6
      go_wp2_with fail
      go_ret
      exact ⟨rfl, HB6.out⟩

end Go.Proofs.YtnccebfapihpjaaGreatDoor

namespace Go.Proofs.YtnccebfapihpjaaGreatDoor
open Go Go.RowKit Go.Extern.Stop Go.Stop Go.Extern

/-- How many samples, each frame's cut off. -/
def cntF (l : List Frm) : Nat := (l.map fun f => min f.pix.length 20001).sum
def fewF (l : List Frm) : Bool := decide (l.length ≤ 40) && decide (cntF (l.take 40) ≤ 20000)
theorem cnt_snoc {l : List Frm} {j : Nat} (h : j < l.length) : cntF (l.take (j + 1)) = cntF (l.take j) + min l[j].pix.length 20001 := by
  rw [List.take_succ_eq_append_getElem h]
  unfold cntF
  rw [List.map_append, List.sum_append]
  simp only [List.map_cons, List.map_nil, List.sum_cons, List.sum_nil, Nat.add_zero]
theorem cnt_le (l : List Frm) : cntF l ≤ 20001 * l.length := by
  induction l with
  | nil => simp [cntF]
  | cons f r ih => simp only [cntF, List.map_cons, List.sum_cons, List.length_cons] at *; omega

set_option maxRecDepth 100000 in
set_option maxHeartbeats 1000000 in
theorem few_any {l : List Frm} {A : Option Addr} {c : Nat} (hl : l.length ≤ 9223372036854775807) (w : World) (ha : RdF w A l) :
    Calls Tryz.prog 6 #[.slice A l.length c] w fun e w' => e = .returned (.bool (fewF l)) ∧ w = w' := by
  have HA := Lib.hid ha
  clear ha
  go_enter Tryz.func6, Tryz.ntmps6
  go_wp2_with fail
  go_loopg [3, 4] (40 : Nat) (fun k n i wr => ∃ j, j + k = 40 ∧ j ≤ l.length ∧ i = .int .i64 j ∧ n = .int .i64 (cntF (l.take j)) ∧ wr = w)
  case atStart => exact ⟨0, by omega, by omega, rfl, rfl, rfl⟩
  case round =>
    obtain ⟨j, hj, hjl, rfl, rfl, rfl⟩ := hrel
    have hc1 : cntF (l.take j) ≤ 20001 * j := by
      have := cnt_le (l.take j)
      rw [List.length_take] at this
      have h2 : min j l.length = j := by omega
      rw [h2] at this
      exact this
    by_cases hlt : j < l.length
    · by_cases h40 : j < 40
      · obtain ⟨m, rfl⟩ : ∃ m, gk = m + 1 := ⟨gk - 1, by omega⟩
        have hlt' : (j : Int) < (l.length : Int) := by omega
        have h40' : (j : Int) < 40 := by omega
        obtain ⟨b3, o3, rfl, -, -, y2⟩ := HA.out.at_ hlt
        have hsn := Lib.hid (cnt_snoc hlt)
        obtain ⟨hp1, hp2⟩ := HA.out.pix hlt
        obtain ⟨q, hq⟩ : ∃ q, l[j].pix.length = q := ⟨_, rfl⟩
        rw [hq] at y2 hsn hp2
        clear hp1 hq
        rcases Nat.lt_or_ge q 20001 with h | h
        · have hmin : min (q : Int) 20001 = q := by omega
          have hmn : min q 20001 = q := by omega
          rw [hmn] at hsn
          have hc2 : cntF (l.take j) + q ≤ 900000 := by omega
          clear hmn
          go_wp2_with fail
          go_roundg m
          case measure => omega
          case rel => exact ⟨j + 1, by omega, by omega, by go_num, by rw [hsn.out]; go_num, rfl⟩
        · have hmin : min (q : Int) 20001 = 20001 := by omega
          have hmn : min q 20001 = 20001 := by omega
          rw [hmn] at hsn
          have hc2 : cntF (l.take j) + 20001 ≤ 900000 := by omega
          clear hmn
          go_wp2_with fail
          go_roundg m
          case measure => omega
          case rel => exact ⟨j + 1, by omega, by omega, by go_num, by rw [hsn.out]; go_num, rfl⟩
      · obtain rfl : j = 40 := by omega
        have hf : fewF l = false := by unfold fewF; rw [decide_eq_false (by omega : ¬ l.length ≤ 40), Bool.false_and]
        have HF := Lib.hid hf
        have h40' : 40 < (l.length : Int) := by omega
        clear hf
        go_wp2_with fail
        go_ret
        exact ⟨by rw [HF.out]; rfl, rfl⟩
    · obtain rfl : j = l.length := by omega
      have ht4 : l.take 40 = l := List.take_of_length_le (by omega)
      have htl : l.take l.length = l := List.take_length
      have hf : fewF l = decide (cntF l ≤ 20000) := by unfold fewF; rw [ht4, decide_eq_true (by omega : l.length ≤ 40), Bool.true_and]
      have HF := Lib.hid hf
      have h40' : (l.length : Int) ≤ 40 := by omega
      rw [htl] at hc1 ⊢
      clear hf ht4 htl
      by_cases hc : (cntF l : Int) ≤ 20000
      · have hd := Lib.hid (decide_eq_true (by omega : cntF l ≤ 20000))
        go_wp2_with fail
        go_ret
        exact ⟨by rw [HF.out, hd.out]; rfl, rfl⟩
      · have hd := Lib.hid (decide_eq_false (by omega : ¬ cntF l ≤ 20000))
        go_wp2_with fail
        go_ret
        exact ⟨by rw [HF.out, hd.out]; rfl, rfl⟩

set_option maxRecDepth 100000 in
set_option maxHeartbeats 1000000 in
theorem Frame_same {w h : Int} {pix : List Int} {A B : Option Addr} {c d : Nat} (hl : pix.length ≤ 9223372036854775807) (W : World) (ha : RdI .i64 W A pix) (hb : RdI .i64 W B pix) :
    Calls Tryz.prog 35 #[.agg #[.int .i64 w, .int .i64 h, .slice A pix.length c], .agg #[.int .i64 w, .int .i64 h, .slice B pix.length d]] W fun e w' => e = .returned (.bool true) ∧ Below W.heap.size W w' := by
  have hb1 : Below W.heap.size W (W.alloc (.cells #[.int .i64 w, .int .i64 h, .slice A pix.length c] 48)) := (Below.refl _ _).alloc (Nat.le_refl _) _
  have HB1 := Lib.hid (hb1.alloc hb1.size (.cells #[.int .i64 w, .int .i64 h, .slice B pix.length d] 48))
  have C := Lib.hid (fun W' (hW : Below W.heap.size W W') => Ints_same (c := c) (d := d) hl W' (ha.keep hW) (hb.keep hW))
  have e1 : (w == w) = true := by simp
  have e2 : (h == h) = true := by simp
  clear hb1 ha hb
  go_enter Tryz.func35, Tryz.ntmps35
  go_wp2_with fail
  refine (C.out _ HB1.out).mono ?_
  rintro e w1 ⟨rfl, hb1⟩
  have HB2 := Lib.hid (HB1.out.trans (hb1.mono HB1.out.size))
  clear hb1
  go_wp2_with fail
  go_ret
  exact ⟨rfl, HB2.out⟩

/-- Two frames that hold the same. -/
def sameF (f g : Frm) : Prop := f.w = g.w ∧ f.h = g.h ∧ f.pix = g.pix

set_option maxRecDepth 100000 in
set_option maxHeartbeats 1000000 in
theorem Frames_same {l m : List Frm} {A B : Option Addr} {c d : Nat} (hl : l.length ≤ 9223372036854775807) (hlen : l.length = m.length) (hs : ∀ i (h : i < l.length) (h' : i < m.length), sameF l[i] m[i]) (W : World) (ha : RdF W A l) (hb : RdF W B m) :
    Calls Tryz.prog 12 #[.slice A l.length c, .slice B m.length d] W fun e w' => e = .returned (.bool true) ∧ Below W.heap.size W w' := by
  have HA := Lib.hid ha
  have HB := Lib.hid hb
  have HS := Lib.hid hs
  have HM := Lib.hid hlen
  obtain ⟨n, hn⟩ : ∃ n, l.length = n := ⟨_, rfl⟩
  rw [← hlen, hn]
  rw [hn] at hl
  have HN := Lib.hid hn
  have hne : ((n : Int) != (n : Int)) = false := by simp
  clear ha hb hs hlen hn
  go_enter Tryz.func12, Tryz.ntmps12
  go_wp2_with fail
  clear hne
  go_loopg [5] n (fun k i wr => ∃ j : Nat, j + k = n ∧ i = .int .i64 j ∧ Below W.heap.size W wr)
  case atStart => exact ⟨0, by omega, rfl, Below.refl _ _⟩
  case round =>
    obtain ⟨j, hj, rfl, hbel⟩ := hrel
    have HBEL := Lib.hid hbel
    by_cases hlt : j < n
    · obtain ⟨q, rfl⟩ : ∃ q, gk = q + 1 := ⟨gk - 1, by omega⟩
      have h1 : j < l.length := by rw [HN.out]; exact hlt
      have h2 : j < m.length := by rw [← HM.out]; exact h1
      obtain ⟨b3, o3, rfl, y0, y1, y2⟩ := (HA.out.keep hbel).at_ h1
      obtain ⟨b4, o4, rfl, z0, z1, z2⟩ := (HB.out.keep hbel).at_ h2
      obtain ⟨hp1, hp2⟩ := (HA.out.keep hbel).pix h1
      obtain ⟨hr1, -⟩ := (HB.out.keep hbel).pix h2
      obtain ⟨s1, s2, s3⟩ := HS.out j h1 h2
      obtain ⟨f, hf⟩ : ∃ f, l[j] = f := ⟨_, rfl⟩
      obtain ⟨g, hg⟩ : ∃ g, m[j] = g := ⟨_, rfl⟩
      rw [hf] at y0 y1 y2 hp1 hp2 s1 s2 s3
      rw [hg] at z0 z1 z2 hr1 s1 s2 s3
      obtain ⟨w9, h9, A9, p9, c9⟩ := f
      obtain ⟨w8, h8, A8, p8, c8⟩ := g
      simp only at y0 y1 y2 hp1 hp2 s1 s2 s3 z0 z1 z2 hr1
      subst s1 s2 s3
      have D : ∀ w', Below wr.heap.size wr w' → Calls Tryz.prog 35 #[.agg #[.int .i64 w9, .int .i64 h9, .slice A9 p9.length c9], .agg #[.int .i64 w9, .int .i64 h9, .slice A8 p9.length c8]] w' fun e w'' => e = .returned (.bool true) ∧ Below w'.heap.size w' w'' :=
        fun w' hb' => Frame_same hp2 w' (hp1.keep hb') (hr1.keep hb')
      have C3 := Lib.hid (Calls.grown D)
      have G0 := fun p : Go.Regrown => Go.cell_regrown y0 p.d p.os
      have G1 := fun p : Go.Regrown => Go.cell_regrown y1 p.d p.os
      have G2 := fun p : Go.Regrown => Go.cell_regrown y2 p.d p.os
      have G3 := fun p : Go.Regrown => Go.cell_regrown z0 p.d p.os
      have G4 := fun p : Go.Regrown => Go.cell_regrown z1 p.d p.os
      have G5 := fun p : Go.Regrown => Go.cell_regrown z2 p.d p.os
      have hj0 : (0 : Int) ≤ (j : Int) := by omega
      have hj1 : (j : Int) < (n : Int) := by omega
      clear hp1 hp2 hr1 hf hg D hbel
      go_wp2_with fail
      (refine hq_start (by kernel_rfl) (by kernel_rfl) ?_; (repeat (refine hq_step (fun K hK => ?_); go_simp; first | (refine hK _ ?_; clear hK K) | (apply Exists.intro; refine ⟨fun _ => ?_, hK _ ?_⟩; (focus (with_reducible exact C3.out _)); clear hK K))); (refine hq_nil ?_))
      intro wq hwq
      have hbq := hwq.below
      have HBQ := Lib.hid (HBEL.out.trans (hbq.mono HBEL.out.size))
      clear hbq hwq G0 G1 G2 G3 G4 G5 C3 y0 y1 y2 z0 z1 z2
      go_wp2_with fail
      go_roundg q
      case measure => omega
      case rel => exact ⟨j + 1, by omega, by go_num, HBQ.out⟩
    · obtain rfl : j = n := by omega
      obtain rfl : gk = 0 := by omega
      clear hbel
      go_wp2_with fail
      go_ret
      exact ⟨rfl, HBEL.out⟩

end Go.Proofs.YtnccebfapihpjaaGreatDoor

namespace Go.Proofs.YtnccebfapihpjaaGreatDoor
open Go Go.RowKit Go.Extern.Stop Go.Stop Go.Extern

/-- Two lists of frames with the same sides and samples. -/
theorem dec_same {l m : List Frm} {a b : Int} (hp : l.map Frm.pix = m.map Frm.pix) (hl : ∀ f ∈ l, f.w = a ∧ f.h = b) (hm : ∀ f ∈ m, f.w = a ∧ f.h = b) : l.length = m.length ∧ ∀ i (h : i < l.length) (h' : i < m.length), sameF l[i] m[i] := by
  have hlen : l.length = m.length := by have := congrArg List.length hp; simpa using this
  refine ⟨hlen, fun i h h' => ?_⟩
  obtain ⟨h1, h2⟩ := hl _ (List.getElem_mem h)
  obtain ⟨h3, h4⟩ := hm _ (List.getElem_mem h')
  have h5 : (l.map Frm.pix)[i]? = (m.map Frm.pix)[i]? := by rw [hp]
  simp only [List.getElem?_map, List.getElem?_eq_getElem h, List.getElem?_eq_getElem h', Option.map_some, Option.some.injEq] at h5
  exact ⟨h1.trans h3.symm, h2.trans h4.symm, h5⟩
theorem decF_len {b : List Int} {fs : List (List Int)} (h : decF b = .ok fs) : fs.length ≤ 16 := by
  obtain ⟨h0, h1, -⟩ := decF_ok h
  have h2 := (head_zero h0).2.2.2.2.2
  rw [h1]
  unfold nOf
  omega
theorem NewB.cap {w w1 : World} {b : List Int} {A : Option Addr} {c : Nat} (h : w1.ownsRow w.heap.size 5 1 (.slice A b.length c) b.length (b.map (Value.int .u8))) : b.length ≤ c := by
  rcases Nat.eq_zero_or_pos b.length with h0 | h0
  · omega
  · obtain ⟨g, cap, e, -, -, h1, -⟩ := own_form h h0
    injection e with _ _ e
    omega

theorem frames_none (w : World) :
    Calls Tryz.prog 12 #[.slice none 0 0, .slice none 0 0] w fun e w' => e = .returned (.bool true) ∧ Below w.heap.size w w' :=
  Frames_same (l := []) (m := []) (A := none) (B := none) (c := 0) (d := 0) (by simp) rfl (fun i h => by simp at h) w ⟨Rd.nil, fun f hf => by cases hf⟩ ⟨Rd.nil, fun f hf => by cases hf⟩

set_option maxRecDepth 100000 in
set_option maxHeartbeats 4000000 in
theorem SourceDecodes_some {b : List Int} {A : Option Addr} {c : Nat} (hbig : b.length ≤ 20000) (hc : b.length ≤ c) (hbd : ∀ x ∈ b, 0 ≤ x ∧ x ≤ 255) (w : World) (ha : RdI .u8 w A b) (hg : Gl w) (hT : Tb w) :
    Calls Tryz.prog 4 #[.slice A b.length c] w fun e w' => e = .returned (.bool true) ∧ Below w.heap.size w w' := by
  have HA := Lib.hid ha
  have HG := Lib.hid hg
  have HT := Lib.hid hT
  have C1 := Lib.hid (first_true w hg hT)
  have C2 := Lib.hid (fun W (hW : Below w.heap.size w W) => CopyBytes_any (c := c) (by omega) W (ha.keep hW))
  have C3 := Lib.hid (fun W (A' : Option Addr) (c' : Nat) (hc' : b.length ≤ c') (hW : RdI .u8 W A' b) => Decode_any (by omega) hc' hbd W hW)
  have C4 := Lib.hid (fun W (hW : Below w.heap.size w W) => RDecode_any (by omega) hc hbd W (ha.keep hW))
  obtain ⟨n, hn⟩ : ∃ n, b.length = n := ⟨_, rfl⟩
  rw [hn] at C2 C3 C4 hbig ⊢
  have HN := Lib.hid hn
  clear ha hg hT hn hbd hc
  go_enter Tryz.func4, Tryz.ntmps4
  go_wp2_with fail
  refine C1.out.mono ?_
  rintro e w1 ⟨rfl, hb1⟩
  have HB1 := Lib.hid hb1
  clear hb1
  go_wp2_with fail
  refine (C2.out _ HB1.out).mono ?_
  unfold NewB
  rintro e w2 ⟨A2, c2, rfl, hown, hb2⟩
  rw [HN.out]
  have hc2 := NewB.cap hown
  have hr2 := (RdI.of_own hown).1
  have HB2 := Lib.hid (HB1.out.trans (hb2.mono HB1.out.size))
  have HR2 := Lib.hid hr2
  rw [HN.out] at hc2
  have CD := Lib.hid (C3.out w2 A2 c2 hc2 hr2)
  clear hown hc2 hr2 hb2 C3
  go_wp2_with fail
  refine CD.out.mono ?_
  clear CD
  unfold DecOut
  rintro e w3 ⟨hd3, hb3⟩
  have HB23 := Lib.hid hb3
  have HB3 := Lib.hid (HB2.out.trans (hb3.mono HB2.out.size))
  clear hb3
  have C4' := Lib.hid (C4.out w3 HB3.out)
  clear C4
  cases hdec : decF b with
  | ok fs =>
    rw [hdec] at hd3
    obtain ⟨A3, c3, l, rfl, hl3, hp3, hs3⟩ := hd3
    have HL3 := Lib.hid hl3
    have HP3 := Lib.hid (And.intro hp3 hs3)
    have hdec' := Lib.hid hdec
    clear hl3 hp3 hs3 hdec
    go_wp2_with fail
    refine C4'.out.mono ?_
    unfold RDecOut
    rintro e w4 ⟨hd4, hb4⟩
    rw [hdec'.out] at hd4
    obtain ⟨A4, c4, m, Ae, ce, rfl, hl4, hp4, hs4⟩ := hd4
    obtain ⟨hlen, hsm⟩ := dec_same (HP3.out.1.trans hp4.symm) HP3.out.2 hs4
    have al : Below w4.heap.size w4 (w4.alloc (.cells #[.int .i64 0, .slice Ae 0 ce] 34)) := (Below.refl _ _).alloc (Nat.le_refl _) _
    have HB34 := Lib.hid (hb4.trans (al.mono hb4.size))
    have HB4 := Lib.hid (HB3.out.trans (HB34.out.mono HB3.out.size))
    have HB24 := Lib.hid (HB23.out.trans (HB34.out.mono HB23.out.size))
    have HL4 := Lib.hid (hl4.keep al)
    have HZ4 := Lib.hid (Blk.new w4 34 #[.int .i64 0, .slice Ae 0 ce])
    have HLEN := Lib.hid hlen
    have HSM := Lib.hid hsm
    clear hl4 hp4 hs4 hlen hsm hb4 al C4'
    go_wp2_with fail
    refine (first_true _ (HG.out.keep HB4.out) (HT.out.keep HB4.out)).mono ?_
    rintro e w5 ⟨rfl, hb5⟩
    have HB5 := Lib.hid (HB4.out.trans (hb5.mono HB4.out.size))
    have HB25 := Lib.hid (HB24.out.trans (hb5.mono HB24.out.size))
    have HZ5 := Lib.hid (HZ4.out.keep hb5)
    have CF := Lib.hid (Frames_same (c := c3) (d := c4) (by have h1 := HP3.out.1; have h2 := decF_len hdec'.out; have h3 := congrArg List.length h1; simp only [List.length_map] at h3; omega) HLEN.out HSM.out w5 (HL3.out.keep (HB34.out.trans (hb5.mono HB34.out.size))) (HL4.out.keep hb5))
    clear hb5
    go_wp2_with fail
    refine CF.out.mono ?_
    rintro e w6 ⟨rfl, hb6⟩
    obtain ⟨⟨s0, s1⟩, -⟩ := er_cells (HZ5.out.keep hb6)
    have HB6 := Lib.hid (HB5.out.trans (hb6.mono HB5.out.size))
    have HB26 := Lib.hid (HB25.out.trans (hb6.mono HB25.out.size))
    clear hb6
    go_wp2_with fail
    refine (Err_none _ (HG.out.keep HB6.out)).mono ?_
    rintro e w7 ⟨rfl, hb7⟩
    have HB7 := Lib.hid (HB6.out.trans (hb7.mono HB6.out.size))
    have HB27 := Lib.hid (HB26.out.trans (hb7.mono HB26.out.size))
    clear hb7 s0 s1
    have CBy := Lib.hid (Bytes_same (c := c2) (d := c) w7 HN.out.symm HN.out.symm (HR2.out.keep HB27.out) (HA.out.keep HB7.out))
    go_wp2_with fail
    refine CBy.out.mono ?_
    rintro e w8 ⟨rfl, rfl⟩
    go_wp2_with fail
    go_ret
    exact ⟨rfl, HB7.out⟩
  | error pc =>
    rw [hdec] at hd3
    obtain ⟨p, k⟩ := pc
    obtain ⟨v, rfl, he3⟩ := hd3
    dsimp only at he3
    obtain ⟨hk, i, r, hp, -, -, hr⟩ := decF_err hdec
    have hk0 : k ≠ 0 := by omega
    have hpl : p.length ≤ 1000000000000 := by rw [hp, List.length_cons]; omega
    have HK := Lib.hid hk0
    have HPL := Lib.hid hpl
    have hdec' := Lib.hid hdec
    have HE3 := Lib.hid he3
    clear hk i r hp hr hk0 hpl hdec he3
    go_wp2_with fail
    refine C4'.out.mono ?_
    unfold RDecOut
    rintro e w4 ⟨hd4, hb4⟩
    rw [hdec'.out] at hd4
    obtain ⟨A4, c4, rfl, hr4⟩ := hd4
    dsimp only at hr4 ⊢
    obtain ⟨pn, hpn⟩ : ∃ pn, p.length = pn := ⟨_, rfl⟩
    have HPN := Lib.hid hpn
    have al : Below w4.heap.size w4 (w4.alloc (.cells #[.int .i64 k, .slice A4 pn c4] 34)) := (Below.refl _ _).alloc (Nat.le_refl _) _
    have HB34 := Lib.hid (hb4.trans (al.mono hb4.size))
    have HB4 := Lib.hid (HB3.out.trans (HB34.out.mono HB3.out.size))
    have HB24 := Lib.hid (HB23.out.trans (HB34.out.mono HB23.out.size))
    have HR4 := Lib.hid (hr4.keep al)
    have HZ4 := Lib.hid (Blk.new w4 34 #[.int .i64 k, .slice A4 pn c4])
    clear hr4 hb4 al C4'
    rw [hpn]
    clear hpn
    go_wp2_with fail
    refine (first_true _ (HG.out.keep HB4.out) (HT.out.keep HB4.out)).mono ?_
    rintro e w5 ⟨rfl, hb5⟩
    have HB5 := Lib.hid (HB4.out.trans (hb5.mono HB4.out.size))
    have HB25 := Lib.hid (HB24.out.trans (hb5.mono HB24.out.size))
    have HB35 := Lib.hid (HB34.out.trans (hb5.mono HB34.out.size))
    have HR5 := Lib.hid (HR4.out.keep hb5)
    have HZ5 := Lib.hid (HZ4.out.keep hb5)
    have CF := Lib.hid (frames_none w5)
    clear hb5
    go_wp2_with fail
    refine CF.out.mono ?_
    rintro e w6 ⟨rfl, hb6⟩
    obtain ⟨⟨s0, s1⟩, -⟩ := er_cells (HZ5.out.keep hb6)
    have HB6 := Lib.hid (HB5.out.trans (hb6.mono HB5.out.size))
    have HB26 := Lib.hid (HB25.out.trans (hb6.mono HB25.out.size))
    have CE := Lib.hid (Err_some (cap := c4) HPL.out HK.out w6 (HG.out.keep HB6.out) (ErrAt.below (HB35.out.trans (hb6.mono HB35.out.size)) HE3.out) (HR5.out.keep hb6))
    rw [HPN.out] at CE
    clear hb6
    go_wp2_with fail
    refine CE.out.mono ?_
    rintro e w7 ⟨rfl, hb7⟩
    have HB7 := Lib.hid (HB6.out.trans (hb7.mono HB6.out.size))
    have HB27 := Lib.hid (HB26.out.trans (hb7.mono HB26.out.size))
    clear hb7 s0 s1
    have CBy := Lib.hid (Bytes_same (c := c2) (d := c) w7 HN.out.symm HN.out.symm (HR2.out.keep HB27.out) (HA.out.keep HB7.out))
    go_wp2_with fail
    refine CBy.out.mono ?_
    rintro e w8 ⟨rfl, rfl⟩
    go_wp2_with fail
    go_ret
    exact ⟨rfl, HB7.out⟩

set_option maxRecDepth 100000 in
set_option maxHeartbeats 1000000 in
theorem SourceDecodes_walk {b : List Int} {A : Option Addr} {c : Nat} (hl : b.length ≤ 9223372036854775807) (hc : b.length ≤ c) (hbd : ∀ x ∈ b, 0 ≤ x ∧ x ≤ 255) (w : World) (ha : RdI .u8 w A b) (hg : Gl w) (hT : Tb w) :
    Calls Tryz.prog 4 #[.slice A b.length c] w fun e w' => e = .returned (.bool true) ∧ Below w.heap.size w w' := by
  by_cases hbig : b.length ≤ 20000
  · exact SourceDecodes_some hbig hc hbd w ha hg hT
  · have C1 := Lib.hid (first_true w hg hT)
    have HG := Lib.hid hg
    have HT := Lib.hid hT
    have hbig' : 20000 < (b.length : Int) := by omega
    clear ha hg hT hbd hbig
    go_enter Tryz.func4, Tryz.ntmps4
    go_wp2_with fail
    refine C1.out.mono ?_
    rintro e w1 ⟨rfl, hb1⟩
    have HB1 := Lib.hid hb1
    clear hb1
    go_wp2_with fail
    refine (first_true _ (HG.out.keep HB1.out) (HT.out.keep HB1.out)).mono ?_
    rintro e w2 ⟨rfl, hb2⟩
    have HB2 := Lib.hid (HB1.out.trans (hb2.mono HB1.out.size))
    clear hb2
    go_wp2_with fail
    go_ret
    exact ⟨rfl, HB2.out⟩

end Go.Proofs.YtnccebfapihpjaaGreatDoor

namespace Go.Proofs.YtnccebfapihpjaaGreatDoor
open Go Go.ChangeShapes Go.WideShapes Go.RowKit Go.Joins Go.Deep

section
variable {H : Type} {enc : TypeId × Value → H} {W : World} {base b0 : Nat} {spare : Nat → Bool} {held : Bool}
set_option maxRecDepth 100000 in
theorem open_u8 {v : Value} {d : DataW H} {p : List MemPlace} (hv : Value.okWide Tryz.prog W .any b0 5 v) (h : DataW.Trod enc Tryz.prog W base spare held 5 v d p) :
    ∃ n : Int, v = .int .u8 n ∧ 0 ≤ n ∧ n ≤ 255 := by
  obtain ⟨n, rfl, _, _, hw⟩ := open_int Tryz.underlying5 hv h
  exact ⟨n, rfl, bounds_u8 hw⟩
set_option maxRecDepth 100000 in
/-- A slice of bytes, opened. -/
theorem open_bytes' {v : Value} {d : DataW H} {p : List MemPlace} (hv : Value.okWide Tryz.prog W .any b0 26 v) (h : DataW.Trod enc Tryz.prog W base spare held 26 v d p) :
    ∃ (A : Option Addr) (l : List Int) (c : Nat), v = .slice A l.length c ∧ RdI .u8 W A l ∧ l.length ≤ 9223372036854775807 ∧ l.length ≤ c ∧ c ≤ 9223372036854775807 ∧ ∀ n ∈ l, 0 ≤ n ∧ n ≤ 255 := by
  obtain ⟨a0, len0, cap0, rfl⟩ := okWide_slice Tryz.underlying26 hv
  obtain ⟨fuel, hf⟩ := h
  rcases open_ints Tryz.underlying26 Tryz.underlying5 (by kernel_rfl) hf with ⟨hcs, _⟩ | ⟨x, n, c, zs, hcs, _, hl, hm, hz, _, hcell, hwz⟩
  · simp [Value.cells] at hcs
    obtain ⟨rfl, rfl, rfl⟩ := hcs
    exact ⟨none, [], 0, rfl, RdI.nil, by simp, by simp, by simp, by simp⟩
  · simp [Value.cells] at hcs
    obtain ⟨rfl, rfl, rfl⟩ := hcs
    unfold maxLen at hm
    have hzl : len0 ≤ zs.length := by rw [hz]; split <;> omega
    have hln : (zs.take len0).length = len0 := by rw [List.length_take]; omega
    refine ⟨some x, zs.take len0, cap0, by rw [hln], RdI.of_arg (fun i hi => ?_), by omega, by omega, by omega, fun n hn => ?_⟩
    · rw [hln] at hi
      have := hcell i (by omega)
      rw [List.getD_eq_getElem?_getD, List.getElem?_eq_getElem (by omega)] at this
      rw [this, List.getElem_take]; rfl
    · exact bounds_u8 (hwz n (List.mem_of_mem_take hn))
set_option maxRecDepth 100000 in
/-- A cell that holds a slice of integers, opened. -/
theorem open_samples {fuel : Nat} {u : Value} {y : DataW H × List MemPlace} (h : DataW.trod enc Tryz.prog W base spare held fuel 46 [u] = some y) :
    ∃ (A : Option Addr) (l : List Int) (c : Nat), u = .slice A l.length c ∧ RdI .i64 W A l ∧ l.length ≤ 9223372036854775807 ∧ l.length ≤ c := by
  rcases open_ints Tryz.underlying46 Tryz.underlying3 (by kernel_rfl) h with ⟨hcs, _⟩ | ⟨x, n, c, zs, hcs, _, hl, hm, hz, _, hcell, hwz⟩
  · simp only [List.cons.injEq, and_true] at hcs
    exact ⟨none, [], 0, hcs, RdI.nil, by simp, by simp⟩
  · simp only [List.cons.injEq, and_true] at hcs
    unfold maxLen at hm
    have hzl : n ≤ zs.length := by rw [hz]; split <;> omega
    have hln : (zs.take n).length = n := by rw [List.length_take]; omega
    refine ⟨some x, zs.take n, c, by rw [hln]; exact hcs, RdI.of_arg (fun i hi => ?_), by omega, by omega⟩
    rw [hln] at hi
    have := hcell i (by omega)
    rw [List.getD_eq_getElem?_getD, List.getElem?_eq_getElem (by omega)] at this
    rw [this, List.getElem_take]; rfl

/-- What every frame that comes in meets. -/
def FrmIn (W : World) (f : Frm) : Prop := RdI .i64 W f.A f.pix ∧ f.pix.length ≤ 9223372036854775807 ∧ f.pix.length ≤ f.c ∧ Fa.InI f.w ∧ Fa.InI f.h

set_option maxRecDepth 100000 in
theorem frame_cells {fuel : Nat} {cs : List Value} {y : DataW H × List MemPlace} (hl : cs.length = 3) (h : DataW.trod enc Tryz.prog W base spare held fuel 48 cs = some y) : ∃ f : Frm, cs = f.cells ∧ FrmIn W f := by
  have hc1 : Tryz.prog.cellsOf 3 = 1 := by kernel_rfl
  have hc9 : Tryz.prog.cellsOf 46 = 1 := by kernel_rfl
  obtain ⟨xs, n', _, hx, _, hlen, hg⟩ := DataW.trod_struct Tryz.underlying48 h
  match cs, hl with
  | [c0, c1, c2], _ =>
    match xs, hlen with
    | [y0, y1, y2], _ =>
      obtain ⟨k0, e0, _, w0⟩ := DataW.trod_int Tryz.underlying3 (show DataW.trod enc Tryz.prog W base spare held n' 3 [c0] = some y0 by simpa [hc1] using hg 0 _ rfl)
      obtain ⟨k1, e1, _, w1⟩ := DataW.trod_int Tryz.underlying3 (show DataW.trod enc Tryz.prog W base spare held n' 3 [c1] = some y1 by simpa [hc1] using hg 1 _ rfl)
      obtain ⟨A, l, c, e2, hr, hl1, hl2⟩ := open_samples (show DataW.trod enc Tryz.prog W base spare held n' 46 [c2] = some y2 by simpa [hc1, hc9] using hg 2 _ rfl)
      simp only [List.cons.injEq, and_true] at e0 e1
      subst e0 e1 e2
      exact ⟨⟨k0, k1, A, l, c⟩, rfl, hr, hl1, hl2, bounds_i64 w0, bounds_i64 w1⟩

set_option maxRecDepth 100000 in
/-- A frame, opened. -/
theorem open_frame {v : Value} {d : DataW H} {p : List MemPlace} (hv : Value.okWide Tryz.prog W .any b0 48 v) (h : DataW.Trod enc Tryz.prog W base spare held 48 v d p) :
    ∃ f : Frm, v = .agg #[.int .i64 f.w, .int .i64 f.h, .slice f.A f.pix.length f.c] ∧ FrmIn W f := by
  obtain ⟨cs, rfl, hsz⟩ := okWide_struct Tryz.underlying48 hv
  obtain ⟨fuel, hf⟩ := h
  have h3 : cs.size = 3 := hsz.trans (show Tryz.prog.cellsOf 48 = 3 by kernel_rfl)
  obtain ⟨f, hc, hi⟩ := frame_cells (cs := cs.toList) (by simpa using h3) (by simpa [Value.cells] using hf)
  refine ⟨f, ?_, hi⟩
  congr 1
  apply Array.toList_inj.1
  rw [hc]
  rfl

set_option maxRecDepth 100000 in
/-- A slice of frames, opened. -/
theorem open_frames {v : Value} {d : DataW H} {p : List MemPlace} (hv : Value.okWide Tryz.prog W .any b0 22 v) (h : DataW.Trod enc Tryz.prog W base spare held 22 v d p) :
    ∃ (A : Option Addr) (l : List Frm) (c : Nat), v = .slice A l.length c ∧ Rd W 3 A l.length (flatF l) ∧ l.length ≤ 9223372036854775807 ∧ l.length ≤ c ∧ ∀ f ∈ l, FrmIn W f := by
  obtain ⟨a0, len0, cap0, rfl⟩ := okWide_slice Tryz.underlying22 hv
  obtain ⟨fuel, hf⟩ := h
  rcases open_slice Tryz.underlying22 hf with ⟨hcs, _⟩ | ⟨a, len, cap, m, n, D, Pl, hcs, _, hl, hm, hmm, _, hi⟩
  · simp [Value.cells] at hcs
    obtain ⟨rfl, rfl, rfl⟩ := hcs
    exact ⟨none, [], 0, rfl, Rd.nil, by simp, by simp, by simp⟩
  · simp [Value.cells] at hcs
    obtain ⟨rfl, rfl, rfl⟩ := hcs
    unfold maxLen at hm
    have hml : len0 ≤ m := by rw [hmm]; split <;> omega
    have hC : Tryz.prog.cellsOf 48 = 3 := by kernel_rfl
    have key : ∀ i, i < len0 → ∃ f : Frm, (W.cell? (a.add (i * 3)) = some (.int .i64 f.w) ∧ W.cell? (a.add (i * 3 + 1)) = some (.int .i64 f.h) ∧ W.cell? (a.add (i * 3 + 2)) = some (.slice f.A f.pix.length f.c)) ∧ FrmIn W f := by
      intro i hlt
      obtain ⟨cs', hc, ht⟩ := hi i (by omega)
      rw [hC] at hc
      obtain ⟨_, hcl, hat⟩ := World.cells?_some hc
      obtain ⟨f, rfl, hfi⟩ := frame_cells hcl ht
      have a0 := hat 0 (by omega)
      have a1 := hat 1 (by omega)
      have a2 := hat 2 (by omega)
      rw [Go.Proofs.YtnccebfapihpjaaGreatDoor.add_add] at a0 a1 a2
      exact ⟨f, ⟨a0, a1, a2⟩, hfi⟩
    obtain ⟨l, hll, hq⟩ := list_of len0 key
    refine ⟨some a, l, cap0, by rw [hll], Rd.of_arg (flatF_length l) (fun j u hu => ?_) (by omega), by omega, by omega, fun o ho => ?_⟩
    · have hj : j < (flatF l).length := (List.getElem?_eq_some_iff.1 hu).1
      rw [flatF_length] at hj
      have hil : j / 3 < l.length := by omega
      obtain ⟨⟨q0, q1, q2⟩, _⟩ := hq _ hil
      obtain ⟨f0, f1, f2⟩ := flatF_get l _ hil
      rcases (show j = j / 3 * 3 ∨ j = j / 3 * 3 + 1 ∨ j = j / 3 * 3 + 2 by omega) with e | e | e
      · rw [← e] at f0 q0; rw [f0] at hu; rw [q0]; exact hu
      · rw [← e] at f1 q1; rw [f1] at hu; rw [q1]; exact hu
      · rw [← e] at f2 q2; rw [f2] at hu; rw [q2]; exact hu
    · obtain ⟨i, hil, rfl⟩ := List.getElem_of_mem ho
      exact (hq i hil).2
end

end Go.Proofs.YtnccebfapihpjaaGreatDoor

namespace Go.Proofs.YtnccebfapihpjaaGreatDoor
open Go Go.ChangeShapes Go.WideShapes Go.RowKit Go.Joins Go.Deep

set_option maxRecDepth 100000 in
theorem SourceDecodes_lifted (os : Os) (started : os.Started) (H : Type) (enc : TypeId × Value → H) :
    ReturnsInHanded {} Tryz.checked os 4 .any (fun w args => (Rows.sourceDecodesSpec.pre enc Tryz.prog Tryz.f4 [] false w args ∧ laidMetH Tryz.prog L4 w) ∧ sizedMet enc Tryz.prog Tryz.f4 (OpenSpec.ofChange Rows.sourceDecodesSpec) false w args)
      (Rows.sourceDecodesSpec.post enc Tryz.prog Tryz.f4 false true false false) := by
  refine returnsInHanded_of_change_and (C := Tryz.checked) (X := fun w _ => laidMetH Tryz.prog L4 w) (fun _ _ _ hh h => h.of_heap hh) own started (by kernel_rfl) Tryz.func4
    (ChangeSpec.witness_at (enc := enc) (C := Tryz.checked) (os := os) (X := fun w _ => laidMetH Tryz.prog L4 w) false (laidWorld os) #[.slice none 0 0] 8 rfl (by kernel_rfl) (by kernel_rfl) (by kernel_rfl) (by kernel_rfl) (by kernel_rfl) (laidWorld_met os _)) ?_
  intro W base args ds gs before hval0 hW _ _ hL _
  have hval : ∀ (j : Nat) t v, Tryz.f4.params[j]? = some t → args[j]? = some v → Value.okWide Tryz.prog W .any base t v := hval0
  have hW' := hW
  obtain ⟨p, q, hA0, hV0, rfl, hfz, hnd⟩ := hW
  have hA : DataW.TrodAll enc Tryz.prog W 0 (fun _ => true) true Tryz.f4.params.toList args.toList ds p := hA0
  have hV : DataW.TrodVars enc Tryz.prog W (fun _ => true) [] gs q := hV0
  rw [Tryz.params4] at hA hval
  obtain ⟨v0, vs0, d0, ds0, p0, q0, hargs, rfl, rfl, h0, r0⟩ := trodAll_cons hA
  obtain ⟨rfl, rfl, rfl⟩ := trodAll_nil r0
  obtain rfl : args = #[v0] := by cases args; simp_all
  obtain ⟨rfl, rfl⟩ := trodVars_none hV
  have k0 := h0
  have lt0 : ∀ x ∈ p0, x.block < W.heap.size := by obtain ⟨m, hm⟩ := k0; exact DataW.trod_lt m _ _ _ hm
  obtain ⟨Ab, b, cb, rfl, hrb, hlb, hcb, hmb, hbb⟩ := open_bytes' (hval 0 26 v0 rfl rfl) h0
  clear hA0 hval0
  refine (SourceDecodes_walk hlb hcb hbb W hrb (handle_of_laid hL) (pow_of_laid hL)).mono fun e W' ⟨he, bel⟩ => ?_
  subst he
  exact ⟨_, rfl, _, _, _, [], _, [], hW', trodAll_mk1 (shut_bool Tryz.underlying4 _), (trodAll_cons_mk (Below.trod laidOut (by kernel_rfl) (of_decide_eq_true (by kernel_rfl)) k0 bel lt0) trodAll_mk0), rfl, bel.frame _, fun h => by cases h⟩

theorem SourceDecodes_row : Rows.SourceDecodesSaid :=
  OpenClaim.holds_of_wide 4 Tryz.f4 rfl rfl rfl rfl rfl rfl rfl ⟨rfl, rfl, rfl, rfl, rfl⟩ rfl rfl rfl rfl rfl (by kernel_rfl) Tryz.func4 (by kernel_rfl)
    (of_decide_eq_true (by kernel_rfl)) (by unfold Func.isWrapper; rw [if_neg (of_decide_eq_false (by kernel_rfl))]; exact ⟨rfl, rfl⟩)
    (fun os started H enc _ => SourceDecodes_lifted os started H enc)

theorem SourceDecodes_holds : Rows.SourceDecodesCardSaid :=
  Claim7.holds_tied_plain_at .later [] _ _ _ _
    SourceDecodes_row (fun _ h => by cases h) (by kernel_rfl) (fun _ h => by cases h) sourceDecodes_row_tie rfl ⟨rfl, rfl⟩ (by kernel_rfl) rfl
    (fun f fn hf hfn => by
      obtain rfl : f = 4 := Option.some.inj ((show Tryz.prog.funcNamed "kinescope/kinlaw15.SourceDecodes" = some 4 by kernel_rfl).symm.trans hf) |>.symm
      obtain rfl : fn = Tryz.f4 := (Option.some.inj (Tryz.func4.symm.trans hfn)).symm
      exact ⟨by kernel_rfl, fun j t ht => by
        rw [Tryz.params4] at ht
        rcases j with _ | j
        · obtain rfl : t = 26 := by simpa using ht.symm
          exact (show Tryz.prog.wantsStandIn 26 = false by kernel_rfl)
        · simp at ht⟩)
    (by kernel_rfl)
#print axioms SourceDecodes_holds
end Go.Proofs.YtnccebfapihpjaaGreatDoor
