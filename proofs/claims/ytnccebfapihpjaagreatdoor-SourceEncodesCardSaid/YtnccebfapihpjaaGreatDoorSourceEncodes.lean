/- The walk of SourceEncodes: any frames as bytes, as the document has them. -/
import Derived.Test.YtnccebfapihpjaaGreatDoorSourceFirst
import Derived.Test.YtnccebfapihpjaaGreatDoorSourceSame
import Derived.Test.YtnccebfapihpjaaGreatDoorSourceCp
import Derived.Test.YtnccebfapihpjaaGreatDoorSourceRO
namespace Go.Proofs.YtnccebfapihpjaaGreatDoor
open Go Go.RowKit Go.Extern.Stop Go.Stop Go.Extern

/-- What is seen of a frame. -/
def Frm.key (f : Frm) : Int × Int × List Int := (f.w, f.h, f.pix)
def checkK (l : List (Int × Int × List Int)) : Int :=
  match l with
  | [] => 2
  | f :: _ => if l.all (fun g => mayF g.1 g.2.1 g.2.2) = false then 2 else if l.all (fun g => decide (g.1 = f.1) && decide (g.2.1 = f.2.1)) = false then 14 else if 16 < l.length then 5 else 0
def encK (l : List (Int × Int × List Int)) : List Int :=
  match l with
  | [] => []
  | f :: r => [75, 83, f.1 / 8, f.2.1 / 8, ((f :: r).length : Int)] ++ Bi.pack (So.allBits f.1.toNat ((f :: r).map fun g => g.2.2))
theorem check_key (l : List Frm) : checkF l = checkK (l.map Frm.key) := by
  rcases l with _ | ⟨f, r⟩
  · rfl
  · simp only [checkF, checkK, List.map_cons, fits]
    rw [← List.map_cons (f := Frm.key), List.all_map, List.all_map, List.length_map]
    rfl
theorem enc_key (l : List Frm) : encF l = encK (l.map Frm.key) := by
  rcases l with _ | ⟨f, r⟩
  · rfl
  · simp only [encF, encK, List.map_cons, List.length_cons, List.length_map, List.map_map]
    rfl
theorem keys_same {l m : List Frm} (hl : m.length = l.length) (hs : ∀ i (h : i < m.length) (h' : i < l.length), m[i].w = l[i].w ∧ m[i].h = l[i].h ∧ m[i].pix = l[i].pix) : checkF m = checkF l ∧ encF m = encF l := by
  have hk : m.map Frm.key = l.map Frm.key := by
    apply List.ext_getElem
    · simp [hl]
    · intro i h1 h2
      simp only [List.length_map] at h1 h2
      obtain ⟨e1, e2, e3⟩ := hs i h1 h2
      simp only [List.getElem_map, Frm.key, e1, e2, e3]
  exact ⟨by rw [check_key, check_key, hk], by rw [enc_key, enc_key, hk]⟩
theorem few_bd {l : List Frm} (h : fewF l = true) : l.length ≤ 40 ∧ ∀ f ∈ l, f.pix.length ≤ 20000 := by
  unfold fewF at h
  simp only [Bool.and_eq_true, decide_eq_true_eq] at h
  obtain ⟨h1, h2⟩ := h
  rw [List.take_of_length_le h1] at h2
  refine ⟨h1, fun f hf => ?_⟩
  have key : ∀ l : List Frm, f ∈ l → min f.pix.length 20001 ≤ cntF l := by
    intro l
    induction l with
    | nil => intro h; cases h
    | cons g r ih =>
      intro h
      simp only [cntF, List.map_cons, List.sum_cons] at *
      rcases List.mem_cons.1 h with rfl | h
      · omega
      · have := ih h; omega
  have := key l hf
  omega

set_option maxRecDepth 100000 in
set_option maxHeartbeats 4000000 in
theorem SourceEncodes_few {l : List Frm} {A : Option Addr} {c : Nat} (hl : l.length ≤ 9223372036854775807) (hfew : fewF l = true) (w : World) (ha : RdF w A l) (hg : Gl w) (hT : Tb w) :
    Calls Tryz.prog 3 #[.slice A l.length c] w fun e w' => e = .returned (.bool true) ∧ Below w.heap.size w w' := by
  obtain ⟨h40, hpx⟩ := few_bd hfew
  have HA := Lib.hid ha
  have HG := Lib.hid hg
  have HT := Lib.hid hT
  have C1 := Lib.hid (first_true w hg hT)
  have C2 := Lib.hid (fun W (hW : Below w.heap.size w W) => few_any (c := c) hl W (ha.keep hW))
  rw [hfew] at C2
  have C3 := Lib.hid (fun W (hW : Below w.heap.size w W) => CopyFrames_any (c := c) (by omega) (fun f hf => by have := hpx f hf; omega) W (ha.keep hW))
  have CO := Lib.hid (fun W (hW : Below w.heap.size w W) (h0 : checkF l = 0) => REncode_ok (c := c) W (ha.keep hW) h0)
  have CN := Lib.hid (fun W (hW : Below w.heap.size w W) (h0 : checkF l ≠ 0) => REncode_no (c := c) (by omega) W (ha.keep hW) h0)
  obtain ⟨n, hn⟩ : ∃ n, l.length = n := ⟨_, rfl⟩
  rw [hn] at C2 C3 CO CN hl h40 ⊢
  have HN := Lib.hid hn
  clear ha hg hT hfew hn hpx
  go_enter Tryz.func3, Tryz.ntmps3
  go_wp2_with fail
  refine C1.out.mono ?_
  rintro e w1 ⟨rfl, hb1⟩
  have HB1 := Lib.hid hb1
  clear hb1
  go_wp2_with fail
  refine (C2.out _ HB1.out).mono ?_
  rintro e w' ⟨rfl, rfl⟩
  go_wp2_with fail
  refine (C3.out _ HB1.out).mono ?_
  unfold NewFs
  rintro e w2 ⟨A2, c2, m, rfl, hml, hms, hrow, hof, hb2⟩
  rw [HN.out] at hml ⊢
  have HB2 := Lib.hid (HB1.out.trans (hb2.mono HB1.out.size))
  have hrd2 : RdF w2 A2 m := hof.rd hrow (fun f hf => by
    obtain ⟨i, hi, rfl⟩ := List.getElem_of_mem hf
    have := ((hof _ (List.getElem_mem hi)).1)
    simp only [List.length_map] at this
    have h2 : i < l.length := by rw [HN.out, ← hml]; exact hi
    rw [(hms i hi h2).2.2]
    exact (HA.out.pix h2).2)
  obtain ⟨hck, hek⟩ := keys_same (l := l) (m := m) (by rw [hml, HN.out]) hms
  have HR2 := Lib.hid hrd2
  have HMS := Lib.hid (show ∀ i (h : i < m.length) (h' : i < l.length), sameF m[i] l[i] from hms)
  have HML := Lib.hid hml
  have CF := Lib.hid (fun W (hW : Below w2.heap.size w2 W) (hW' : Below w.heap.size w W) => Frames_same (c := c2) (d := c) (l := m) (m := l) (by rw [hml]; exact hl) (by rw [hml, HN.out]) HMS.out W (hrd2.keep hW) (HA.out.keep hW'))
  rw [hml, HN.out] at CF
  by_cases h0 : checkF l = 0
  · have CE := Lib.hid (Encode_ok (l := m) (c := c2) w2 hrd2 (hck.trans h0))
    rw [hek, hml] at CE
    obtain ⟨b, hb⟩ : ∃ b, encF l = b := ⟨_, rfl⟩
    have CO' := Lib.hid (fun W hW => CO.out W hW h0)
    rw [hb] at CE CO'
    obtain ⟨nb, hnb⟩ : ∃ nb, b.length = nb := ⟨_, rfl⟩
    have HNB := Lib.hid hnb
    rw [hnb] at CE
    clear hrow hof hb2 hrd2 hck hek h0 hb hml hms hnb
    go_wp2_with fail
    refine CE.out.mono ?_
    rintro e w3 ⟨A3, c3, rfl, hown3, hb3⟩
    have hrd3 : RdI .u8 w3 A3 b := by
      rw [← HNB.out] at hown3
      exact (RdI.of_own hown3).1
    have HR3 := Lib.hid hrd3
    have HB23 := Lib.hid hb3
    have HB3 := Lib.hid (HB2.out.trans (hb3.mono HB2.out.size))
    clear hown3 hrd3 hb3 CE
    go_wp2_with fail
    refine (CO'.out _ HB3.out).mono ?_
    unfold REncOk
    rintro e w4 ⟨A4, c4, rfl, hrd4, hb4⟩
    rw [HNB.out]
    have al : Below w4.heap.size w4 (w4.alloc (.cells #[.int .i64 0, .slice none 0 0] 34)) := (Below.refl _ _).alloc (Nat.le_refl _) _
    have HB34 := Lib.hid (hb4.trans (al.mono hb4.size))
    have HB4 := Lib.hid (HB3.out.trans (HB34.out.mono HB3.out.size))
    have HB24 := Lib.hid (HB23.out.trans (HB34.out.mono HB23.out.size))
    have HR4 := Lib.hid (hrd4.keep al)
    have HZ4 := Lib.hid (Blk.new w4 34 #[.int .i64 0, .slice none 0 0])
    clear hrd4 hb4 al
    go_wp2_with fail
    refine (first_true _ (HG.out.keep HB4.out) (HT.out.keep HB4.out)).mono ?_
    rintro e w5 ⟨rfl, hb5⟩
    obtain ⟨⟨s0, s1⟩, -⟩ := er_cells (HZ4.out.keep hb5)
    have HB5 := Lib.hid (HB4.out.trans (hb5.mono HB4.out.size))
    have HB25 := Lib.hid (HB24.out.trans (hb5.mono HB24.out.size))
    have CBy := Lib.hid (Bytes_same (c := c3) (d := c4) w5 HNB.out.symm HNB.out.symm (HR3.out.keep (HB34.out.trans (hb5.mono HB34.out.size))) (HR4.out.keep hb5))
    clear hb5
    go_wp2_with fail
    refine CBy.out.mono ?_
    rintro e w6 ⟨rfl, rfl⟩
    go_wp2_with fail
    refine (Err_none _ (HG.out.keep HB5.out)).mono ?_
    rintro e w7 ⟨rfl, hb7⟩
    have HB7 := Lib.hid (HB5.out.trans (hb7.mono HB5.out.size))
    have HB27 := Lib.hid (HB25.out.trans (hb7.mono HB25.out.size))
    clear hb7 s0 s1
    go_wp2_with fail
    refine (CF.out _ HB27.out HB7.out).mono ?_
    rintro e w8 ⟨rfl, hb8⟩
    have HB8 := Lib.hid (HB7.out.trans (hb8.mono HB7.out.size))
    clear hb8
    go_wp2_with fail
    go_ret
    exact ⟨rfl, HB8.out⟩
  · have CE := Lib.hid (Encode_no (l := m) (c := c2) (by rw [hml]; omega) w2 hrd2 (by rw [hck]; exact h0))
    rw [hck, hml] at CE
    have CN' := Lib.hid (fun W hW => CN.out W hW h0)
    obtain ⟨k, hk⟩ : ∃ k, checkF l = k := ⟨_, rfl⟩
    rw [hk] at CE CN' h0
    have H0 := Lib.hid h0
    clear hrow hof hb2 hrd2 hck hek hml hms hk h0
    go_wp2_with fail
    refine CE.out.mono ?_
    rintro e w3 ⟨rfl, hb3⟩
    have HB23 := Lib.hid hb3
    have HB3 := Lib.hid (HB2.out.trans (hb3.mono HB2.out.size))
    clear hb3 CE
    go_wp2_with fail
    refine (CN'.out _ HB3.out).mono ?_
    unfold REncNo
    rintro e w4 ⟨rfl, hb4⟩
    have al : Below w4.heap.size w4 (w4.alloc (.cells #[.int .i64 k, .slice none 0 0] 34)) := (Below.refl _ _).alloc (Nat.le_refl _) _
    have HB34 := Lib.hid (hb4.trans (al.mono hb4.size))
    have HB4 := Lib.hid (HB3.out.trans (HB34.out.mono HB3.out.size))
    have HB24 := Lib.hid (HB23.out.trans (HB34.out.mono HB23.out.size))
    have HZ4 := Lib.hid (Blk.new w4 34 #[.int .i64 k, .slice none 0 0])
    clear hb4 al
    go_wp2_with fail
    refine (first_true _ (HG.out.keep HB4.out) (HT.out.keep HB4.out)).mono ?_
    rintro e w5 ⟨rfl, hb5⟩
    obtain ⟨⟨s0, s1⟩, -⟩ := er_cells (HZ4.out.keep hb5)
    have HB5 := Lib.hid (HB4.out.trans (hb5.mono HB4.out.size))
    have HB25 := Lib.hid (HB24.out.trans (hb5.mono HB24.out.size))
    have CBy := Lib.hid (Bytes_same (b := []) (c := 0) (d := 0) w5 rfl rfl (A := none) (B := none) RdI.nil RdI.nil)
    clear hb5
    go_wp2_with fail
    refine CBy.out.mono ?_
    rintro e w6 ⟨rfl, rfl⟩
    go_wp2_with fail
    refine (Err_some (path := []) (A := none) (cap := 0) (by simp) H0.out _ (HG.out.keep HB5.out) rfl Rd.nil).mono ?_
    rintro e w7 ⟨rfl, hb7⟩
    have HB7 := Lib.hid (HB5.out.trans (hb7.mono HB5.out.size))
    have HB27 := Lib.hid (HB25.out.trans (hb7.mono HB25.out.size))
    clear hb7 s0 s1
    go_wp2_with fail
    refine (CF.out _ HB27.out HB7.out).mono ?_
    rintro e w8 ⟨rfl, hb8⟩
    have HB8 := Lib.hid (HB7.out.trans (hb8.mono HB7.out.size))
    clear hb8
    go_wp2_with fail
    go_ret
    exact ⟨rfl, HB8.out⟩

set_option maxRecDepth 100000 in
set_option maxHeartbeats 1000000 in
theorem SourceEncodes_walk {l : List Frm} {A : Option Addr} {c : Nat} (hl : l.length ≤ 9223372036854775807) (w : World) (ha : RdF w A l) (hg : Gl w) (hT : Tb w) :
    Calls Tryz.prog 3 #[.slice A l.length c] w fun e w' => e = .returned (.bool true) ∧ Below w.heap.size w w' := by
  have HG := Lib.hid hg
  have HT := Lib.hid hT
  have C1 := Lib.hid (first_true w hg hT)
  have C2 := Lib.hid (fun W (hW : Below w.heap.size w W) => few_any (c := c) hl W (ha.keep hW))
  cases hfew : fewF l with
  | true => exact SourceEncodes_few hl hfew w ha hg hT
  | false =>
    rw [hfew] at C2
    clear ha hg hT hfew
    go_enter Tryz.func3, Tryz.ntmps3
    go_wp2_with fail
    refine C1.out.mono ?_
    rintro e w1 ⟨rfl, hb1⟩
    have HB1 := Lib.hid hb1
    clear hb1
    go_wp2_with fail
    refine (C2.out _ HB1.out).mono ?_
    rintro e w' ⟨rfl, rfl⟩
    go_wp2_with fail
    refine (first_true _ (HG.out.keep HB1.out) (HT.out.keep HB1.out)).mono ?_
    rintro e w2 ⟨rfl, hb2⟩
    have HB2 := Lib.hid (HB1.out.trans (hb2.mono HB1.out.size))
    clear hb2
    go_wp2_with fail
    go_ret
    exact ⟨rfl, HB2.out⟩

end Go.Proofs.YtnccebfapihpjaaGreatDoor
