/- The walk of SourceBack: there and back; cut off, with one byte more. -/
import Derived.Test.YtnccebfapihpjaaDoorSourceFirst
import Derived.Test.YtnccebfapihpjaaDoorSourceSame
namespace Go.Proofs.YtnccebfapihpjaaDoor
open Go Go.RowKit Go.Extern.Stop Go.Stop Go.Extern

theorem bits_bd (w : Nat) : ∀ (l : List Frm), (∀ g ∈ l, g.may = true) → (So.allBits w (l.map Frm.pix)).length ≤ 56323 * l.length
  | [], _ => by simp [So.allBits]
  | g :: r, h => by
    have ih := bits_bd w r fun x hx => h x (by simp [hx])
    obtain ⟨_, _, _, h4, h5⟩ := may_bd (h g (by simp))
    have := frame_len h5 w
    simp only [List.map_cons, So.allBits, List.length_append, List.length_cons]
    omega
theorem enc_bd {l : List Frm} (h0 : checkF l = 0) : 5 ≤ (encF l).length ∧ (encF l).length ≤ 200000 := by
  obtain ⟨f, r, h1, h2, h3, _⟩ := enc_parts h0
  have hb : bitsF l = So.allBits f.w.toNat (l.map Frm.pix) := by subst h1; rfl
  have h4 := bits_bd f.w.toNat l fun g hg => (h2 g hg).1
  have h5 := enc_len h0
  rw [← hb] at h4
  omega
theorem enc_bytes {l : List Frm} (h0 : checkF l = 0) : ∀ x ∈ encF l, 0 ≤ x ∧ x ≤ 255 := by
  obtain ⟨f, r, h1, h2, h3, _, h4, h5⟩ := enc_parts h0
  intro x hx
  rw [enc_eq h1] at hx
  rcases List.mem_append.1 hx with h | h
  · simp only [List.mem_cons, List.not_mem_nil, or_false] at h
    omega
  · exact Bi.pack_bd _ x h
theorem enc_sides {l : List Frm} (h0 : checkF l = 0) : ∀ f ∈ l, (wOf (encF l) : Int) = f.w ∧ (hOf (encF l) : Int) = f.h := by
  obtain ⟨f, r, h1, h2, h3, ⟨h6, h7⟩, h4, h5⟩ := enc_parts h0
  intro g hg
  obtain ⟨_, h8, h9⟩ := h2 g hg
  rw [enc_eq h1, of_head.1, of_head.2.1, h8, h9]
  omega
/-- What comes back is what went in. -/
theorem back_same {l m : List Frm} (h0 : checkF l = 0) (hp : m.map Frm.pix = l.map Frm.pix) (hs : ∀ f ∈ m, f.w = wOf (encF l) ∧ f.h = hOf (encF l)) : m.length = l.length ∧ ∀ i (h : i < m.length) (h' : i < l.length), sameF m[i] l[i] := by
  have hl : m.length = l.length := by have := congrArg List.length hp; simpa using this
  refine ⟨hl, fun i h h' => ?_⟩
  obtain ⟨h1, h2⟩ := hs _ (List.getElem_mem h)
  obtain ⟨h3, h4⟩ := enc_sides h0 _ (List.getElem_mem h')
  have h5 : (m.map Frm.pix)[i]? = (l.map Frm.pix)[i]? := by rw [hp]
  rw [List.getElem?_map, List.getElem?_map, List.getElem?_eq_getElem h, List.getElem?_eq_getElem h'] at h5
  exact ⟨h1.trans h3, h2.trans h4, by simpa using h5⟩

/-- What Decode answers where it refuses. -/
def DecNo (w : World) (e : Ending) (w' : World) : Prop := ∃ T x, e = .returned (.tuple #[.slice none 0 0, .iface T x]) ∧ Below w.heap.size w w'
theorem Decode_no {b : List Int} {A : Option Addr} {c : Nat} (hd : ∃ p k, decF b = .error (p, k)) (hbl : b.length ≤ 1000000000) (hcap : b.length ≤ c) (hbd : ∀ x ∈ b, 0 ≤ x ∧ x ≤ 255) (w : World) (ha : RdI .u8 w A b) :
    Calls Tryd.prog 10 #[.slice A b.length c] w (DecNo w) := by
  obtain ⟨p, k, hd⟩ := hd
  refine (Decode_any hbl hcap hbd w ha).mono ?_
  unfold DecOut
  rw [hd]
  rintro e w' ⟨⟨v, rfl, hE⟩, hb⟩
  obtain ⟨T, x, rfl⟩ := hE.iface
  exact ⟨T, x, rfl, hb⟩

set_option maxRecDepth 100000 in
set_option maxHeartbeats 4000000 in
theorem SourceBack_ok {l : List Frm} {A : Option Addr} {c : Nat} {cut x : Int} (hl : l.length ≤ 9223372036854775807) (hcb : -9223372036854775808 ≤ cut ∧ cut ≤ 9223372036854775807) (hxb : 0 ≤ x ∧ x ≤ 255) (hfew : fewF l = true) (h0 : checkF l = 0) (w : World) (ha : RdF w A l) (hg : Gl w) (hT : Tb w) :
    Calls Tryd.prog 3 #[.slice A l.length c, .int .i64 cut, .int .u8 x] w fun e w' => e = .returned (.bool true) ∧ Below w.heap.size w w' := by
  obtain ⟨i0, hi, hz0, hz1, hz2⟩ := info_parts u8Info
  have HA := Lib.hid ha
  have HG := Lib.hid hg
  have HT := Lib.hid hT
  have H0 := Lib.hid h0
  have C1 := Lib.hid (first_true w hg hT)
  have C2 := Lib.hid (fun W (hW : Below w.heap.size w W) => few_any (c := c) hl W (ha.keep hW))
  rw [hfew] at C2
  have C3 := Lib.hid (fun W (hW : Below w.heap.size w W) => Encode_ok (c := c) W (ha.keep hW) h0)
  obtain ⟨n5, n9⟩ := enc_bd h0
  have HEB := Lib.hid (enc_bytes h0)
  have HDE := Lib.hid (dec_enc h0)
  have HDC : Hid (∀ k, k < (encF l).length → ∃ p c, decF ((encF l).take k) = .error (p, c)) := Lib.hid fun k hk => dec_cut h0 hk
  have HDM := Lib.hid (dec_more h0 x)
  have HBS : Hid (∀ m : List Frm, m.map Frm.pix = l.map Frm.pix → (∀ f ∈ m, f.w = wOf (encF l) ∧ f.h = hOf (encF l)) → m.length = l.length ∧ ∀ i (h : i < m.length) (h' : i < l.length), sameF m[i] l[i]) := Lib.hid fun m => back_same h0
  obtain ⟨b, hb⟩ : ∃ b, encF l = b := ⟨_, rfl⟩
  obtain ⟨n, hn⟩ : ∃ n, l.length = n := ⟨_, rfl⟩
  obtain ⟨nb, hnb⟩ : ∃ nb, b.length = nb := ⟨_, rfl⟩
  rw [hb] at n5 n9 HEB HDE HDC HDM HBS C3
  rw [hnb] at n5 n9 HDC C3
  rw [hn] at C2 C3 hl ⊢
  have HN := Lib.hid hn
  have HNB := Lib.hid hnb
  clear ha hg hT h0 hfew hn hb hnb
  go_enter Tryd.func3, Tryd.ntmps3
  go_wp2_with fail
  refine C1.out.mono ?_
  rintro e w1 ⟨rfl, hb1⟩
  have HB1 := Lib.hid hb1
  clear hb1
  go_wp2_with fail
  refine (C2.out _ HB1.out).mono ?_
  rintro e w' ⟨rfl, rfl⟩
  go_wp2_with fail
  refine (C3.out _ HB1.out).mono ?_
  rintro e w2 ⟨A2, c2, rfl, hown2, hb2⟩
  obtain ⟨g, cap, hv, hg2, hgl2, hncap, -, -⟩ := own_form hown2 (by omega)
  obtain ⟨rfl, rfl⟩ : A2 = some ⟨g, 0, none⟩ ∧ c2 = cap := by injection hv with h1 h2 h3; exact ⟨h1, h3⟩
  have HB2 := Lib.hid (HB1.out.trans (hb2.mono HB1.out.size))
  have HO2 := Lib.hid hown2
  have hrd2 : RdI .u8 w2 (some ⟨g, 0, none⟩) b := by
    rw [← HNB.out] at hown2
    exact (RdI.of_own hown2).1
  have HR2 := Lib.hid hrd2
  have CD := Lib.hid (Decode_any (b := b) (c := c2) (by rw [HNB.out]; omega) (by rw [HNB.out]; exact hncap) HEB.out w2 hrd2)
  rw [HNB.out] at CD
  have hgw : w.heap.size ≤ g := by have := HB1.out.size; omega
  clear hv hown2 hb2 hrd2 hg2
  go_wp2_with fail
  refine CD.out.mono ?_
  unfold DecOut
  rw [HDE.out]
  rintro e w3 ⟨⟨A3, c3, m, rfl, hrd3, hpx, hwh⟩, hb3⟩
  obtain ⟨hml, hsame⟩ := HBS.out m hpx hwh
  have HB3 := Lib.hid (HB2.out.trans (hb3.mono HB2.out.size))
  have HO3 := Lib.hid (own_keep HO2.out hb3)
  have HR3 := Lib.hid (HR2.out.keep hb3)
  have CF := Lib.hid (Frames_same (c := c3) (d := c) (by rw [hml, HN.out]; exact hl) hml hsame w3 hrd3 (HA.out.keep HB3.out))
  rw [hml, HN.out] at CF
  rw [hml, HN.out]
  have hs3 : g < w3.heap.size := by have := hb3.size; omega
  clear hrd3 hpx hwh hb3 hml hsame CD HO2 HR2
  go_wp2_with fail
  refine CF.out.mono ?_
  rintro e w4 ⟨rfl, hb4⟩
  have HB4 := Lib.hid (HB3.out.trans (hb4.mono HB3.out.size))
  have HO4 := Lib.hid (own_keep HO3.out hb4)
  have HR4 := Lib.hid (HR3.out.keep hb4)
  have hs4 : g < w4.heap.size := by have := hb4.size; omega
  have hn0 : ¬ nb = 0 := by omega
  have hn1 : ¬ (nb : Int) = 0 := by omega
  have hn2 : ((nb : Int) == 0) = false := by rw [beq_eq_false_iff_ne]; omega
  clear hb4 HO3 HR3 CF
  by_cases hneg : cut < 0
  · obtain ⟨C, hC⟩ : ∃ C : Nat, -(cut + 1) = (C : Int) := ⟨(-(cut + 1)).toNat, by omega⟩
    obtain ⟨k, hk⟩ : ∃ k, C % nb = k := ⟨_, rfl⟩
    have hkn : k < nb := by rw [← hk]; exact Nat.mod_lt _ (by omega)
    have hmod : (C : Int) % (nb : Int) = (k : Int) := by rw [← hk]; rfl
    clear hk
    go_wp2_with fail
    have htl : (b.take k).length = k := by rw [List.length_take, HNB.out]; omega
    have CX := Lib.hid (Decode_no (b := b.take k) (A := some ⟨g, 0, none⟩) (c := c2) (HDC.out k hkn) (by rw [htl]; omega) (by rw [htl]; omega) (fun y hy => HEB.out y (List.mem_of_mem_take hy)) w4 (HR4.out.take (by rw [HNB.out]; omega)))
    rw [htl] at CX
    have hxm : (b ++ [x]).length = nb + 1 := by rw [List.length_append, HNB.out]; rfl
    have HXM := Lib.hid hxm
    clear htl hxm
    go_wp2_with fail
    refine CX.out.mono ?_
    rintro e w5 ⟨T5, y5, rfl, hb5⟩
    have HB5 := Lib.hid (HB4.out.trans (hb5.mono HB4.out.size))
    have HO5 := Lib.hid (own_keep HO4.out hb5)
    have hs5 : w.heap.size ≤ w5.heap.size := HB5.out.size
    have hs51 : w1.heap.size ≤ w5.heap.size := by have := hb5.size; have := (HO4.out.lt g rfl).1; omega
    clear hb5 CX
    go_wp2_with (at_builtin; refine wpList_append_lies _ rfl (.tmp 68) (.tmp 70) _ rfl w1.heap.size 5 i0 _ 1 1 Tryd.underlying25 hi hz0 hz1 hz2 rfl (by omega) (.slice (some ⟨g, 0, none⟩) nb c2) nb _ rfl (HO5.out.alloc _) ⟨w5.heap.size, 0, none⟩ 1 1 [.int .u8 x] rfl rfl (World.news_of_block (cs := #[.int .u8 x]) (t := 5) (fr := (0, 0)) (heap_alloc_new w5 _)) (by simp [Value.oneCell']) (by omega) (by unfold maxLen; omega) (by omega) (by simp; omega) _ rfl ?_; intro gb cp w6 hown6 hgrow6 hat6 hlt6)
    have hb6 := (HB5.out.alloc HB5.out.size (.cells #[.int .u8 x] 5)).grown hgrow6 (by simp; omega) (fun z hz => by have h1 := (HO5.out.lt z hz).1; have h2 := HB1.out.size; omega)
    have hmap : List.map (Value.int .u8) b ++ [Value.int .u8 x] = (b ++ [x]).map (Value.int .u8) := by simp
    rw [hmap] at hown6
    obtain ⟨g6, cp6, hv6, -, -, hncap6, -, -⟩ := own_form hown6 (by omega)
    obtain rfl : cp = cp6 := by injection hv6
    have hrd6 : RdI .u8 w6 (some ⟨gb, 0, none⟩) (b ++ [x]) := by
      rw [← HXM.out] at hown6
      exact (RdI.of_own hown6).1
    have CY := Lib.hid (Decode_no (b := b ++ [x]) (A := some ⟨gb, 0, none⟩) (c := cp) HDM.out (by rw [HXM.out]; omega) (by rw [HXM.out]; exact hncap6) (fun y hy => by
      rcases List.mem_append.1 hy with h | h
      · exact HEB.out y h
      · simp only [List.mem_singleton] at h; subst h; exact hxb) w6 hrd6)
    rw [HXM.out] at CY
    have HB6 := Lib.hid hb6
    clear hown6 hgrow6 hat6 hb6 hmap hv6 hrd6
    go_wp2_with fail
    refine CY.out.mono ?_
    rintro e w7 ⟨T7, y7, rfl, hb7⟩
    have HB7 := Lib.hid (HB6.out.trans (hb7.mono HB6.out.size))
    clear hb7 CY
    go_wp2_with fail
    refine (first_true _ (HG.out.keep HB7.out) (HT.out.keep HB7.out)).mono ?_
    rintro e w8 ⟨rfl, hb8⟩
    have HB8 := Lib.hid (HB7.out.trans (hb8.mono HB7.out.size))
    clear hb8
    go_wp2_with fail
    go_ret
    exact ⟨rfl, HB8.out⟩
  · obtain ⟨C, rfl⟩ : ∃ C : Nat, cut = (C : Int) := ⟨cut.toNat, by omega⟩
    obtain ⟨k, hk⟩ : ∃ k, C % nb = k := ⟨_, rfl⟩
    have hkn : k < nb := by rw [← hk]; exact Nat.mod_lt _ (by omega)
    have hmod : (C : Int) % (nb : Int) = (k : Int) := by rw [← hk]; rfl
    clear hk
    go_wp2_with fail
    have htl : (b.take k).length = k := by rw [List.length_take, HNB.out]; omega
    have CX := Lib.hid (Decode_no (b := b.take k) (A := some ⟨g, 0, none⟩) (c := c2) (HDC.out k hkn) (by rw [htl]; omega) (by rw [htl]; omega) (fun y hy => HEB.out y (List.mem_of_mem_take hy)) w4 (HR4.out.take (by rw [HNB.out]; omega)))
    rw [htl] at CX
    have hxm : (b ++ [x]).length = nb + 1 := by rw [List.length_append, HNB.out]; rfl
    have HXM := Lib.hid hxm
    clear htl hxm
    go_wp2_with fail
    refine CX.out.mono ?_
    rintro e w5 ⟨T5, y5, rfl, hb5⟩
    have HB5 := Lib.hid (HB4.out.trans (hb5.mono HB4.out.size))
    have HO5 := Lib.hid (own_keep HO4.out hb5)
    have hs5 : w.heap.size ≤ w5.heap.size := HB5.out.size
    have hs51 : w1.heap.size ≤ w5.heap.size := by have := hb5.size; have := (HO4.out.lt g rfl).1; omega
    clear hb5 CX
    go_wp2_with (at_builtin; refine wpList_append_lies _ rfl (.tmp 68) (.tmp 70) _ rfl w1.heap.size 5 i0 _ 1 1 Tryd.underlying25 hi hz0 hz1 hz2 rfl (by omega) (.slice (some ⟨g, 0, none⟩) nb c2) nb _ rfl (HO5.out.alloc _) ⟨w5.heap.size, 0, none⟩ 1 1 [.int .u8 x] rfl rfl (World.news_of_block (cs := #[.int .u8 x]) (t := 5) (fr := (0, 0)) (heap_alloc_new w5 _)) (by simp [Value.oneCell']) (by omega) (by unfold maxLen; omega) (by omega) (by simp; omega) _ rfl ?_; intro gb cp w6 hown6 hgrow6 hat6 hlt6)
    have hb6 := (HB5.out.alloc HB5.out.size (.cells #[.int .u8 x] 5)).grown hgrow6 (by simp; omega) (fun z hz => by have h1 := (HO5.out.lt z hz).1; have h2 := HB1.out.size; omega)
    have hmap : List.map (Value.int .u8) b ++ [Value.int .u8 x] = (b ++ [x]).map (Value.int .u8) := by simp
    rw [hmap] at hown6
    obtain ⟨g6, cp6, hv6, -, -, hncap6, -, -⟩ := own_form hown6 (by omega)
    obtain rfl : cp = cp6 := by injection hv6
    have hrd6 : RdI .u8 w6 (some ⟨gb, 0, none⟩) (b ++ [x]) := by
      rw [← HXM.out] at hown6
      exact (RdI.of_own hown6).1
    have CY := Lib.hid (Decode_no (b := b ++ [x]) (A := some ⟨gb, 0, none⟩) (c := cp) HDM.out (by rw [HXM.out]; omega) (by rw [HXM.out]; exact hncap6) (fun y hy => by
      rcases List.mem_append.1 hy with h | h
      · exact HEB.out y h
      · simp only [List.mem_singleton] at h; subst h; exact hxb) w6 hrd6)
    rw [HXM.out] at CY
    have HB6 := Lib.hid hb6
    clear hown6 hgrow6 hat6 hb6 hmap hv6 hrd6
    go_wp2_with fail
    refine CY.out.mono ?_
    rintro e w7 ⟨T7, y7, rfl, hb7⟩
    have HB7 := Lib.hid (HB6.out.trans (hb7.mono HB6.out.size))
    clear hb7 CY
    go_wp2_with fail
    refine (first_true _ (HG.out.keep HB7.out) (HT.out.keep HB7.out)).mono ?_
    rintro e w8 ⟨rfl, hb8⟩
    have HB8 := Lib.hid (HB7.out.trans (hb8.mono HB7.out.size))
    clear hb8
    go_wp2_with fail
    go_ret
    exact ⟨rfl, HB8.out⟩

set_option maxRecDepth 100000 in
set_option maxHeartbeats 1000000 in
theorem SourceBack_walk {l : List Frm} {A : Option Addr} {c : Nat} {cut x : Int} (hl : l.length ≤ 9223372036854775807) (hcb : -9223372036854775808 ≤ cut ∧ cut ≤ 9223372036854775807) (hxb : 0 ≤ x ∧ x ≤ 255) (w : World) (ha : RdF w A l) (hg : Gl w) (hT : Tb w) :
    Calls Tryd.prog 3 #[.slice A l.length c, .int .i64 cut, .int .u8 x] w fun e w' => e = .returned (.bool true) ∧ Below w.heap.size w w' := by
  have HG := Lib.hid hg
  have HT := Lib.hid hT
  have C1 := Lib.hid (first_true w hg hT)
  have C2 := Lib.hid (fun W (hW : Below w.heap.size w W) => few_any (c := c) hl W (ha.keep hW))
  cases hfew : fewF l with
  | true =>
    by_cases h0 : checkF l = 0
    · exact SourceBack_ok hl hcb hxb hfew h0 w ha hg hT
    · have h40 : l.length ≤ 40 := by
        unfold fewF at hfew
        simp only [Bool.and_eq_true, decide_eq_true_eq] at hfew
        exact hfew.1
      have C3 := Lib.hid (fun W (hW : Below w.heap.size w W) => Encode_no (c := c) (by omega) W (ha.keep hW) h0)
      obtain ⟨k, hk⟩ : ∃ k, checkF l = k := ⟨_, rfl⟩
      obtain ⟨n, hn⟩ : ∃ n, l.length = n := ⟨_, rfl⟩
      rw [hfew] at C2
      rw [hn] at C2 C3 ⊢
      rw [hk] at C3
      clear ha hg hT h0 hfew hn hl hk h40
      go_enter Tryd.func3, Tryd.ntmps3
      go_wp2_with fail
      refine C1.out.mono ?_
      rintro e w1 ⟨rfl, hb1⟩
      have HB1 := Lib.hid hb1
      clear hb1
      go_wp2_with fail
      refine (C2.out _ HB1.out).mono ?_
      rintro e w' ⟨rfl, rfl⟩
      go_wp2_with fail
      refine (C3.out _ HB1.out).mono ?_
      rintro e w2 ⟨rfl, hb2⟩
      have HB2 := Lib.hid (HB1.out.trans (hb2.mono HB1.out.size))
      clear hb2
      go_wp2_with fail
      refine (first_true _ (HG.out.keep HB2.out) (HT.out.keep HB2.out)).mono ?_
      rintro e w3 ⟨rfl, hb3⟩
      have HB3 := Lib.hid (HB2.out.trans (hb3.mono HB2.out.size))
      clear hb3
      go_wp2_with fail
      go_ret
      exact ⟨rfl, HB3.out⟩
  | false =>
    rw [hfew] at C2
    clear ha hg hT hfew
    go_enter Tryd.func3, Tryd.ntmps3
    go_wp2_with fail
    refine C1.out.mono ?_
    rintro e w1 ⟨rfl, hb1⟩
    have HB1 := Lib.hid hb1
    clear hb1
    go_wp2_with fail
    refine (C2.out _ HB1.out).mono ?_
    rintro e w' ⟨rfl, rfl⟩
    go_wp2_with fail
    refine (first_true _ (HG.out.keep HB1.out) (HT.out.keep HB1.out)).mono ?_
    rintro e w2 ⟨rfl, hb2⟩
    have HB2 := Lib.hid (HB1.out.trans (hb2.mono HB1.out.size))
    clear hb2
    go_wp2_with fail
    go_ret
    exact ⟨rfl, HB2.out⟩

end Go.Proofs.YtnccebfapihpjaaDoor
