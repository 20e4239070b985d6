/- The contracts of kinref18.asks, Play, Fills: the document's bucket. -/
import Derived.Test.YthjcidpfiddeeaaDoorVbv
import Derived.Test.YthjcidpfiddeeaaDoorRefIn
import Derived.BigRegion
namespace Go.Proofs.YthjcidpfiddeeaaDoor
open Go Go.RowKit Go.Extern.Stop Go.Stop Go.Extern

/-- What a reference's function that answers a list of integers and an error leaves. -/
def RefOut (w : World) (r : Except Er (List Int)) (e : Ending) (w' : World) : Prop :=
  match r with
  | .ok l => ∃ A c, e = .returned (.tuple #[.slice A l.length c, .agg #[.int .i64 0, .slice none 0 0]]) ∧ RdI .i64 w' A l ∧ Below w.heap.size w w'
  | .error (p, c) => ∃ A cap, e = .returned (.tuple #[.slice none 0 0, .agg #[.int .i64 c, .slice A p.length cap]]) ∧ Rd w' 2 A p.length (flatP p) ∧ Below w.heap.size w w'

theorem refOut_err {w w' : World} {r : Except Er (List Int)} {p : List (ByteArray × Int)} {c : Int} {A : Option Addr} {n cap : Nat} (h : r = .error (p, c)) (hn : n = p.length) (hr : Rd w' 2 A p.length (flatP p)) (hb : Below w.heap.size w w') :
    RefOut w r (.returned (.tuple #[.slice none 0 0, .agg #[.int .i64 c, .slice A n cap]])) w' := by subst h; subst hn; exact ⟨A, cap, rfl, hr, hb⟩
theorem refOut_ok {w w' : World} {r : Except Er (List Int)} {l : List Int} {A : Option Addr} {n c : Nat} (h : r = .ok l) (hn : n = l.length) (hr : RdI .i64 w' A l) (hb : Below w.heap.size w w') :
    RefOut w r (.returned (.tuple #[.slice A n c, .agg #[.int .i64 0, .slice none 0 0]])) w' := by subst h; subst hn; exact ⟨A, c, rfl, hr, hb⟩

/-- The code ahead of all. -/
def asksC (may sizes : Bool) : Int := if may then if sizes then 0 else 3 else 11

set_option maxRecDepth 100000 in
set_option maxHeartbeats 1000000 in
theorem asks_any {qn qx re cu go ra ro fi : Int} {A : Option Addr} {l : List Int} {c : Nat} (hl : l.length ≤ 9223372036854775807) (w : World) (ha : RdI .i64 w A l) :
    Calls Tryd.prog 25 #[.agg #[.int .i64 qn, .int .i64 qx, .int .i64 re, .int .i64 cu, .int .i64 go, .int .i64 ra, .int .i64 ro, .int .i64 fi], .slice A l.length c] w
      fun e w' => e = .returned (.agg #[.int .i64 (asksC (Vb.mayB qn qx re cu go ra ro fi) (Vb.sizesB l)), .slice none 0 0]) ∧ Below w.heap.size w w' := by
  have HA := Lib.hid ha
  clear ha
  have hcc0 := Blk.new1 w (cfgC qn qx re cu go ra ro fi) 35 #[.int .i64 0, .slice none 0 0]
  have hbA0 : Below w.heap.size w ((w.alloc (cfgC qn qx re cu go ra ro fi)).alloc (.cells #[.int .i64 0, .slice none 0 0] 35)) := (((Below.refl _ _).alloc (Nat.le_refl _) _).alloc (by simp) _)
  cases hmay : Vb.mayB qn qx re cu go ra ro fi with
  | false =>
    go_enter Tryd.func25, Tryd.ntmps25
    go_wp2_with fail
    refine (RMay_any _).mono ?_
    rintro e w1 ⟨rfl, hb1⟩
    have hcc := hcc0.keep hb1
    have hbA := hbA0.trans (hb1.mono hbA0.size)
    go_wp2_with fail
    refine (Fail_any _ _).mono ?_
    rintro e w2 ⟨rfl, hb2⟩
    have hcc2 := hcc.keep hb2
    have hx0 : w2.cell? ⟨w.heap.size + 1, 0, none⟩ = some (.int .i64 0) := by rw [hcc2.cell]; rfl
    have hx1 : w2.cell? ⟨w.heap.size + 1, 1, none⟩ = some (.slice none 0 0) := by rw [hcc2.cell]; rfl
    have hf0 := hcc2.frozen 0
    have hf1 := hcc2.frozen 1
    go_wp2_with fail
    refine bodyPost_ret (v := .agg #[.int .i64 11, .slice none 0 0]) (by simp [results, Tryd.results25, go_sem, hx0, hx1]) rfl ⟨rfl, ?_⟩
    exact ((hbA.trans (hb2.mono hbA.size)).setCell (by simp) _).setCell (by simp) _
  | true =>
    by_cases hlen : l.length ≤ 4096
    · cases hwi : Vb.within 0 1073741824 l with
      | false =>
        have HC := Lib.hid (show Ending.returned (Value.agg #[.int .i64 3, .slice none 0 0]) = .returned (.agg #[.int .i64 (asksC true (Vb.sizesB l)), .slice none 0 0]) by simp [asksC, Vb.sizesB, hwi])
        go_enter Tryd.func25, Tryd.ntmps25
        go_wp2_with fail
        refine (RMay_any _).mono ?_
        rw [hmay]
        rintro e w1 ⟨rfl, hb1⟩
        have hcc := hcc0.keep hb1
        have hbA := hbA0.trans (hb1.mono hbA0.size)
        go_wp2_with fail
        refine (Within_any hl _ (HA.out.keep hbA)).mono ?_
        rw [hwi]
        rintro e w' ⟨rfl, rfl⟩
        go_wp2_with fail
        refine (Fail_any _ _).mono ?_
        rintro e w2 ⟨rfl, hb2⟩
        have hcc2 := hcc.keep hb2
        have hx0 : w2.cell? ⟨w.heap.size + 1, 0, none⟩ = some (.int .i64 0) := by rw [hcc2.cell]; rfl
        have hx1 : w2.cell? ⟨w.heap.size + 1, 1, none⟩ = some (.slice none 0 0) := by rw [hcc2.cell]; rfl
        have hf0 := hcc2.frozen 0
        have hf1 := hcc2.frozen 1
        go_wp2_with fail
        refine bodyPost_ret (v := .agg #[.int .i64 3, .slice none 0 0]) (by simp [results, Tryd.results25, go_sem, hx0, hx1]) rfl ⟨HC.out, ?_⟩
        exact ((hbA.trans (hb2.mono hbA.size)).setCell (by simp) _).setCell (by simp) _
      | true =>
        have HC := Lib.hid (show Ending.returned (Value.agg #[.int .i64 0, .slice none 0 0]) = .returned (.agg #[.int .i64 (asksC true (Vb.sizesB l)), .slice none 0 0]) by simp [asksC, Vb.sizesB, hwi, hlen])
        go_enter Tryd.func25, Tryd.ntmps25
        go_wp2_with fail
        refine (RMay_any _).mono ?_
        rw [hmay]
        rintro e w1 ⟨rfl, hb1⟩
        have hcc := hcc0.keep hb1
        have hbA := hbA0.trans (hb1.mono hbA0.size)
        go_wp2_with fail
        refine (Within_any hl _ (HA.out.keep hbA)).mono ?_
        rw [hwi]
        rintro e w' ⟨rfl, rfl⟩
        have hx0 : w1.cell? ⟨w.heap.size + 1, 0, none⟩ = some (.int .i64 0) := by rw [hcc.cell]; rfl
        have hx1 : w1.cell? ⟨w.heap.size + 1, 1, none⟩ = some (.slice none 0 0) := by rw [hcc.cell]; rfl
        have hf0 := hcc.frozen 0
        have hf1 := hcc.frozen 1
        go_wp2_with fail
        refine bodyPost_ret (v := .agg #[.int .i64 0, .slice none 0 0]) (by simp [results, Tryd.results25, go_sem, hx0, hx1]) rfl ⟨HC.out, ?_⟩
        exact (hbA.setCell (by simp) _).setCell (by simp) _
    · have HC := Lib.hid (show Ending.returned (Value.agg #[.int .i64 3, .slice none 0 0]) = .returned (.agg #[.int .i64 (asksC true (Vb.sizesB l)), .slice none 0 0]) by simp [asksC, Vb.sizesB, hlen])
      go_enter Tryd.func25, Tryd.ntmps25
      go_wp2_with fail
      refine (RMay_any _).mono ?_
      rw [hmay]
      rintro e w1 ⟨rfl, hb1⟩
      have hcc := hcc0.keep hb1
      have hbA := hbA0.trans (hb1.mono hbA0.size)
      go_wp2_with fail
      refine (Fail_any _ _).mono ?_
      rintro e w2 ⟨rfl, hb2⟩
      have hcc2 := hcc.keep hb2
      have hx0 : w2.cell? ⟨w.heap.size + 1, 0, none⟩ = some (.int .i64 0) := by rw [hcc2.cell]; rfl
      have hx1 : w2.cell? ⟨w.heap.size + 1, 1, none⟩ = some (.slice none 0 0) := by rw [hcc2.cell]; rfl
      have hf0 := hcc2.frozen 0
      have hf1 := hcc2.frozen 1
      go_wp2_with fail
      refine bodyPost_ret (v := .agg #[.int .i64 3, .slice none 0 0]) (by simp [results, Tryd.results25, go_sem, hx0, hx1]) rfl ⟨HC.out, ?_⟩
      exact ((hbA.trans (hb2.mono hbA.size)).setCell (by simp) _).setCell (by simp) _

set_option maxRecDepth 100000 in
set_option maxHeartbeats 2000000 in
theorem RPlay_any {qn qx re cu go ra ro fi : Int} {A : Option Addr} {l : List Int} {c : Nat} (hl : l.length ≤ 9223372036854775807) (w : World) (ha : RdI .i64 w A l) :
    Calls Tryd.prog 12 #[.agg #[.int .i64 qn, .int .i64 qx, .int .i64 re, .int .i64 cu, .int .i64 go, .int .i64 ra, .int .i64 ro, .int .i64 fi], .slice A l.length c] w
      (RefOut w (bucketR (Vb.mayB qn qx re cu go ra ro fi) (Vb.sizesB l) (Vb.play ra ro 0 fi l))) := by
  obtain ⟨i0, hi, hz0, hz1, hz2⟩ := info_parts intInfo
  have HA := Lib.hid ha
  clear ha
  have hcf0 := (Blk.new w 23 #[.int .i64 qn, .int .i64 qx, .int .i64 re, .int .i64 cu, .int .i64 go, .int .i64 ra, .int .i64 ro, .int .i64 fi]).alloc (.cells #[.int .i64 0, .slice none 0 0] 35)
  have hcc0 := Blk.new1 w (cfgC qn qx re cu go ra ro fi) 35 #[.int .i64 0, .slice none 0 0]
  have hbA0 : Below w.heap.size w ((w.alloc (cfgC qn qx re cu go ra ro fi)).alloc (.cells #[.int .i64 0, .slice none 0 0] 35)) := (((Below.refl _ _).alloc (Nat.le_refl _) _).alloc (by simp) _)
  obtain ⟨k, hk⟩ : ∃ k, asksC (Vb.mayB qn qx re cu go ra ro fi) (Vb.sizesB l) = k := ⟨_, rfl⟩
  by_cases hk0 : k = 0
  · subst hk0
    have hmay : Vb.mayB qn qx re cu go ra ro fi = true := by
      unfold asksC at hk
      split at hk
      · assumption
      · omega
    have hsz : Vb.sizesB l = true := by
      unfold asksC at hk
      rw [if_pos hmay] at hk
      split at hk
      · assumption
      · omega
    rw [hmay, hsz]
    have hs := sizesB_of hsz
    have HS := Lib.hid hs.2
    have hl4 := hs.1
    have hm := mayB_of hmay
    clear hs
    obtain ⟨_, _, _, _, _, _, _, _, _, hm1, hm2, hm3, hm4, hm5⟩ := hm
    go_enter Tryd.func12, Tryd.ntmps12
    go_wp2_with fail
    refine (asks_any hl _ (HA.out.keep hbA0)).mono ?_
    rw [hk]
    rintro e w1 ⟨rfl, hb1⟩
    have hcc := hcc0.keep hb1
    have hbA := hbA0.trans (hb1.mono hbA0.size)
    have hwz : w.heap.size + 1 < w1.heap.size := hcc.lt
    have hcf := hcf0.keep hb1
    clear hb1 hcf0 hcc0 hbA0 hmay hsz
    have hcc2 := (hcc.alloc (.cells #[.int .i64 0, .slice none 0 0] 35)).alloc (.cells #[.int .i64 0, .slice none 0 0] 35)
    have hee2 := (Blk.new w1 35 #[.int .i64 0, .slice none 0 0]).alloc (.cells #[.int .i64 0, .slice none 0 0] 35)
    have hbB := (hbA.alloc hbA.size (.cells #[.int .i64 0, .slice none 0 0] 35)).alloc (by simp; omega) (.cells #[.int .i64 0, .slice none 0 0] 35)
    have hcf2 := (hcf.alloc (.cells #[.int .i64 0, .slice none 0 0] 35)).alloc (.cells #[.int .i64 0, .slice none 0 0] 35)
    go_wp2_with fail
    refine (OK_any _ _ _).mono ?_
    rintro e w2 ⟨rfl, rfl⟩
    generalize ((w1.alloc (.cells #[.int .i64 0, .slice none 0 0] 35)).alloc (.cells #[.int .i64 0, .slice none 0 0] 35)) = w2 at *
    have hx0 : w2.cell? ⟨w.heap.size + 1, 0, none⟩ = some (.int .i64 0) := by rw [hcc2.cell]; rfl
    have hx1 : w2.cell? ⟨w.heap.size + 1, 1, none⟩ = some (.slice none 0 0) := by rw [hcc2.cell]; rfl
    have hf0 := hcc2.frozen 0
    have hf1 := hcc2.frozen 1
    have he0 : w2.cell? ⟨w1.heap.size, 0, none⟩ = some (.int .i64 0) := by rw [hee2.cell]; rfl
    have he1 : w2.cell? ⟨w1.heap.size, 1, none⟩ = some (.slice none 0 0) := by rw [hee2.cell]; rfl
    have hc7 : w2.cell? ⟨w.heap.size, 7, none⟩ = some (.int .i64 fi) := by rw [hcf2.cell]; rfl
    go_wp2_with fail
    go_loopg [7, 8, 9] l.length (fun k lv vh vi wr => ∃ (j : Nat) (H : Int) (acc : List Int), j + k = l.length ∧ vi = .int .i64 j ∧ vh = .int .i64 H ∧ 0 ≤ H ∧ H ≤ ro ∧ Hid (H = Vb.afterP ra fi (l.take j) ∧ Vb.play ra ro 0 fi (l.take j) = .ok acc) ∧
      wr.ownsRow w.heap.size 3 1 lv acc.length (acc.map (Value.int .i64)) ∧ Blk wr w.heap.size 23 #[.int .i64 qn, .int .i64 qx, .int .i64 re, .int .i64 cu, .int .i64 go, .int .i64 ra, .int .i64 ro, .int .i64 fi] ∧
      Blk wr (w.heap.size + 1) 35 #[.int .i64 0, .slice none 0 0] ∧ Blk wr w1.heap.size 35 #[.int .i64 0, .slice none 0 0] ∧ Below w.heap.size w wr)
    case atStart => exact ⟨0, fi, [], by omega, rfl, rfl, by omega, by omega, ⟨rfl, rfl⟩, World.ownsRow_nil _ _ _ _, hcf2, hcc2, hee2, hbB⟩
    case round =>
      clear hx0 hx1 hf0 hf1 he0 he1 hc7 hcf2 hcc2 hee2 hbB hcf hcc
      obtain ⟨j, H, acc, hj, rfl, rfl, hH0, hH1, hq, hown, hcf, hcc, hee, hbel⟩ := hrel
      have hc5 : wr.cell? ⟨w.heap.size, 5, none⟩ = some (.int .i64 ra) := by rw [hcf.cell]; rfl
      have hwy := hee.lt
      by_cases hlt : j < l.length
      · obtain ⟨b2, o2, rfl, k2⟩ := (HA.out.keep hbel).at_ hlt
        have hlt' : (j : Int) < (l.length : Int) := by omega
        obtain ⟨hv1, hv2⟩ := HS.out l[j] (List.getElem_mem hlt)
        obtain ⟨x, hx⟩ : ∃ x, l[j] = x := ⟨_, rfl⟩
        rw [hx] at k2 hv1 hv2
        have hx' := Lib.hid hx
        clear hx
        by_cases hd : x ≤ H
        · have hacc : acc.length ≤ 4096 := by have := Vb.play_length hq.2; rw [this, List.length_take]; omega
          have hstep := Lib.hid (fun h => Vb.play_step (room := ro) hlt hq.2 (by have := hq.1; have := hx'.out; omega) h)
          have hsn := Lib.hid (show Vb.afterP ra fi (l.take (j + 1)) = H + ra - x by rw [Vb.take_snoc l j hlt, Vb.afterP_snoc, ← hq.1, hx'.out])
          have hov := fun h => Vb.play_over (room := ro) hlt hq.2 (by have := hq.1; have := hx'.out; omega) h
          rw [← hq.1, hx'.out] at hstep hov
          obtain ⟨A8, c8, rfl⟩ := own_slice hown
          have HQ := Lib.hid hq
          have HV' := Lib.hid hov
          clear hov hq
          go_wp2_with fail
          go_quiet (fail)
          have hbelq : Below w.heap.size w (wr.drewN nq) := below_drewN hbel nq
          have hcfq := hcf.drewN nq
          have hccq := hcc.drewN nq
          have heeq := hee.drewN nq
          have hownq : (wr.drewN nq).ownsRow w.heap.size 3 1 (.slice A8 acc.length c8) acc.length (acc.map (Value.int .i64)) := hown
          have hwyq : w1.heap.size < (wr.drewN nq).heap.size := hwy
          generalize wr.drewN nq = wq at *
          clear hown hcf hcc hee hbel hc5 k2 hwy
          have hc6 : wq.cell? ⟨w.heap.size, 6, none⟩ = some (.int .i64 ro) := by rw [hcfq.cell]; rfl
          by_cases hmx : H - x + ra ≤ ro
          · go_wp2_with (at_builtin; refine wpList_append_lies _ rfl (.tmp 48) (.tmp 50) _ rfl w.heap.size 3 i0 _ 1 8 Tryd.underlying24 hi hz0 hz1 hz2 rfl (by omega) (.slice A8 acc.length c8) acc.length _ rfl (hownq.alloc _) ⟨wq.heap.size, 0, none⟩ 1 1 [.int .i64 (H - x + ra)] rfl rfl (World.news_of_block (cs := #[.int .i64 (H - x + ra)]) (t := 3) (fr := (0, 0)) (heap_alloc_new wq _)) (by simp [Value.oneCell']) (by omega) (by unfold maxLen; omega) (by omega) (by simp; omega) _ rfl ?_; intro g cap w1' hown1 hgrow hat hlt1)
            have hcf1 := (hcfq.alloc (.cells #[.int .i64 (H - x + ra)] 3)).grown hgrow (Ne.symm (own_notBlk hownq hcfq (by decide)))
            have hcc1 := (hccq.alloc (.cells #[.int .i64 (H - x + ra)] 3)).grown hgrow (Ne.symm (own_notBlk hownq hccq (by decide)))
            have hee1 := (heeq.alloc (.cells #[.int .i64 (H - x + ra)] 3)).grown hgrow (Ne.symm (own_notBlk hownq heeq (by decide)))
            have HO := Lib.hid hown1
            have HW := Lib.hid hgrow
            clear hown1 hgrow hat
            go_roundg (gk - 1)
            case measure => omega
            case rel =>
              refine ⟨j + 1, H - x + ra, acc ++ [H - x + ra], by omega, by go_num, rfl, by omega, by omega, ⟨?_, ?_⟩, ?_, hcf1, hcc1, hee1, ?_⟩
              · rw [hsn.out]; omega
              · rw [hstep.out (by omega)]; simp; omega
              · simpa using HO.out
              · exact (hbelq.alloc hbelq.size _).grown HW.out (by simp; omega) (fun k hk => by have := (hownq.lt k hk).1; omega)
          · have hmx' : ro < H - x + ra := by omega
            have hres := Lib.hid (HV'.out (by omega))
            clear hmx
            go_wp2_with fail
            refine (Wrap_any sVbv _ (c := 5) (by omega) _).mono ?_
            rintro e w3 ⟨A3, c3, rfl, hr3, hfar, hb3⟩
            have hcc3 := hccq.keep hb3
            have hx0 : w3.cell? ⟨w.heap.size + 1, 0, none⟩ = some (.int .i64 0) := by rw [hcc3.cell]; rfl
            have hx1 : w3.cell? ⟨w.heap.size + 1, 1, none⟩ = some (.slice none 0 0) := by rw [hcc3.cell]; rfl
            have hf0 := hcc3.frozen 0
            have hf1 := hcc3.frozen 1
            go_wp2_with fail
            refine bodyPost_ret (v := .tuple #[.slice none 0 0, .agg #[.int .i64 5, .slice A3 1 c3]]) (by simp [results, Tryd.results12, go_sem, hx0, hx1]) rfl ?_
            refine refOut_err (p := [(sVbv, (j : Int))]) (bucketR_err hres.out) rfl ?_ (((hbelq.trans (hb3.mono hbelq.size)).setCell (by simp) _).setCell (by simp) _)
            exact (hr3.far (fun a ha => by have := hfar a ha; simp; omega) _).far (fun a ha => by have := hfar a ha; simp; omega) _
        · have hd' : H < x := by omega
          have hres := Lib.hid (Vb.play_dry (room := ro) hlt hq.2 (by have := hq.1; have := hx'.out; omega))
          clear hd
          go_wp2_with fail
          refine (Wrap_any sVbv _ (c := 14) (by omega) _).mono ?_
          rintro e w3 ⟨A3, c3, rfl, hr3, hfar, hb3⟩
          have hcc3 := hcc.keep hb3
          have hx0 : w3.cell? ⟨w.heap.size + 1, 0, none⟩ = some (.int .i64 0) := by rw [hcc3.cell]; rfl
          have hx1 : w3.cell? ⟨w.heap.size + 1, 1, none⟩ = some (.slice none 0 0) := by rw [hcc3.cell]; rfl
          have hf0 := hcc3.frozen 0
          have hf1 := hcc3.frozen 1
          go_wp2_with fail
          refine bodyPost_ret (v := .tuple #[.slice none 0 0, .agg #[.int .i64 14, .slice A3 1 c3]]) (by simp [results, Tryd.results12, go_sem, hx0, hx1]) rfl ?_
          refine refOut_err (p := [(sVbv, (j : Int))]) (bucketR_err hres.out) rfl ?_ (((hbel.trans (hb3.mono hbel.size)).setCell (by simp) _).setCell (by simp) _)
          exact (hr3.far (fun a ha => by have := hfar a ha; simp; omega) _).far (fun a ha => by have := hfar a ha; simp; omega) _
      · have ht : l.take j = l := List.take_of_length_le (by omega)
        obtain ⟨A2, c2, rfl⟩ := own_slice hown
        have h2 := hq.2
        rw [ht] at h2
        have H2 := Lib.hid h2
        have hn2 := own_notBlk hown hcc (by decide)
        have hr2 := (RdI.of_own hown).1
        have hx0 : wr.cell? ⟨w.heap.size + 1, 0, none⟩ = some (.int .i64 0) := by rw [hcc.cell]; rfl
        have hx1 : wr.cell? ⟨w.heap.size + 1, 1, none⟩ = some (.slice none 0 0) := by rw [hcc.cell]; rfl
        have hf0 := hcc.frozen 0
        have hf1 := hcc.frozen 1
        have he0 : wr.cell? ⟨w1.heap.size, 0, none⟩ = some (.int .i64 0) := by rw [hee.cell]; rfl
        have he1 : wr.cell? ⟨w1.heap.size, 1, none⟩ = some (.slice none 0 0) := by rw [hee.cell]; rfl
        clear h2 hq ht
        go_wp2_with fail
        go_region
        all_goals (
          go_wp2_with fail
          refine bodyPost_ret (v := .tuple #[.slice A2 acc.length c2, .agg #[.int .i64 0, .slice none 0 0]]) (by simp [results, Tryd.results12, go_sem, hx0, hx1]) rfl ?_
          refine refOut_ok (bucketR_ok H2.out) rfl ?_ (below_drewN ((hbel.setCell (by simp) _).setCell (by simp) _) 1)
          have hne : ∀ a, A2 = some a → a.block ≠ w.heap.size + 1 := fun a ha h => hn2 (by subst ha; simp [Value.ownBlock, h])
          exact (Rd.far (Rd.far hr2 hne _) hne _).drewN 1)
  · have hk1 : (k == 0) = false := by simpa using hk0
    have HR := Lib.hid (show bucketR (Vb.mayB qn qx re cu go ra ro fi) (Vb.sizesB l) (Vb.play ra ro 0 fi l) = .error ([], k) by
      subst hk
      unfold asksC at hk0 ⊢
      unfold bucketR
      split <;> (try split) <;> simp_all)
    go_enter Tryd.func12, Tryd.ntmps12
    go_wp2_with fail
    refine (asks_any hl _ (HA.out.keep hbA0)).mono ?_
    rw [hk]
    rintro e w1 ⟨rfl, hb1⟩
    have hcc := hcc0.keep hb1
    have hbA := hbA0.trans (hb1.mono hbA0.size)
    have hwz : w.heap.size + 1 < w1.heap.size := hcc.lt
    clear hb1 hcf0 hcc0 hbA0
    have hcc2 := (hcc.alloc (.cells #[.int .i64 k, .slice none 0 0] 35)).alloc (.cells #[.int .i64 k, .slice none 0 0] 35)
    have hee2 := (Blk.new w1 35 #[.int .i64 k, .slice none 0 0]).alloc (.cells #[.int .i64 k, .slice none 0 0] 35)
    have hbB := (hbA.alloc hbA.size (.cells #[.int .i64 k, .slice none 0 0] 35)).alloc (by simp; omega) (.cells #[.int .i64 k, .slice none 0 0] 35)
    go_wp2_with fail
    refine (OK_any _ _ _).mono ?_
    rintro e w2 ⟨rfl, rfl⟩
    generalize ((w1.alloc (.cells #[.int .i64 k, .slice none 0 0] 35)).alloc (.cells #[.int .i64 k, .slice none 0 0] 35)) = w2 at *
    have hx0 : w2.cell? ⟨w.heap.size + 1, 0, none⟩ = some (.int .i64 0) := by rw [hcc2.cell]; rfl
    have hx1 : w2.cell? ⟨w.heap.size + 1, 1, none⟩ = some (.slice none 0 0) := by rw [hcc2.cell]; rfl
    have hf0 := hcc2.frozen 0
    have hf1 := hcc2.frozen 1
    have he0 : w2.cell? ⟨w1.heap.size, 0, none⟩ = some (.int .i64 k) := by rw [hee2.cell]; rfl
    have he1 : w2.cell? ⟨w1.heap.size, 1, none⟩ = some (.slice none 0 0) := by rw [hee2.cell]; rfl
    go_wp2_with fail
    go_region
    all_goals (
      go_wp2_with fail
      refine bodyPost_ret (v := .tuple #[.slice none 0 0, .agg #[.int .i64 k, .slice none 0 0]]) (by simp [results, Tryd.results12, go_sem, hx0, hx1]) rfl ?_
      exact refOut_err (p := []) HR.out rfl Rd.nil (below_drewN ((hbB.setCell (by simp) _).setCell (by simp) _) 1))
end Go.Proofs.YthjcidpfiddeeaaDoor
