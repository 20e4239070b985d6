/- The chapter's examples: first returns true. -/
import Derived.Test.YtnccebfapihpjaaGreatDoorSourceDf
import Derived.Test.YtnccebfapihpjaaGreatDoorFaultText2
import Derived.Lib.SlBytesConst
namespace Go.Proofs.YtnccebfapihpjaaGreatDoor
open Go Go.RowKit Go.Extern.Stop Go.Stop Go.Extern

/-- A grey frame. -/
def greyF (A : Option Addr) (c : Nat) : Frm := ⟨8, 8, A, List.replicate 64 128, c⟩
theorem greyEnc (A : Option Addr) (c : Nat) : encF [greyF A c] = [75, 83, 1, 1, 1, 0, 0, 0, 0, 0, 0, 0, 0, 0] := by kernel_rfl
theorem greyOk (A : Option Addr) (c : Nat) : checkF [greyF A c] = 0 := by kernel_rfl
theorem greyStr : strOf [75, 83, 1, 1, 1, 0, 0, 0, 0, 0, 0, 0, 0, 0] = ⟨#[75, 83, 1, 1, 1, 0, 0, 0, 0, 0, 0, 0, 0, 0]⟩ := by kernel_rfl
theorem shortDec : decF [75, 83, 1, 1, 1] = .error ([(sSource, 0), (sBits, 0)], 1) := by kernel_rfl
theorem noneDec : decF [] = .error ([(sSource, -1)], 1) := by kernel_rfl
theorem code1 : Fa.codeL 1 = [99, 111, 100, 101, 32, 49] := by unfold Fa.codeL; rw [if_neg (by decide)]; rw [show (1 : Int).toNat = 1 from rfl, Fa.dec_small (u := 1) (by decide)]; rfl
theorem shortText : Fa.S (Fa.saidL [(sSource, 0), (sBits, 0)] 1) = ⟨#[115, 111, 117, 114, 99, 101, 32, 48, 58, 32, 98, 105, 116, 115, 32, 48, 58, 32, 99, 111, 100, 101, 32, 49]⟩ := by
  have h1 : Lib.itoa 0 = [48] := by rw [Fa.itoa_pos (by decide)]; exact Fa.dec_small (u := 0) (by decide)
  unfold Fa.saidL Fa.pathL
  simp only [List.flatMap_cons, List.flatMap_nil, Fa.stepL, h1, code1]
  rfl
theorem noneText : Fa.S (Fa.saidL [(sSource, -1)] 1) = ⟨#[115, 111, 117, 114, 99, 101, 32, 45, 49, 58, 32, 99, 111, 100, 101, 32, 49]⟩ := by
  have h1 : Lib.itoa (-1) = [45, 49] := by rw [Fa.itoa_neg (by decide), show (-1 : Int).natAbs = 1 from rfl, Fa.dec_small (u := 1) (by decide)]; rfl
  unfold Fa.saidL Fa.pathL
  simp only [List.flatMap_cons, List.flatMap_nil, Fa.stepL, h1, code1]
  rfl
theorem RdI.of_row {w : World} {g : Nat} {e : TypeId} {cs : Array Value} {fr : Nat × Nat} {l : List Int} (h : w.heap[g]? = some (.cells cs e fr)) (hc : cs = (l.map (Value.int .u8)).toArray) : RdI .u8 w (some ⟨g, 0, none⟩) l := by
  subst hc
  refine ⟨by simp, fun _ => ⟨g, 0, rfl, fun j u hu => ?_⟩⟩
  rw [cell_of_row w g (0 + j) _ e fr h]
  simpa using hu
theorem RdF.of_blk {w : World} {z : Nat} {l : List Frm} {cs : Array Value} (h : Blk w z 48 cs) (hc : cs = (flatF l).toArray) (hp : ∀ f ∈ l, RdI .i64 w f.A f.pix ∧ f.pix.length ≤ 9223372036854775807) : RdF w (some ⟨z, 0, none⟩) l := by
  subst hc
  refine ⟨⟨flatF_length l, fun _ => ⟨z, 0, rfl, fun j u hu => ?_⟩⟩, hp⟩
  rw [h.cell]
  simpa using hu

set_option maxRecDepth 100000 in
set_option maxHeartbeats 2000000 in
theorem first_true (w : World) (hg : Gl w) (hT : Tb w) : Calls Tryz.prog 5 #[] w fun e w' => e = .returned (.bool true) ∧ Below w.heap.size w w' := by
  obtain ⟨i0, hi, hz0, hz1, hz2⟩ := info_parts intInfo
  have HG := Lib.hid hg
  have HT := Lib.hid hT
  have hb0 := Lib.hid (show Below w.heap.size w (w.alloc (.cells #[.int .i64 8, .int .i64 8, .slice none 0 0] 48)) from (Below.refl _ _).alloc (Nat.le_refl _) _)
  have hB0 := Lib.hid (Blk.new w 48 #[.int .i64 8, .int .i64 8, .slice none 0 0])
  clear hg hT
  go_enter Tryz.func5, Tryz.ntmps5
  go_wp2_with fail
  go_loopg [2] (64 : Nat) (fun k v2 wr => ∃ (j : Nat) (A : Option Addr) (c : Nat), j + k = 64 ∧ v2 = .int .i64 j ∧ Blk wr w.heap.size 48 #[.int .i64 8, .int .i64 8, .slice A j c] ∧
    wr.ownsRow (w.heap.size + 1) 3 1 (.slice A j c) j ((List.replicate j (128 : Int)).map (Value.int .i64)) ∧ Below w.heap.size w wr)
  case atStart => exact ⟨0, none, 0, by omega, rfl, hB0.out, ⟨rfl, .inl ⟨rfl, rfl⟩⟩, hb0.out⟩
  case round =>
    obtain ⟨j, A, c, hj, rfl, hblk, hown, hbel⟩ := hrel
    have hzz := hblk.lt
    obtain ⟨⟨r0, r1, r2⟩, f0, f1, f2⟩ := fr_cells hblk
    have HB := Lib.hid hblk
    have HO := Lib.hid hown
    have HBEL := Lib.hid hbel
    clear hblk hown hbel
    by_cases hlt : j < 64
    · have hlt' : (j : Int) < 64 := by omega
      obtain ⟨m, rfl⟩ : ∃ m, gk = m + 1 := ⟨gk - 1, by omega⟩
      go_wp2_with (at_builtin; refine wpList_append_lies _ rfl (.tmp 15) (.tmp 16) _ rfl (w.heap.size + 1) 3 i0 _ 1 8 Tryz.underlying46 hi hz0 hz1 hz2 rfl (by omega) (.slice A j c) j _ rfl (HO.out.alloc _) ⟨wr.heap.size, 0, none⟩ 1 1 [.int .i64 128] rfl rfl (World.news_of_block (cs := #[.int .i64 128]) (t := 3) (fr := (0, 0)) (heap_alloc_new wr _)) (by simp [Value.oneCell']) (by omega) (by unfold maxLen; omega) (by omega) (by simp; omega) _ rfl ?_; intro gb cap w9 hown9 hgrow9 hat9 hlt9; have hb9 := (HB.out.alloc (.cells #[.int .i64 128] 3)).grown hgrow9 (Ne.symm (own_notBlk HO.out HB.out (by decide))); obtain ⟨⟨-, -, y2⟩, -, -, g2⟩ := fr_cells hb9)
      have hs9 := hb9.store 2 (.slice (some ⟨gb, 0, none⟩) (j + 1) cap)
      have ho9 := own_chg hown9 ((Chg.refl (fun i => i = w.heap.size) w9).setCell (p := ⟨w.heap.size, 2, none⟩) (fun _ => rfl) (.slice (some ⟨gb, 0, none⟩) (j + 1) cap)) (fun i hi e => by have := (hown9.lt i hi).1; omega)
      have hbl9 := ((HBEL.out.alloc HBEL.out.size (.cells #[.int .i64 128] 3)).grown hgrow9 (by simp; omega) (fun z hz => by have := (HO.out.lt z hz).1; omega)).setCell (p := ⟨w.heap.size, 2, none⟩) (Nat.le_refl _) (.slice (some ⟨gb, 0, none⟩) (j + 1) cap)
      have hrep : List.map (Value.int IntKind.i64) (List.replicate j 128) ++ [Value.int IntKind.i64 128] = (List.replicate (j + 1) (128 : Int)).map (Value.int .i64) := by rw [List.replicate_succ']; simp
      rw [hrep] at ho9
      have HS9 := Lib.hid hs9
      have HO9 := Lib.hid ho9
      have HBL9 := Lib.hid hbl9
      clear hs9 ho9 hbl9 hrep hown9 hgrow9 hat9 hb9 y2 g2
      go_roundg m
      case measure => omega
      case rel => exact ⟨j + 1, _, _, by omega, by go_num, HS9.out, HO9.out, HBL9.out⟩
    · obtain rfl : j = 64 := by omega
      obtain rfl : gk = 0 := by omega
      have hbX : Below wr.heap.size wr (wr.alloc (.cells #[.int .i64 8, .int .i64 8, .slice A 64 c] 48)) := (Below.refl _ _).alloc (Nat.le_refl _) _
      have hrdF : RdF (wr.alloc (.cells #[.int .i64 8, .int .i64 8, .slice A 64 c] 48)) (some ⟨wr.heap.size, 0, none⟩) [greyF A c] :=
        RdF.of_blk (Blk.new wr 48 #[.int .i64 8, .int .i64 8, .slice A 64 c]) rfl (fun f hf => by
          simp only [List.mem_singleton] at hf
          subst hf
          exact ⟨((RdI.of_own HO.out).1).keep hbX, by simp [greyF]⟩)
      have CE := Lib.hid (Encode_ok (l := [greyF A c]) (c := 1) _ hrdF (greyOk A c))
      rw [greyEnc] at CE
      have hbE := HBEL.out.trans (hbX.mono HBEL.out.size)
      have HBE := Lib.hid hbE
      clear hbX hrdF hbE
      go_wp2_with fail
      refine CE.out.mono ?_
      rintro e w2 ⟨A2, c2, rfl, hown2, hb2⟩
      have hbe2 := HBE.out.trans (hb2.mono HBE.out.size)
      have HR2 := Lib.hid (RdI.of_own hown2).1
      have HBE2 := Lib.hid hbe2
      have hbX : Below w2.heap.size w2 (w2.alloc (.cells #[.int .u8 75, .int .u8 83, .int .u8 1, .int .u8 1, .int .u8 1] 5 (5, 6))) := (Below.refl _ _).alloc (Nat.le_refl _) _
      have CD := Lib.hid (Decode_any (b := [75, 83, 1, 1, 1]) (A := some ⟨w2.heap.size, 0, none⟩) (c := 5) (by simp) (by simp) (by simp) (w2.alloc (.cells #[.int .u8 75, .int .u8 83, .int .u8 1, .int .u8 1, .int .u8 1] 5 (5, 6))) (RdI.of_row (heap_alloc_new w2 _) rfl))
      have HBX := Lib.hid hbX
      have kc := fun (w : World) (C : Array Value) (n c : Nat) => Lib.run_convert_bytes_const (P := Tryz.prog) w 26 5 C n c Tryz.underlying26 Tryz.underlying5
      clear hown2 hb2 hbe2 hbX CE
      go_wp2_with fail
      refine CD.out.mono ?_
      unfold DecOut
      rw [shortDec]
      rintro e w3 ⟨⟨v3, rfl, hE3⟩, hb3⟩
      obtain ⟨T3, y3, rfl⟩ := hE3.iface
      have HE3 := Lib.hid hE3
      have HB23 := Lib.hid (HBX.out.trans (hb3.mono HBX.out.size))
      have CN := Lib.hid (Decode_any (b := []) (A := none) (c := 0) (by simp) (by simp) (by simp) w3 RdI.nil)
      clear hE3 hb3 CD HBX kc
      go_wp2_with fail
      refine CN.out.mono ?_
      unfold DecOut
      rw [noneDec]
      rintro e w4 ⟨⟨v4, rfl, hE4⟩, hb4⟩
      obtain ⟨T4, y4, rfl⟩ := hE4.iface
      have HE4 := Lib.hid hE4
      have HB34 := Lib.hid hb4
      have hb24 := HB23.out.trans (hb4.mono HB23.out.size)
      have HB4 := Lib.hid (HBE2.out.trans (hb24.mono HBE2.out.size))
      have hcv0 := conv_rd (c := c2) w4 (HR2.out.keep hb24)
      rw [greyStr] at hcv0
      have hcv : (convert 26 9 (.slice A2 14 c2)).run Tryz.prog w4 = _ := hcv0
      clear hcv0
      have CT1 := Lib.hid (Text_any (path := [(sSource, 0), (sBits, 0)]) (t := .iface 31 (.int .i64 1)) (c := 1) (by
        have h1 := congrArg ByteArray.size shortText
        rw [Fa.S_size] at h1
        unfold Fa.saidL at h1
        rw [List.length_append] at h1
        have h2 : (⟨#[115, 111, 117, 114, 99, 101, 32, 48, 58, 32, 98, 105, 116, 115, 32, 48, 58, 32, 99, 111, 100, 101, 32, 49]⟩ : ByteArray).size = 24 := rfl
        omega) (by simp) (by unfold Fa.InI; simp) (by unfold Fa.InI; omega) (Tail.code 1) w4 (HG.out.keep HB4.out) (HT.out.keep HB4.out) (HE3.out.below HB34.out) (fun W hg he => Of_code W hg he))
      rw [shortText] at CT1
      clear hE4 hb4 hb24 CN
      go_wp2_with fail
      refine CT1.out.mono ?_
      rintro e w5 ⟨rfl, hb5⟩
      have HB45 := Lib.hid hb5
      have HB5 := Lib.hid (HB4.out.trans (hb5.mono HB4.out.size))
      have CT2 := Lib.hid (Text_any (path := [(sSource, -1)]) (t := .iface 31 (.int .i64 1)) (c := 1) (by
        have h1 := congrArg ByteArray.size noneText
        rw [Fa.S_size] at h1
        unfold Fa.saidL at h1
        rw [List.length_append] at h1
        have h2 : (⟨#[115, 111, 117, 114, 99, 101, 32, 45, 49, 58, 32, 99, 111, 100, 101, 32, 49]⟩ : ByteArray).size = 17 := rfl
        omega) (by simp) (by unfold Fa.InI; simp) (by unfold Fa.InI; omega) (Tail.code 1) w5 (HG.out.keep HB5.out) (HT.out.keep HB5.out) (HE4.out.below hb5) (fun W hg he => Of_code W hg he))
      rw [noneText] at CT2
      clear hb5 hcv
      go_wp2_with fail
      refine CT2.out.mono ?_
      rintro e w6 ⟨rfl, hb6⟩
      have HB6 := Lib.hid (HB5.out.trans (hb6.mono HB5.out.size))
      clear hb6
      go_wp2_with fail
      go_ret
      exact ⟨rfl, HB6.out⟩

end Go.Proofs.YtnccebfapihpjaaGreatDoor
