/- The chapter's examples: first returns true. -/
import Derived.Test.YtjlaljbmcncciaaDoorFaultOps
namespace Go.Proofs.YtjlaljbmcncciaaDoor
open Go Go.RowKit Go.Extern.Stop Go.Stop Go.Extern

theorem firstText : (Fa.S (Fa.saidL [(⟨#[115, 111, 117, 114, 99, 101]⟩, 2), (⟨#[98, 105, 116, 115]⟩, 3)] 1)) = ⟨#[115, 111, 117, 114, 99, 101, 32, 50, 58, 32, 98, 105, 116, 115, 32, 51, 58, 32, 99, 111, 100, 101, 32, 49]⟩ := by
  have h1 : Lib.itoa 2 = [50] := by rw [Fa.itoa_pos (by decide)]; exact Fa.dec_small (u := 2) (by decide)
  have h2 : Lib.itoa 3 = [51] := by rw [Fa.itoa_pos (by decide)]; exact Fa.dec_small (u := 3) (by decide)
  have h3 : Fa.codeL 1 = [99, 111, 100, 101, 32, 49] := by unfold Fa.codeL; rw [if_neg (by decide)]; rw [show (1 : Int).toNat = 1 from rfl, Fa.dec_small (u := 1) (by decide)]; rfl
  unfold Fa.saidL Fa.pathL
  simp only [List.flatMap_cons, List.flatMap_nil, Fa.stepL, h1, h2, h3]
  rfl

set_option maxRecDepth 100000 in
set_option maxHeartbeats 2000000 in
theorem first_true (w : World) (hg : Gl w) (hT : Tb w) : Calls Tryd.prog 9 #[] w fun e w' => e = .returned (.bool true) ∧ Below w.heap.size w w' := by
  have HG := Lib.hid hg
  have HT := Lib.hid hT
  have FT := Lib.hid firstText
  clear hg hT
  go_enter Tryd.func9, Tryd.ntmps9
  go_wp2_with fail
  refine (In_some _ _ _ _ _).mono ?_
  rintro e w1 ⟨rfl, hB1, hb1⟩
  go_wp2_with fail
  refine (In_some _ _ _ _ _).mono ?_
  rintro e w2 ⟨rfl, hB2, hb2⟩
  have hb2' : Below w.heap.size w w2 := hb1.trans (hb2.mono hb1.size)
  have hE : ErrAt w2 [(⟨#[115, 111, 117, 114, 99, 101]⟩, 2), (⟨#[98, 105, 116, 115]⟩, 3)] (.iface 23 (.int .i64 1)) (.iface 36 (.pointer (some ⟨w1.heap.size, 0, none⟩))) :=
    ⟨_, _, rfl, hB2, _, _, rfl, hB1.keep hb2, rfl⟩
  have HE := Lib.hid hE
  clear hE hB1 hB2
  go_wp2_with fail
  refine (Path_any (by simp) (Tail.code 1) _ (HG.out.keep hb2') HE.out).mono ?_
  unfold PathOut
  rintro e w3 ⟨A, ca, rfl, hA, hb3⟩
  have hb3' : Below w.heap.size w w3 := hb2'.trans (hb3.mono hb2'.size)
  obtain ⟨b2, o2, rfl, h2⟩ := hA.2 (by simp)
  have k3 := h2 3 (.int .i64 3) rfl
  clear h2 hA
  go_wp2_with fail
  refine (Of_nil _).mono ?_
  rintro e w4 ⟨rfl, rfl⟩
  go_wp2_with fail
  refine (Of_code (path := []) _ (HG.out.keep hb3') rfl).mono ?_
  rintro e w5 ⟨rfl, hb5⟩
  have hb5' : Below w.heap.size w w5 := hb3'.trans (hb5.mono hb3'.size)
  have hb5'' : Below w2.heap.size w2 w5 := hb3.trans (hb5.mono hb3.size)
  go_wp2_with fail
  refine (Of_code _ (HG.out.keep hb5') (HE.out.below hb5'')).mono ?_
  rintro e w6 ⟨rfl, hb6⟩
  have hb6' : Below w.heap.size w w6 := hb5'.trans (hb6.mono hb5'.size)
  have hb6'' : Below w2.heap.size w2 w6 := hb5''.trans (hb6.mono hb5''.size)
  go_wp2_with fail
  refine (Text_any (path := [(⟨#[115, 111, 117, 114, 99, 101]⟩, 2), (⟨#[98, 105, 116, 115]⟩, 3)]) (t := .iface 23 (.int .i64 1)) (c := 1) ?_ (by simp) ?_ (by unfold Fa.InI; omega) (Tail.code 1) _ (HG.out.keep hb6') (HT.out.keep hb6') (HE.out.below hb6'') (fun W hg he => Of_code W hg he)).mono ?_
  · have h1 := congrArg ByteArray.size FT.out
    rw [Fa.S_size] at h1
    unfold Fa.saidL at h1
    rw [List.length_append] at h1
    have h2 : (⟨#[115, 111, 117, 114, 99, 101, 32, 50, 58, 32, 98, 105, 116, 115, 32, 51, 58, 32, 99, 111, 100, 101, 32, 49]⟩ : ByteArray).size = 24 := rfl
    omega
  · unfold Fa.InI; simp
  rintro e w7 ⟨rfl, hb7⟩
  rw [FT.out]
  have k3' := cell_keep (cell_keep (cell_keep k3 hb5) hb6) hb7
  have hb7' : Below w.heap.size w w7 := hb6'.trans (hb7.mono hb6'.size)
  clear k3
  go_wp2_with fail
  refine (In_nil _ _ _).mono ?_
  rintro e w8 ⟨rfl, rfl⟩
  go_wp2_with fail
  refine (FIs_nil _ _).mono ?_
  rintro e w8 ⟨rfl, rfl⟩
  go_wp2_with fail
  refine (FIs_code (path := []) (c := 4) _ rfl).mono ?_
  rintro e w8 ⟨rfl, rfl⟩
  go_wp2_with fail
  go_ret
  exact ⟨rfl, hb7'⟩

end Go.Proofs.YtjlaljbmcncciaaDoor
