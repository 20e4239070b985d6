/- Contracts of package plane (side, sample, Samples, May, In, Clip) and of kinref6's side, May, Clip. -/
import Derived.Test.YtnccebfapihpjaaGreatDoorMem
import Derived.Test.YtnccebfapihpjaaGreatDoorSameI
import Derived.Test.YtnccebfapihpjaaGreatDoorSourceLaw
namespace Go.Proofs.YtnccebfapihpjaaGreatDoor
open Go Go.RowKit Go.Extern.Stop Go.Stop Go.Extern

/-- May a number be a side? -/
def sideB (n : Int) : Bool := decide (8 ≤ n ∧ n ≤ 32 ∧ n % 8 = 0)
/-- May it be a frame? -/
def mayF (w h : Int) (pix : List Int) : Bool := sideB w && sideB h && decide ((pix.length : Int) = w * h) && Vb.within 0 255 pix

theorem side_any (n : Int) (w : World) : Calls Tryz.prog 72 #[.int .i64 n] w fun e w' => e = .returned (.bool (sideB n)) ∧ w = w' := by
  by_cases h1 : 8 ≤ n
  · by_cases h2 : n ≤ 32
    · have hm : Int.tmod n 8 = n % 8 := Int.tmod_eq_emod_of_nonneg (by omega)
      by_cases h3 : n % 8 = 0
      · have hs := Lib.hid (show sideB n = true from decide_eq_true ⟨h1, h2, h3⟩)
        go_enter Tryz.func72, Tryz.ntmps72
        go_wp2_with fail
        go_ret
        exact ⟨by rw [hs.out]; rfl, rfl⟩
      · have hs := Lib.hid (show sideB n = false from decide_eq_false fun h => h3 h.2.2)
        have h3' : (n % 8 == 0) = false := by simpa using h3
        go_enter Tryz.func72, Tryz.ntmps72
        go_wp2_with fail
        go_ret
        exact ⟨by rw [hs.out]; rfl, rfl⟩
    · have hs := Lib.hid (show sideB n = false from decide_eq_false fun h => h2 h.2.1)
      go_enter Tryz.func72, Tryz.ntmps72
      go_wp2_with fail
      go_ret
      exact ⟨by rw [hs.out]; rfl, rfl⟩
  · have hs := Lib.hid (show sideB n = false from decide_eq_false fun h => h1 h.1)
    go_enter Tryz.func72, Tryz.ntmps72
    go_wp2_with fail
    go_ret
    exact ⟨by rw [hs.out]; rfl, rfl⟩

theorem rside_any (n : Int) (w : World) : Calls Tryz.prog 57 #[.int .i64 n] w fun e w' => e = .returned (.bool (sideB n)) ∧ w = w' := by
  by_cases h1 : 8 ≤ n
  · by_cases h2 : n ≤ 32
    · have hm : Int.tmod n 8 = n % 8 := Int.tmod_eq_emod_of_nonneg (by omega)
      by_cases h3 : n % 8 = 0
      · have hs := Lib.hid (show sideB n = true from decide_eq_true ⟨h1, h2, h3⟩)
        go_enter Tryz.func57, Tryz.ntmps57
        go_wp2_with fail
        go_ret
        exact ⟨by rw [hs.out]; rfl, rfl⟩
      · have hs := Lib.hid (show sideB n = false from decide_eq_false fun h => h3 h.2.2)
        have h3' : (n % 8 == 0) = false := by simpa using h3
        go_enter Tryz.func57, Tryz.ntmps57
        go_wp2_with fail
        go_ret
        exact ⟨by rw [hs.out]; rfl, rfl⟩
    · have hs := Lib.hid (show sideB n = false from decide_eq_false fun h => h2 h.2.1)
      go_enter Tryz.func57, Tryz.ntmps57
      go_wp2_with fail
      go_ret
      exact ⟨by rw [hs.out]; rfl, rfl⟩
  · have hs := Lib.hid (show sideB n = false from decide_eq_false fun h => h1 h.1)
    go_enter Tryz.func57, Tryz.ntmps57
    go_wp2_with fail
    go_ret
    exact ⟨by rw [hs.out]; rfl, rfl⟩

theorem clip_any (v : Int) (w : World) : Calls Tryz.prog 67 #[.int .i64 v] w fun e w' => e = .returned (.int .i64 (So.clip v)) ∧ w = w' := by
  go_enter Tryz.func67, Tryz.ntmps67
  go_wp2_with fail
  all_goals go_ret
  all_goals refine ⟨?_, rfl⟩
  all_goals first
    | (rw [show So.clip v = 255 by unfold So.clip; omega]; rfl)
    | (rw [show So.clip v = 0 by unfold So.clip; omega]; rfl)
    | (rw [show So.clip v = v by unfold So.clip; omega]; rfl)
theorem rclip_any (v : Int) (w : World) : Calls Tryz.prog 74 #[.int .i64 v] w fun e w' => e = .returned (.int .i64 (So.clip v)) ∧ w = w' := by
  go_enter Tryz.func74, Tryz.ntmps74
  go_wp2_with fail
  all_goals go_ret
  all_goals refine ⟨?_, rfl⟩
  all_goals first
    | (rw [show So.clip v = 255 by unfold So.clip; omega]; rfl)
    | (rw [show So.clip v = 0 by unfold So.clip; omega]; rfl)
    | (rw [show So.clip v = v by unfold So.clip; omega]; rfl)

/-- The closure of plane.Samples: is it none? -/
theorem notSample_any (v : Int) (w : World) : Calls Tryz.prog 83 #[.int .i64 v] w fun e w' => e = .returned (.bool (!decide (0 ≤ v ∧ v ≤ 255))) ∧ w = w' := by
  obtain ⟨D, hD⟩ : ∃ D, decide (0 ≤ v ∧ v ≤ 255) = D := ⟨_, rfl⟩
  rw [hD]
  have HD := Lib.hid hD
  clear hD
  have H : Calls Tryz.prog 84 #[.int .i64 v] w fun e w' => e = .returned (.bool D) ∧ w = w' := by
    by_cases h1 : 0 ≤ v
    · by_cases h2 : v ≤ 255
      · have hs := Lib.hid (show D = true from HD.out.symm.trans (decide_eq_true ⟨h1, h2⟩))
        clear HD
        go_enter Tryz.func84, Tryz.ntmps84
        go_wp2_with fail
        go_ret
        exact ⟨by rw [hs.out]; rfl, rfl⟩
      · have hs := Lib.hid (show D = false from HD.out.symm.trans (decide_eq_false fun h => h2 h.2))
        clear HD
        go_enter Tryz.func84, Tryz.ntmps84
        go_wp2_with fail
        go_ret
        exact ⟨by rw [hs.out]; rfl, rfl⟩
    · have hs := Lib.hid (show D = false from HD.out.symm.trans (decide_eq_false fun h => h1 h.1))
      clear HD
      go_enter Tryz.func84, Tryz.ntmps84
      go_wp2_with fail
      go_ret
      exact ⟨by rw [hs.out]; rfl, rfl⟩
  have HH := Lib.hid H
  clear H
  go_enter Tryz.func83, Tryz.ntmps83
  go_wp2_with (go_at_call 84; refine HH.out.mono ?_; rintro e w' ⟨rfl, rfl⟩)
  go_ret
  exact ⟨rfl, rfl⟩

set_option maxHeartbeats 1000000 in
theorem IndexFunc_any {l : List Int} {A : Option Addr} {c : Nat} (hl : l.length ≤ 9223372036854775807) (w : World) (ha : RdI .i64 w A l) :
    Calls Tryz.prog 93 #[.slice A l.length c, .func (.func 83) #[] #[]] w fun e w' => (∃ r : Int, e = .returned (.int .i64 r) ∧ decide (0 ≤ r) = !Vb.within 0 255 l) ∧ w = w' := by
  have HA := Lib.hid ha
  clear ha
  go_enter Tryz.func93, Tryz.ntmps93
  go_wp2_with fail
  go_loopg [8] l.length (fun k i wr => ∃ j : Nat, j + k = l.length ∧ i = .int .i64 j ∧ wr = w ∧ ∀ n ∈ l.take j, 0 ≤ n ∧ n ≤ 255)
  case atStart => exact ⟨0, by omega, rfl, rfl, by simp⟩
  case round =>
    obtain ⟨j, hj, rfl, rfl, hin⟩ := hrel
    have HI := Lib.hid hin
    clear hin
    by_cases hlt : j < l.length
    · obtain ⟨b2, o2, rfl, k2⟩ := HA.out.at_ hlt
      have hlt' : (j : Int) < (l.length : Int) := by omega
      by_cases h1 : 0 ≤ l[j] ∧ l[j] ≤ 255
      · have HD := Lib.hid (decide_eq_true h1)
        have H1 := Lib.hid h1
        clear h1
        go_wp2_with (go_at_call 83; refine (notSample_any l[j] _).mono ?_; rw [HD.out]; rintro e w' ⟨rfl, rfl⟩)
        go_roundg (gk - 1)
        case measure => omega
        case rel =>
          refine ⟨j + 1, by omega, by go_num, rfl, fun n hn => ?_⟩
          rw [List.take_succ_eq_append_getElem hlt] at hn
          rcases List.mem_append.1 hn with h | h
          · exact HI.out n h
          · simp at h; subst h; exact H1.out
      · have HD := Lib.hid (decide_eq_false h1)
        have hf := Lib.hid (within_take_false (a := 0) (b := 255) hlt h1)
        clear h1
        go_wp2_with (go_at_call 83; refine (notSample_any l[j] _).mono ?_; rw [HD.out]; rintro e w' ⟨rfl, rfl⟩)
        go_ret
        exact ⟨⟨j, rfl, by rw [hf.out]; simp⟩, rfl⟩
    · have ht : l.take j = l := List.take_of_length_le (by omega)
      have hf := Lib.hid ((Vb.within_iff 0 255 l).2 (by have := HI.out; rwa [ht] at this))
      clear ht
      go_wp2_with fail
      go_ret
      exact ⟨⟨-1, rfl, by rw [hf.out]; rfl⟩, rfl⟩

theorem Samples_any {l : List Int} {A : Option Addr} {c : Nat} (hl : l.length ≤ 9223372036854775807) (w : World) (ha : RdI .i64 w A l) :
    Calls Tryz.prog 73 #[.slice A l.length c] w fun e w' => e = .returned (.bool (Vb.within 0 255 l)) ∧ w = w' := by
  have HA := Lib.hid ha
  clear ha
  have H : Calls Tryz.prog 82 #[.slice A l.length c, .func (.func 83) #[] #[]] w fun e w' => e = .returned (.bool (!Vb.within 0 255 l)) ∧ w = w' := by
    go_enter Tryz.func82, Tryz.ntmps82
    go_wp2_with (go_at_call 93; refine (IndexFunc_any hl _ HA.out).mono ?_; rintro e w' ⟨⟨r, rfl, hr⟩, rfl⟩)
    go_ret
    exact ⟨by rw [← hr]; rfl, rfl⟩
  obtain ⟨D, hD⟩ : ∃ D, Vb.within 0 255 l = D := ⟨_, rfl⟩
  rw [hD] at H ⊢
  have HH := Lib.hid H
  clear H hD
  go_enter Tryz.func73, Tryz.ntmps73
  go_wp2_with (go_at_call 82; refine HH.out.mono ?_; rintro e w' ⟨rfl, rfl⟩)
  go_ret
  exact ⟨by simp, rfl⟩

theorem sideB_bd {n : Int} (h : sideB n = true) : 8 ≤ n ∧ n ≤ 32 := by
  have := of_decide_eq_true h
  exact ⟨this.1, this.2.1⟩

/-- A frame's cells in a block of the call's own. -/
abbrev frmC (fw fh : Int) (A : Option Addr) (n c : Nat) : Array Value := #[.int .i64 fw, .int .i64 fh, .slice A n c]
theorem frmWalk {fw fh : Int} {pix : List Int} {A : Option Addr} {c : Nat} (w : World) :
    Below w.heap.size w (w.alloc (.cells (frmC fw fh A pix.length c) 48)) := (Below.refl _ _).alloc (Nat.le_refl _) _

theorem mayF_cases (fw fh : Int) (pix : List Int) : (sideB fw = false ∧ mayF fw fh pix = false) ∨ (sideB fw = true ∧ sideB fh = false ∧ mayF fw fh pix = false) ∨
    (sideB fw = true ∧ sideB fh = true ∧ ¬ (pix.length : Int) = fw * fh ∧ mayF fw fh pix = false) ∨ (sideB fw = true ∧ sideB fh = true ∧ (pix.length : Int) = fw * fh ∧ mayF fw fh pix = Vb.within 0 255 pix) := by
  unfold mayF
  cases h1 : sideB fw
  · exact .inl ⟨rfl, rfl⟩
  · cases h2 : sideB fh
    · exact .inr (.inl ⟨rfl, rfl, rfl⟩)
    · by_cases h3 : (pix.length : Int) = fw * fh
      · exact .inr (.inr (.inr ⟨rfl, rfl, h3, by simp [h3]⟩))
      · exact .inr (.inr (.inl ⟨rfl, rfl, h3, by simp [h3]⟩))

set_option maxHeartbeats 1000000 in
theorem May_any {fw fh : Int} {pix : List Int} {A : Option Addr} {c : Nat} (hl : pix.length ≤ 9223372036854775807) (w : World) (ha : RdI .i64 w A pix) :
    Calls Tryz.prog 50 #[.agg #[.int .i64 fw, .int .i64 fh, .slice A pix.length c]] w fun e w' => e = .returned (.bool (mayF fw fh pix)) ∧ w.alloc (.cells #[.int .i64 fw, .int .i64 fh, .slice A pix.length c] 48) = w' := by
  have HA := Lib.hid (ha.alloc (.cells #[.int .i64 fw, .int .i64 fh, .slice A pix.length c] 48))
  clear ha
  rcases mayF_cases fw fh pix with ⟨h1, hm⟩ | ⟨h1, h2, hm⟩ | ⟨h1, h2, h3, hm⟩ | ⟨h1, h2, h3, hm⟩
  · have HM := Lib.hid hm
    clear hm
    go_enter Tryz.func50, Tryz.ntmps50
    go_wp2_with (go_at_call 72; refine (side_any fw _).mono ?_; rw [h1]; rintro e w' ⟨rfl, rfl⟩)
    go_ret
    exact ⟨by rw [HM.out]; rfl, rfl⟩
  · have HM := Lib.hid hm
    clear hm
    go_enter Tryz.func50, Tryz.ntmps50
    go_wp2_with fail
    refine (side_any fw _).mono ?_
    rw [h1]
    rintro e w' ⟨rfl, rfl⟩
    go_wp2_with fail
    refine (side_any fh _).mono ?_
    rw [h2]
    rintro e w' ⟨rfl, rfl⟩
    go_wp2_with fail
    go_ret
    exact ⟨by rw [HM.out]; rfl, rfl⟩
  · have HM := Lib.hid hm
    have b1 := sideB_bd h1
    have b2 := sideB_bd h2
    obtain ⟨P, hP⟩ : ∃ P, fw * fh = P := ⟨_, rfl⟩
    have hp0 : 0 ≤ P ∧ P ≤ 1024 := by
      rw [← hP]
      exact ⟨Int.mul_nonneg (by omega) (by omega), Int.le_trans (Int.mul_le_mul b1.2 b2.2 (by omega) (by omega)) (by decide)⟩
    rw [hP] at h3
    have hw : IntKind.i64.wrap (fw * fh) = P := by rw [hP]; exact IntWalk.i64_in _ (by omega)
    have h3' : ((pix.length : Int) == P) = false := by simpa using h3
    clear hm b1 b2
    go_enter Tryz.func50, Tryz.ntmps50
    go_wp2_with fail
    refine (side_any fw _).mono ?_
    rw [h1]
    rintro e w' ⟨rfl, rfl⟩
    go_wp2_with fail
    refine (side_any fh _).mono ?_
    rw [h2]
    rintro e w' ⟨rfl, rfl⟩
    go_wp2_with fail
    go_ret
    exact ⟨by rw [HM.out]; rfl, rfl⟩
  · have HM := Lib.hid hm
    have b1 := sideB_bd h1
    have b2 := sideB_bd h2
    obtain ⟨P, hP⟩ : ∃ P, fw * fh = P := ⟨_, rfl⟩
    have hp0 : 0 ≤ P ∧ P ≤ 1024 := by
      rw [← hP]
      exact ⟨Int.mul_nonneg (by omega) (by omega), Int.le_trans (Int.mul_le_mul b1.2 b2.2 (by omega) (by omega)) (by decide)⟩
    rw [hP] at h3
    have hw : IntKind.i64.wrap (fw * fh) = P := by rw [hP]; exact IntWalk.i64_in _ (by omega)
    have h3' : ((pix.length : Int) == P) = true := by simpa using h3
    clear hm b1 b2 h3
    go_enter Tryz.func50, Tryz.ntmps50
    go_wp2_with fail
    refine (side_any fw _).mono ?_
    rw [h1]
    rintro e w' ⟨rfl, rfl⟩
    go_wp2_with fail
    refine (side_any fh _).mono ?_
    rw [h2]
    rintro e w' ⟨rfl, rfl⟩
    go_wp2_with fail
    refine (Samples_any hl _ HA.out).mono ?_
    rintro e w' ⟨rfl, rfl⟩
    go_wp2_with fail
    go_ret
    exact ⟨by rw [HM.out]; rfl, rfl⟩

set_option maxHeartbeats 1000000 in
theorem RMay_any {fw fh : Int} {pix : List Int} {A : Option Addr} {c : Nat} (hl : pix.length ≤ 9223372036854775807) (w : World) (ha : RdI .i64 w A pix) :
    Calls Tryz.prog 26 #[.agg #[.int .i64 fw, .int .i64 fh, .slice A pix.length c]] w fun e w' => e = .returned (.bool (mayF fw fh pix)) ∧ w.alloc (.cells #[.int .i64 fw, .int .i64 fh, .slice A pix.length c] 48) = w' := by
  have HA := Lib.hid (ha.alloc (.cells #[.int .i64 fw, .int .i64 fh, .slice A pix.length c] 48))
  clear ha
  rcases mayF_cases fw fh pix with ⟨h1, hm⟩ | ⟨h1, h2, hm⟩ | ⟨h1, h2, h3, hm⟩ | ⟨h1, h2, h3, hm⟩
  · have HM := Lib.hid hm
    clear hm
    go_enter Tryz.func26, Tryz.ntmps26
    go_wp2_with (go_at_call 57; refine (rside_any fw _).mono ?_; rw [h1]; rintro e w' ⟨rfl, rfl⟩)
    go_ret
    exact ⟨by rw [HM.out]; rfl, rfl⟩
  · have HM := Lib.hid hm
    clear hm
    go_enter Tryz.func26, Tryz.ntmps26
    go_wp2_with fail
    refine (rside_any fw _).mono ?_
    rw [h1]
    rintro e w' ⟨rfl, rfl⟩
    go_wp2_with fail
    refine (rside_any fh _).mono ?_
    rw [h2]
    rintro e w' ⟨rfl, rfl⟩
    go_wp2_with fail
    go_ret
    exact ⟨by rw [HM.out]; rfl, rfl⟩
  · have HM := Lib.hid hm
    have b1 := sideB_bd h1
    have b2 := sideB_bd h2
    obtain ⟨P, hP⟩ : ∃ P, fw * fh = P := ⟨_, rfl⟩
    have hp0 : 0 ≤ P ∧ P ≤ 1024 := by
      rw [← hP]
      exact ⟨Int.mul_nonneg (by omega) (by omega), Int.le_trans (Int.mul_le_mul b1.2 b2.2 (by omega) (by omega)) (by decide)⟩
    rw [hP] at h3
    have hw : IntKind.i64.wrap (fw * fh) = P := by rw [hP]; exact IntWalk.i64_in _ (by omega)
    have h3' : ((pix.length : Int) == P) = false := by simpa using h3
    clear hm b1 b2
    go_enter Tryz.func26, Tryz.ntmps26
    go_wp2_with fail
    refine (rside_any fw _).mono ?_
    rw [h1]
    rintro e w' ⟨rfl, rfl⟩
    go_wp2_with fail
    refine (rside_any fh _).mono ?_
    rw [h2]
    rintro e w' ⟨rfl, rfl⟩
    go_wp2_with fail
    go_ret
    exact ⟨by rw [HM.out]; rfl, rfl⟩
  · have HM := Lib.hid hm
    have b1 := sideB_bd h1
    have b2 := sideB_bd h2
    obtain ⟨P, hP⟩ : ∃ P, fw * fh = P := ⟨_, rfl⟩
    have hp0 : 0 ≤ P ∧ P ≤ 1024 := by
      rw [← hP]
      exact ⟨Int.mul_nonneg (by omega) (by omega), Int.le_trans (Int.mul_le_mul b1.2 b2.2 (by omega) (by omega)) (by decide)⟩
    rw [hP] at h3
    have hw : IntKind.i64.wrap (fw * fh) = P := by rw [hP]; exact IntWalk.i64_in _ (by omega)
    have h3' : ((pix.length : Int) == P) = true := by simpa using h3
    clear hm b1 b2 h3
    go_enter Tryz.func26, Tryz.ntmps26
    go_wp2_with fail
    refine (rside_any fw _).mono ?_
    rw [h1]
    rintro e w' ⟨rfl, rfl⟩
    go_wp2_with fail
    refine (rside_any fh _).mono ?_
    rw [h2]
    rintro e w' ⟨rfl, rfl⟩
    go_wp2_with fail
    refine (Within_any (a := 0) (b := 255) hl _ HA.out).mono ?_
    rintro e w' ⟨rfl, rfl⟩
    go_wp2_with fail
    go_ret
    exact ⟨by rw [HM.out]; rfl, rfl⟩

end Go.Proofs.YtnccebfapihpjaaGreatDoor
