/- The walk of FaultSays: whatever steps and code: true. -/
import Derived.Test.YtjlaljbmcncciaaDoorFaultFirst
import Derived.Test.YtjlaljbmcncciaaDoorFaultSaid
namespace Go.Proofs.YtjlaljbmcncciaaDoor
open Go Go.RowKit Go.Extern.Stop Go.Stop Go.Extern

theorem few_path {l : Fa.Steps} (hf : Fa.few l = true) (hi : ∀ x ∈ l, Fa.InI x.2) : (Fa.pathL l).length ≤ 1000000000 := by
  have h1 := Fa.pathL_length hi
  have h2 := Fa.few_names hf
  have h3 := Fa.few_len hf
  omega

set_option maxRecDepth 100000 in
set_option maxHeartbeats 2000000 in
theorem FaultSays_walk {l : Fa.Steps} {c : Int} {A : Option Addr} {cap : Nat} (hn : l.length ≤ 9223372036854775807) (hi : ∀ x ∈ l, Fa.InI x.2) (hc : Fa.InI c) (w : World) (hg : Gl w) (hT : Tb w) (hr : Rd w 2 A l.length (flatP l)) :
    Calls Tryd.prog 3 #[.slice A l.length cap, .int .i64 c] w fun e w' => e = .returned (.bool true) ∧ Below w.heap.size w w' := by
  have HG := Lib.hid hg
  have HT := Lib.hid hT
  have HR := Lib.hid hr
  have HI := Lib.hid hi
  have HC := Lib.hid hc
  have gd := stepGd
  have nq' := stepNeq
  clear hg hT hr hi hc
  go_enter Tryd.func3, Tryd.ntmps3
  go_wp2_with fail
  refine (first_true _ HG.out HT.out).mono ?_
  rintro e w1 ⟨rfl, hb1⟩
  go_wp2_with fail
  refine (few_any hn _ (HR.out.keep hb1)).mono ?_
  rintro e w2 ⟨rfl, rfl⟩
  by_cases hf : Fa.few l = true
  · rw [hf]
    have HP := Lib.hid (few_path hf HI.out)
    have hlen := Fa.few_len hf
    clear hf
    go_wp2_with fail
    refine (wrapped_any hn _ (HR.out.keep hb1)).mono ?_
    rintro e w2 ⟨v, rfl, hE, hb2⟩
    have hb2' : Below w.heap.size w w2 := hb1.trans (hb2.mono hb1.size)
    obtain ⟨T, x, rfl⟩ := hE.iface
    have HE := Lib.hid hE
    clear hE
    go_wp2_with fail
    refine (Path_any (by omega) (Tail.code c) _ (HG.out.keep hb2') HE.out).mono ?_
    unfold PathOut
    rintro e w3 ⟨B, cb, rfl, hB, hb3⟩
    have hb3' : Below w.heap.size w w3 := hb2'.trans (hb3.mono hb2'.size)
    have HB := Lib.hid hB
    clear hB
    go_wp2_with fail
    refine (Of_code _ (HG.out.keep hb3') (HE.out.below hb3)).mono ?_
    rintro e w4 ⟨rfl, hb4⟩
    have hb4' : Below w.heap.size w w4 := hb3'.trans (hb4.mono hb3'.size)
    have hb4'' : Below w2.heap.size w2 w4 := hb3.trans (hb4.mono hb3.size)
    go_wp2_with fail
    refine (Text_any HP.out (by omega) HI.out HC.out (Tail.code c) _ (HG.out.keep hb4') (HT.out.keep hb4') (HE.out.below hb4'') (fun W hg he => Of_code W hg he)).mono ?_
    rintro e w5 ⟨rfl, hb5⟩
    have hb5' : Below w.heap.size w w5 := hb4'.trans (hb5.mono hb4'.size)
    go_wp2_with fail
    refine (said_any HP.out (by omega) HI.out HC.out _ (HR.out.keep hb5')).mono ?_
    rintro e w6 ⟨rfl, hb6⟩
    have hb6' : Below w.heap.size w w6 := hb5'.trans (hb6.mono hb5'.size)
    have HB6 := Lib.hid ((HB.out.keep hb4).keep hb5 |>.keep hb6)
    have HR6 := Lib.hid (HR.out.keep hb6')
    go_wp2_with fail
    go_loopg [7] l.length (fun k i wr => ∃ j n : Nat, j + k = l.length ∧ i = .int .i64 j ∧ wr = w6.drewN n)
    case atStart => exact ⟨0, 0, by omega, rfl, rfl⟩
    case round =>
      obtain ⟨j, n, hj, rfl, rfl⟩ := hrel
      by_cases hlt : j < l.length
      · obtain ⟨b2, o2, rfl, h2⟩ := HR6.out.2 (by omega)
        obtain ⟨b3, o3, rfl, h3⟩ := HB6.out.2 (by omega)
        have hp2 := flatP_get l j hlt
        have k1 := h2 _ _ hp2.1
        have k2 := h2 _ _ hp2.2
        have k3 := h3 _ _ hp2.1
        have k4 := h3 _ _ hp2.2
        rw [← Nat.add_assoc] at k2 k4
        have hlt' : (j : Int) < (l.length : Int) := by omega
        clear h2 h3 hp2
        go_wp2_with fail
        go_quiet (fail)
        go_wp2_with fail
        go_roundg (gk - 1)
        case measure => omega
        case rel => exact ⟨j + 1, n + nq, by omega, by go_num, rfl⟩
      · go_wp2_with fail
        refine (first_true _ (HG.out.keep (below_drewN hb6' n)) (HT.out.keep (below_drewN hb6' n))).mono ?_
        rintro e w7 ⟨rfl, hb7⟩
        go_wp2_with fail
        go_ret
        exact ⟨rfl, (below_drewN hb6' n).trans (hb7.mono hb6'.size)⟩
  · have hf' : Fa.few l = false := by simpa using hf
    rw [hf']
    clear hf hf'
    go_wp2_with fail
    refine (first_true _ (HG.out.keep hb1) (HT.out.keep hb1)).mono ?_
    rintro e w2 ⟨rfl, hb2⟩
    go_wp2_with fail
    go_ret
    exact ⟨rfl, hb1.trans (hb2.mono hb1.size)⟩

end Go.Proofs.YtjlaljbmcncciaaDoor
