/- The walk of FaultMade: a Fault made by hand. -/
import Derived.Test.YtjlaljbmcncciaaDoorFaultFirst
import Derived.Test.YtjlaljbmcncciaaDoorFaultNone
namespace Go.Proofs.YtjlaljbmcncciaaDoor
open Go Go.RowKit Go.Extern.Stop Go.Stop Go.Extern

set_option maxRecDepth 100000 in
set_option maxHeartbeats 2000000 in
theorem FaultMade_walk {s : ByteArray} {p c : Int} {some' : Bool} (hs : s.size ≤ 9223372036854775807) (w : World) (hg : Gl w) (hT : Tb w) :
    Calls Tryd.prog 4 #[.string s, .int .i64 p, .int .i64 c, .bool some'] w fun e w' => e = .returned (.bool true) ∧ Below w.heap.size w w' := by
  have HG := Lib.hid hg
  have HT := Lib.hid hT
  clear hg hT
  have e1 : (c == c) = true := by simp
  by_cases hsz : 20000 < (s.size : Int)
  · go_enter Tryd.func4, Tryd.ntmps4
    go_wp2_with fail
    refine (first_true _ HG.out HT.out).mono ?_
    rintro e w1 ⟨rfl, hb1⟩
    go_wp2_with fail
    refine (first_true _ (HG.out.keep hb1) (HT.out.keep hb1)).mono ?_
    rintro e w2 ⟨rfl, hb2⟩
    go_wp2_with fail
    go_ret
    exact ⟨rfl, hb1.trans (hb2.mono hb1.size)⟩
  · cases some' with
    | true =>
      go_enter Tryd.func4, Tryd.ntmps4
      go_wp2_with fail
      refine (first_true _ HG.out HT.out).mono ?_
      rintro e w1 ⟨rfl, hb1⟩
      go_wp2_with fail
      have hbn : Below w.heap.size w (w1.alloc (.cells #[.string s, .int .i64 p, .iface 23 (.int .i64 c)] 38)) := hb1.alloc hb1.size _
      have SE : Seen (w1.alloc (.cells #[.string s, .int .i64 p, .iface 23 (.int .i64 c)] 38)) [(s, p)] c (.iface 36 (.pointer (some ⟨w1.heap.size, 0, none⟩))) := Seen.code (by simp) (HG.out.keep hbn) ⟨_, _, rfl, Blk.new w1 _ _, rfl⟩
      have HS := Lib.hid SE
      have HB := Lib.hid hbn
      clear SE hbn
      refine (unwrap_any w1.heap.size s p _ _ (Blk.new w1 _ _)).mono ?_
      rintro e w2 ⟨rfl, rfl⟩
      go_wp2_with fail
      refine (HS.out.path _ (Below.refl _ _)).mono ?_
      unfold PathOut
      rintro e w3 ⟨A, ca, rfl, hA, hb3⟩
      have hb3' : Below w.heap.size w w3 := HB.out.trans (hb3.mono HB.out.size)
      obtain ⟨b2, o2, rfl, h2⟩ := hA.2 (by simp)
      have K0 := Lib.hid (h2 0 (.string s) rfl)
      have K1 := Lib.hid (h2 1 (.int .i64 p) rfl)
      clear h2 hA
      go_wp2_with fail
      refine (HS.out.of _ hb3).mono ?_
      rintro e w4 ⟨rfl, hb4⟩
      have hb4' : Below w.heap.size w w4 := hb3'.trans (hb4.mono hb3'.size)
      go_wp2_with fail
      refine (first_true _ (HG.out.keep hb4') (HT.out.keep hb4')).mono ?_
      rintro e w5 ⟨rfl, hb5⟩
      have hb5' : Below w.heap.size w w5 := hb4'.trans (hb5.mono hb4'.size)
      have k0 := cell_keep (cell_keep K0.out hb4) hb5
      have k1 := cell_keep (cell_keep K1.out hb4) hb5
      rw [Nat.add_zero] at k0
      go_wp2_with fail
      go_ret
      exact ⟨rfl, hb5'⟩
    | false =>
      go_enter Tryd.func4, Tryd.ntmps4
      go_wp2_with fail
      refine (first_true _ HG.out HT.out).mono ?_
      rintro e w1 ⟨rfl, hb1⟩
      go_wp2_with fail
      have hbn : Below w.heap.size w (w1.alloc (.cells #[.string s, .int .i64 p, .nilIface] 38)) := hb1.alloc hb1.size _
      have SE : Seen (w1.alloc (.cells #[.string s, .int .i64 p, .nilIface] 38)) [(s, p)] 15 (.iface 36 (.pointer (some ⟨w1.heap.size, 0, none⟩))) := Seen.none_nil (by simp) (by simp) (HG.out.keep hbn) ⟨_, _, rfl, Blk.new w1 _ _, rfl⟩
      have HS := Lib.hid SE
      have HB := Lib.hid hbn
      clear SE hbn
      refine (unwrap_any w1.heap.size s p _ _ (Blk.new w1 _ _)).mono ?_
      rintro e w2 ⟨rfl, rfl⟩
      go_wp2_with fail
      refine (HS.out.path _ (Below.refl _ _)).mono ?_
      unfold PathOut
      rintro e w3 ⟨A, ca, rfl, hA, hb3⟩
      have hb3' : Below w.heap.size w w3 := HB.out.trans (hb3.mono HB.out.size)
      obtain ⟨b2, o2, rfl, h2⟩ := hA.2 (by simp)
      have K0 := Lib.hid (h2 0 (.string s) rfl)
      have K1 := Lib.hid (h2 1 (.int .i64 p) rfl)
      clear h2 hA
      go_wp2_with fail
      refine (HS.out.of _ hb3).mono ?_
      rintro e w4 ⟨rfl, hb4⟩
      have hb4' : Below w.heap.size w w4 := hb3'.trans (hb4.mono hb3'.size)
      go_wp2_with fail
      refine (first_true _ (HG.out.keep hb4') (HT.out.keep hb4')).mono ?_
      rintro e w5 ⟨rfl, hb5⟩
      have hb5' : Below w.heap.size w w5 := hb4'.trans (hb5.mono hb4'.size)
      have k0 := cell_keep (cell_keep K0.out hb4) hb5
      have k1 := cell_keep (cell_keep K1.out hb4) hb5
      rw [Nat.add_zero] at k0
      go_wp2_with fail
      go_ret
      exact ⟨rfl, hb5'⟩

end Go.Proofs.YtjlaljbmcncciaaDoor
