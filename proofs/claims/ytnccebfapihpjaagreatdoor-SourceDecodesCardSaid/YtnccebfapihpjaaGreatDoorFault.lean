/- Contracts of package fault (In, Of, Path) and of kinsame.Err, over errors that are chains of Faults. -/
import Derived.Test.YtnccebfapihpjaaGreatDoorErrAs
import Derived.Deep.RegionHeld3
import Derived.Deep.QuietTactic
import Derived.BigQuiet
import Derived.Deep.RegionLaw
import Derived.StillTailTactics
namespace Go.Proofs.YtnccebfapihpjaaGreatDoor
open Go Go.RowKit Go.Extern.Stop Go.Stop Go.Extern

theorem In_nil (s : ByteArray) (p : Int) (w : World) : Calls Tryz.prog 37 #[.string s, .int .i64 p, .nilIface] w fun e w' => e = .returned .nilIface ∧ w = w' := by
  go_enter Tryz.func37, Tryz.ntmps37
  go_wp2
  go_ret
  exact ⟨rfl, rfl⟩

theorem In_some (s : ByteArray) (p : Int) (T : TypeId) (x : Value) (w : World) : Calls Tryz.prog 37 #[.string s, .int .i64 p, .iface T x] w
    fun e w' => e = .returned (.iface 105 (.pointer (some ⟨w.heap.size, 0, none⟩))) ∧ Blk w' w.heap.size 108 #[.string s, .int .i64 p, .iface T x] ∧ Below w.heap.size w w' := by
  go_enter Tryz.func37, Tryz.ntmps37
  go_wp2
  go_ret
  exact ⟨rfl, Blk.new _ _ _, (Below.refl _ _).alloc (Nat.le_refl _) _⟩

theorem Of_nil (w : World) : Calls Tryz.prog 33 #[.nilIface] w fun e w' => e = .returned (.int .i64 0) ∧ w = w' := by
  go_enter Tryz.func33, Tryz.ntmps33
  go_wp2
  go_ret
  exact ⟨rfl, rfl⟩

theorem Of_code {path : List (ByteArray × Int)} {c : Int} {v : Value} (w : World) (hg : Gl w) (he : ErrAt w path (.iface 31 (.int .i64 c)) v) :
    Calls Tryz.prog 33 #[v] w fun e w' => e = .returned (.int .i64 c) ∧ Below w.heap.size w w' := by
  obtain ⟨T, x, rfl⟩ := he.iface
  have HE := Lib.hid he
  have HG := Lib.hid hg
  clear he hg
  go_enter Tryz.func33, Tryz.ntmps33
  go_wp2_with (go_at_call 62; refine (As_code _ (HG.out.keep ((Below.refl _ _).alloc (Nat.le_refl _) _)) (ErrAt.keep (fun _ _ hB => hB.alloc _) HE.out) (Blk.new w _ _)).mono ?_; rintro e w' ⟨rfl, hs⟩; have hc := hs.2.cell 0)
  go_ret
  exact ⟨rfl, below_only ((Below.refl _ _).alloc (Nat.le_refl _) _) hs.1 (by simp) (Nat.le_refl _)⟩

/-- A path as the cells of its steps. -/
def flatP (path : List (ByteArray × Int)) : List Value := path.flatMap fun x => [.string x.1, .int .i64 x.2]
theorem flatP_app (p q : List (ByteArray × Int)) : flatP (p ++ q) = flatP p ++ flatP q := by simp [flatP]
theorem flatP_length (p : List (ByteArray × Int)) : (flatP p).length = p.length * 2 := by
  induction p with
  | nil => rfl
  | cons a r ih => simp only [flatP, List.flatMap_cons, List.length_append, List.length_cons, List.length_nil] at *; omega
theorem flatP_get (p : List (ByteArray × Int)) (i : Nat) (h : i < p.length) : (flatP p)[i * 2]? = some (.string p[i].1) ∧ (flatP p)[i * 2 + 1]? = some (.int .i64 p[i].2) := by
  induction p generalizing i with
  | nil => simp at h
  | cons a r ih =>
    cases i with
    | zero => simp [flatP]
    | succ i =>
      have := ih i (by simpa using h)
      simp only [flatP, List.flatMap_cons, List.getElem_cons_succ] at *
      rw [show (i + 1) * 2 = 2 + i * 2 by omega, List.getElem?_append_right (by simp), show 2 + i * 2 + 1 = 2 + (i * 2 + 1) by omega, List.getElem?_append_right (by simp)]
      simpa using this

/-- What errors.As says of an error's end, asked for a Fault: none. -/
def Tail (t : Value) : Prop := ∀ (w : World) (tb : Nat) (old : Value), Gl w → Blk w tb 105 #[old] →
  Calls Tryz.prog 62 #[t, .iface 106 (.pointer (some ⟨tb, 0, none⟩))] w fun e w' => e = .returned (.bool false) ∧ Below w.heap.size w w'
theorem Tail.code (c : Int) : Tail (.iface 31 (.int .i64 c)) := fun w _ _ hg hb => As_fault_code w hg hb
theorem Tail.nil : Tail .nilIface := fun w _ _ _ _ => (as_nil _ w).mono fun _ _ ⟨he, hw⟩ => ⟨he, hw ▸ Below.refl _ _⟩

def PathOut (w : World) (path : List (ByteArray × Int)) (e : Ending) (w' : World) : Prop :=
  ∃ A cap, e = .returned (.slice A path.length cap) ∧ Rd w' 2 A path.length (flatP path) ∧ Below w.heap.size w w'

theorem stepInfo : (Tryz.prog.info? 71).map (fun i => (i.zero, i.size, i.bytes)) = some (some (.agg #[.string ⟨#[]⟩, .int .i64 0]), 2, 24) := by kernel_rfl

set_option maxRecDepth 100000 in
set_option maxHeartbeats 1000000 in
theorem Path_any {path : List (ByteArray × Int)} {t v : Value} (hp : path.length ≤ 1000000000000) (ht : Tail t) (w : World) (hg : Gl w) (he : ErrAt w path t v) :
    Calls Tryz.prog 34 #[v] w (PathOut w path) := by
  obtain ⟨i0, hi, hz0, hz1, hz2⟩ := info_parts stepInfo
  have HE := Lib.hid he
  have HG := Lib.hid hg
  have HT := Lib.hid ht
  clear he hg ht
  go_enter Tryz.func34, Tryz.ntmps34
  go_wp2_with fail
  go_loopg [3, 5] path.length (fun k vl ve wr => ∃ done r old, path = done ++ r ∧ r.length = k ∧ ErrAt wr r t ve ∧ wr.ownsRow (w.heap.size + 1) 71 2 vl done.length (flatP done) ∧ Blk wr w.heap.size 105 #[old] ∧ Below w.heap.size w wr ∧ Gl wr)
  case atStart => exact ⟨[], path, _, rfl, rfl, HE.out.keep (fun _ _ hB => hB.alloc _), World.ownsRow_nil _ _ _ _, Blk.new w _ _, (Below.refl _ _).alloc (Nat.le_refl _) _, HG.out.keep ((Below.refl _ _).alloc (Nat.le_refl _) _)⟩
  case round =>
    obtain ⟨done, r, old, hpath, hr, hE, hown, hB, hbel, hG⟩ := hrel
    have HP := Lib.hid hpath
    clear hpath
    cases r with
    | nil =>
      obtain rfl : _ = _ := hE
      go_wp2_with (go_at_call 62; refine (HT.out _ _ _ hG hB).mono ?_; rintro e w' ⟨rfl, hs⟩)
      go_ret
      have hlen : path.length = done.length := by rw [HP.out]; simp
      have hd : path = done := by rw [HP.out]; simp
      unfold PathOut
      obtain ⟨A, cap, rfl⟩ := own_slice hown
      refine ⟨A, cap, by rw [hlen]; rfl, ?_, hbel.trans (hs.mono hbel.size)⟩
      rw [hd]
      exact (Rd.of_own hown).keep hs
    | cons x r =>
      obtain ⟨s, p⟩ := x
      obtain ⟨b, u, rfl, hF, hE'⟩ := hE
      go_wp2_with (go_at_call 62; refine (As_fault _ hG hB).mono ?_; rintro e w' ⟨rfl, hs⟩)
      have hF' := hF.grown hs.1 (by have := hF.apart hB (by decide); simpa using this)
      have hc0 := hs.2.cell 0
      have hf0 := hF'.cell 0
      have hf1 := hF'.cell 1
      have hf2 := hF'.cell 2
      simp only [List.getElem?_toArray, List.getElem?_cons_zero, List.getElem?_cons_succ] at hc0 hf0 hf1 hf2
      have hn1 := own_notBlk hown hB (by decide)
      have hn2 := own_notBlk hown hF (by decide)
      have hown' := Lib.hid (hown.kept hs.1 (.inr hn1))
      have hs' := Lib.hid hs
      clear hown hs
      have hsz : w.heap.size + 1 ≤ w'.heap.size := by have := hs'.out.2.lt; omega
      have hbnd : done.length + 1 ≤ 1000000000000 := by have := congrArg List.length HP.out; simp at this; omega
      have hlb := hF'.lt
      go_region_held3 (fun W => W.cell? ⟨w.heap.size, 0, none⟩ = some (.pointer (some ⟨b, 0, none⟩)) ∧ W.cell? ⟨b, 0, none⟩ = some (.string s) ∧ W.cell? ⟨b, 1, none⟩ = some (.int .i64 p))
        (first
          | go_keep
          | (go_split_ands
             refine ⟨?_, ?_, ?_⟩
             · (rw [hgrow.cell_far _ (by simp; omega) (Ne.symm hn1)]; assumption)
             · (rw [hgrow.cell_far _ (by simp; omega) (Ne.symm hn2)]; assumption)
             · (rw [hgrow.cell_far _ (by simp; omega) (Ne.symm hn2)]; assumption)))
        ((refine step_append_lies _ (by rfl) _ _ _ (by rfl) (w.heap.size + 1) 71 i0 _ 2 24 Tryz.underlying68 hi hz0 hz1 hz2 rfl (by omega) u3 done.length (flatP done) (by rfl) ((hown'.out.alloc _).drew)
            ⟨w'.heap.size, 0, none⟩ 1 1 [.string s, .int .i64 p] (by rfl) (by rfl) (World.news_of_block (cs := #[.string s, .int .i64 p]) (t := 71) (fr := (0, 0)) (heap_alloc_new w' _)) (by simp [Value.oneCell'])
            (by omega) (by unfold maxLen; omega) (by omega) (by simp; omega) (w'.heap.size + 1) (by simp) ?_; intro g cap w1 hown1 hgrow hat hlt))
      have hc2 : w1.cell? ⟨b, 2, none⟩ = some u := by rw [hgrow.cell_far _ (by simp; omega) (Ne.symm hn2)]; exact cell_keep hf2 ((Below.refl _ _).alloc (Nat.le_refl _) _).drew
      have HO := Lib.hid hown1
      have HW := Lib.hid hgrow
      have HE' := Lib.hid hE'
      clear hown1 hgrow hE' hat
      go_wp2_with fail
      have hb1 : Below (w.heap.size + 1) w' w1 := ((((Below.refl _ _).alloc hsz _).drew).grown HW.out (by simp; omega) (fun k hk => (hown'.out.lt k hk).1))
      have hk : ∀ g' t' cs, t' ≠ 71 → Blk wr g' t' cs → g' ≠ w.heap.size → Blk w1 g' t' cs := fun g' t' cs ht' hB' hne => by
        have h1 := hB'.grown hs'.out.1 (by simpa using hne)
        refine ((h1.alloc _).drew).grown HW.out ?_
        exact Ne.symm (own_notBlk hown'.out h1 (Ne.symm ht'))
      go_roundg r.length
      case measure => simp at hr; omega
      case rel =>
        have hbl := (below_only hbel hs'.out.1 hbel.size (Nat.le_refl _)).trans (hb1.mono (by omega))
        refine ⟨done ++ [(s, p)], r, .pointer (some ⟨b, 0, none⟩), by rw [HP.out]; simp, rfl, HE'.out.keep (fun g' cs hB' => hk g' _ cs (by decide) hB' (hB'.apart hB (by decide))), ?_, ?_, hbl, HG.out.keep hbl⟩
        · rw [flatP_app, List.length_append]; exact HO.out
        · refine ((hs'.out.2.alloc _).drew).grown HW.out ?_
          exact Ne.symm hn1

end Go.Proofs.YtnccebfapihpjaaGreatDoor
