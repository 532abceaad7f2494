/- What the laws of disks share (also typed in XLDiskApart). -/
import Derived.Test.YtdcokepmblcdmaaBase
import Derived.Test.YtdcokepmblcdmaaShelf
import Derived.Test.YtdcokepmblcdmaaOct
import Derived.Test.YtdcokepmblcdmaaV
import Derived.Test.YtdcokepmblcdmaaOpen
import Derived.Test.YtdcokepmblcdmaaKDisk
import Derived.Test.YtdcokepmblcdmaaAny
import Derived.Test.YtdcokepmblcdmaaCDWell
import Derived.Test.YtdcokepmblcdmaaCDRight
import Derived.Test.YtdcokepmblcdmaaDSave
import Derived.Test.YtdcokepmblcdmaaCDEnds
import Derived.Test.YtdcokepmblcdmaaDNew
import Derived.Test.YtdcokepmblcdmaaDLike
import Derived.Test.YtdcokepmblcdmaaDFlush
import Derived.Test.YtdcokepmblcdmaaDMath
import Derived.Test.YtdcokepmblcdmaaDAlive
import Derived.Test.YtdcokepmblcdmaaCRef09b
import Derived.Test.YtdcokepmblcdmaaTexts
import Derived.Below
import Derived.Deep.Draws
import Derived.OwnWalk
import Derived.Laws.BytesArg
import Derived.Laws.MakeOwn
import Derived.Laws.OwnMore
import Derived.Deep.OwnRows
import Derived.Tactics
import Derived.Lib.ConvBytes
import Derived.Laws.Slices
import Derived.WalkKit
import Derived.KernelRfl
import Derived.RowKit3
import Derived.Deep.LoopGhost
import Derived.Deep.QuietTactic
import Derived.BigQuiet
import Derived.WideLaws
import Derived.Deep.DeepCutAuto
import Derived.Deep.CutBlock
import Derived.Deep.RegionHeld3
import Derived.Laws.Rows
import Derived.Lib.AppendStr
import Derived.ArgAppend
import Derived.Laws.BitsLemmas
import Derived.RowKit
namespace Go.Proofs.Ytdcokepmblcdmaa
open Go.RowKit Go.Proofs.YtdcokepmblcdmaaW.PrintWords Go.Proofs.YtdcokepmblcdmaaW.PrintLast Go.Proofs.YtdcokepmblcdmaaW.PrintMore
attribute [local go_sem] max2_int min2_int max_two min_two max_three min_three max_four min_four
set_option linter.unusedVariables false
set_option linter.unusedSimpArgs false
theorem disk_RightV (v : Value) (d : SD) (w : World) (hv : VDisk w v d) : Calls Try.prog 17 #[v] w fun e w' => e = .returned (.bool (rightD d)) ∧ Below w.heap.size w w' := by
  obtain ⟨A0, c0, A1, c1, rfl, l0, m0, g0, l1, m1, g1⟩ := VDisk.open (St.start fun w1 => hv.below)
  exact disk_Right A0 c0 A1 c1 d w g0.now l0 g1.now l1
theorem ref_RightV (v : Value) (d : SD) (w : World) (hv : VDisk w v d) : Calls Try.prog 8 #[v] w fun e w' => e = .returned (.bool (rightD d)) ∧ Below w.heap.size w w' := by
  obtain ⟨A0, c0, A1, c1, rfl, l0, m0, g0, l1, m1, g1⟩ := VDisk.open (St.start fun w1 => hv.below)
  exact ref_Right A0 c0 A1 c1 d w g0.now l0 g1.now l1
/-- disk.Save of one write; what it gives hangs on no block from w0 on that was there, but the write's own. -/
theorem disk_Save_any (w0 : World) (rb : Nat) (v : Value) (d : SD) (x : SW) (w : World) (hb : Below w0.heap.size w0 w) (hd : VDisk w0 v d) (hrow : kWrite.C w (some ⟨rb, 0, none⟩) [x].length [x]) :
    Calls Try.prog 10 #[v, .slice (some ⟨rb, 0, none⟩) 1 1] w fun e w' => (∃ r, e = .returned (.tuple #[r, .int .i64 (saveD d [x]).2]) ∧ St (fun k => w0.heap.size ≤ k ∧ k < w.heap.size ∧ k ≠ rb) w' (fun w => VDisk w r (saveD d [x]).1)) ∧ Below w.heap.size w w' :=
  disk_Save (fun k => w0.heap.size ≤ k ∧ k < w.heap.size ∧ k ≠ rb) v _ d [x] w (fun _ h => h.2.1)
    (((St.start fun w5 hb5 => hd.below hb5).wide (fun k (h1 : k < w0.heap.size) h2 => by have := h2.1; omega)).keep (Keep.of_below hb))
    (SlV.mk_ (xs := [x]) (c := 1) (Nat.le_refl _) (St.ofC kWrite_flat hrow (fun ad e _ hs => by cases e; exact hs.2.2 rfl))) (by simp)
theorem stands_snoc (d : SD) (x : SW) (k : Nat) : standsD ⟨d.f0, d.f1 ++ [x]⟩ k = if x.f0 = (k : Int) then x.f1 else standsD d k := by
  unfold standsD
  rw [List.foldl_append]
  rfl
theorem mod_place {a n : Int} (hn : 0 < n) : 0 ≤ (a.tmod n + n) % n ∧ (a.tmod n + n) % n < n ∧ 0 ≤ a.tmod n + n ∧ a.tmod n + n < 2 * n := by
  have h1 := Int.tmod_lt_of_pos a hn
  have h2 : -n < a.tmod n := by
    have := Int.tmod_lt_of_pos (-a) hn
    rw [Int.neg_tmod] at this
    omega
  exact ⟨Int.emod_nonneg _ (by omega), Int.emod_lt_of_pos _ hn, by omega, by omega⟩
/-- The same, where private blocks are known ahead. -/
theorem disk_Save_st (S0 : Nat → Prop) (w0 : World) (rb : Nat) (v : Value) (d : SD) (x : SW) (w : World) (hS0 : ∀ k, S0 k → k < w0.heap.size) (hb : Below w0.heap.size w0 w) (hr : w0.heap.size ≤ rb) (hd : St S0 w0 (fun w => VDisk w v d)) (hrow : kWrite.C w (some ⟨rb, 0, none⟩) [x].length [x]) :
    Calls Try.prog 10 #[v, .slice (some ⟨rb, 0, none⟩) 1 1] w fun e w' => (∃ r, e = .returned (.tuple #[r, .int .i64 (saveD d [x]).2]) ∧ St (fun k => S0 k ∨ (w0.heap.size ≤ k ∧ k < w.heap.size ∧ k ≠ rb)) w' (fun w => VDisk w r (saveD d [x]).1)) ∧ Below w.heap.size w w' :=
  disk_Save (fun k => S0 k ∨ (w0.heap.size ≤ k ∧ k < w.heap.size ∧ k ≠ rb)) v _ d [x] w (fun k h => by
      rcases h with h | h
      · have := hS0 k h; have := hb.size; omega
      · exact h.2.1)
    ((hd.wide (fun k (h1 : k < w0.heap.size) h2 => by
      rcases h2 with h2 | h2
      · exact h2
      · have := h2.1; omega)).keep (Keep.of_below hb))
    (SlV.mk_ (xs := [x]) (c := 1) (Nat.le_refl _) (St.ofC kWrite_flat hrow (fun ad e _ hs => by
      cases e
      rcases hs with hs | hs
      · have : rb < w0.heap.size := hS0 _ hs
        omega
      · exact hs.2.2 rfl))) (by simp)
end Go.Proofs.Ytdcokepmblcdmaa
