/- disk.well and its closure: which writes may be. -/
import Derived.Test.YtdcokepmblcdmaaBase
import Derived.Test.YtdcokepmblcdmaaShelf
import Derived.Test.YtdcokepmblcdmaaKDisk
import Derived.Test.YtdcokepmblcdmaaAny
import Derived.Below
import Derived.Deep.Draws
import Derived.OwnWalk
import Derived.Laws.BytesArg
import Derived.Laws.MakeOwn
import Derived.Laws.OwnMore
import Derived.Deep.OwnRows
import Derived.Tactics
import Derived.Lib.ConvBytes
import Derived.Laws.Slices
import Derived.WalkKit
import Derived.KernelRfl
import Derived.RowKit3
import Derived.Deep.LoopGhost
import Derived.Deep.QuietTactic
import Derived.BigQuiet
import Derived.WideLaws
import Derived.Deep.DeepCutAuto
import Derived.Deep.CutBlock
import Derived.Deep.RegionHeld3
import Derived.Laws.Rows
import Derived.Lib.AppendStr
import Derived.ArgAppend
import Derived.Laws.BitsLemmas
import Derived.RowKit
namespace Go.Proofs.Ytdcokepmblcdmaa
open Go.RowKit Go.Proofs.YtdcokepmblcdmaaW.PrintWords Go.Proofs.YtdcokepmblcdmaaW.PrintLast Go.Proofs.YtdcokepmblcdmaaW.PrintMore
attribute [local go_sem] max2_int min2_int max_two min_two max_three min_three max_four min_four
set_option linter.unusedVariables false
set_option linter.unusedSimpArgs false
/-- A write that may not be, on so many sectors. -/
def badW (n : Int) (x : S36) : Bool := x.f0 < 0 || n ≤ x.f0 || (x.f1.size : Int) != 128
def wellW (n : Int) (l : List S36) : Bool := !(l.any (badW n))
set_option maxHeartbeats 1000000 in
set_option maxRecDepth 100000 in
theorem disk_well1 (x : S36) (n : Int) (p : Addr) (w : World) (hp : w.cell? p = some (.int .i64 n)) :
    Calls Try.prog 31 #[.agg #[.int .i64 x.f0, .string x.f1], .pointer (some p)] w fun e w' => e = .returned (.bool (badW n x)) ∧ Below w.heap.size w w' := by
  obtain ⟨a, s⟩ := x
  obtain ⟨r, hr0⟩ : ∃ r, r = badW n ⟨a, s⟩ := ⟨_, rfl⟩
  rw [← hr0]
  have hr : Hid (r = badW n ⟨a, s⟩) := hr0
  clear hr0
  have hpc : ∀ o, (w.alloc o).cell? p = some (.int .i64 n) := fun o => pw_cell_below (below_alloc (Below.refl _ _) o) hp
  by_cases h0 : a < 0
  · have hr1 : r = true := by rw [hr.out]; simp [badW, h0]
    subst hr1
    go_enter Try.func31, Try.ntmps31
    go_wp2
    go_ret
    exact ⟨rfl, (Below.refl _ _).alloc (Nat.le_refl _) _⟩
  · by_cases h1 : n ≤ a
    · have hr1 : r = true := by rw [hr.out]; simp [badW, h1]
      subst hr1
      go_enter Try.func31, Try.ntmps31
      go_wp2
      go_ret
      exact ⟨rfl, (Below.refl _ _).alloc (Nat.le_refl _) _⟩
    · have hr1 : r = ((s.size : Int) != 128) := by rw [hr.out]; simp [badW, h0, h1]
      rw [hr1]
      clear hr1 hr
      go_enter Try.func31, Try.ntmps31
      go_wp2
      go_ret
      exact ⟨rfl, (Below.refl _ _).alloc (Nat.le_refl _) _⟩
theorem disk_well1' (n : Int) (x : S36) (p : Addr) (w : World) (hp : w.cell? p = some (.int .i64 n)) :
    Calls Try.prog 31 #[.agg #[.int .i64 x.f0, .string x.f1], .pointer (some p)] w fun e w' => e = .returned (.bool (badW n x)) ∧ Below w.heap.size w w' := disk_well1 x n p w hp
set_option maxHeartbeats 2000000 in
set_option maxRecDepth 100000 in
theorem well_index (A : Option Addr) (c : Nat) (l : List S36) (n : Int) (p : Addr) (w : World) (hp : w.cell? p = some (.int .i64 n)) (ha : Kd.C k36 w A l.length l) (hc : l.length ≤ c) :
    Calls Try.prog 40 #[.slice A l.length c, .func (Fn.func 31) #[] #[.pointer (some p)]] w fun e w' => (∃ i : Int, e = .returned (.int .i64 i) ∧ IndexIs (badW n) l i) ∧ Below w.heap.size w w' := by
  have ma := Kd.C_max ha
  go_enter Try.func40, Try.ntmps40
  go_wp2
  go_loopw [8] (fun i wr => ∃ k : Nat, k ≤ l.length ∧ i = .int .i64 k ∧ Hid ((l.take k).any (badW n) = false) ∧ Below w.heap.size w wr) (fun i _ => l.length - (intOf i).toNat)
  case atStart => exact ⟨0, Nat.zero_le _, rfl, rfl, Below.refl _ _⟩
  case round =>
    obtain ⟨k, hk, rfl, hN, hb⟩ := hrel
    by_cases hlt : k < l.length
    · have HS := hid (anyTo_succ (badW n) l z36 k hlt)
      have HI := fun (h0 : (l.take k).any (badW n) = false) (h1 : (badW n) (l.getD k z36) = true) => hid (IndexIs.at hlt h0 h1)
      obtain ⟨ad, rfl, hcells⟩ := at_T36 (Kd.C_below ha hb) (k : Int) (by omega) (by omega)
      rw [Int.toNat_natCast] at hcells
      have hx : rd_T36 l (k : Int) = l.getD k z36 := by rw [rd_T36, Int.toNat_natCast]
      rw [hx] at hcells
      obtain ⟨h1, h2⟩ := hcells
      clear hx
      generalize l.getD k z36 = x at *
      go_wp2_with fail
      refine (disk_well1' n x p wr (pw_cell_below hb hp)).mono ?_
      rintro e w1 ⟨rfl, b1⟩
      by_cases hB : (badW n) x = true
      · rw [hB]
        have hE := HI hN.out hB
        clear hB HI HS
        go_wp2
        go_ret
        exact ⟨⟨_, rfl, hE.out⟩, below_step hb b1⟩
      · rw [Bool.eq_false_iff.mpr hB]
        have hE := hid (show (l.take (k + 1)).any (badW n) = false by rw [HS.out, hN.out, Bool.eq_false_iff.mpr hB]; rfl)
        clear hB HI HS
        go_wp2
        go_roundw
        case rel => exact ⟨k + 1, by omega, by go_num, hE, below_step hb b1⟩
        case measure => simp [intOf]; omega
    · obtain rfl : k = l.length := by omega
      have hE := hid (show l.any (badW n) = false by have := hN.out; rwa [List.take_length] at this)
      go_wp2
      go_ret
      exact ⟨⟨_, rfl, IndexIs.none hE.out⟩, hb⟩
set_option maxHeartbeats 1000000 in
set_option maxRecDepth 100000 in
theorem well_contains (A : Option Addr) (c : Nat) (l : List S36) (n : Int) (p : Addr) (w : World) (hp : w.cell? p = some (.int .i64 n)) (ha : Kd.C k36 w A l.length l) (hc : l.length ≤ c) :
    Calls Try.prog 30 #[.slice A l.length c, .func (Fn.func 31) #[] #[.pointer (some p)]] w fun e w' => e = .returned (.bool (l.any (badW n))) ∧ Below w.heap.size w w' := by
  obtain ⟨r, hr0⟩ : ∃ r, r = l.any (badW n) := ⟨_, rfl⟩
  rw [← hr0]
  have hr : Hid (r = l.any (badW n)) := hr0
  clear hr0
  go_enter Try.func30, Try.ntmps30
  go_wp2_with fail
  refine (well_index A c l n p w hp ha hc).mono ?_
  rintro e w1 ⟨⟨i, rfl, hi⟩, b1⟩
  have hi : Hid (IndexIs (badW n) l i) := hi
  go_wp2
  go_ret
  exact ⟨by rw [hr.out, ← IndexIs.found hi.out]; rfl, b1⟩
set_option maxHeartbeats 1000000 in
set_option maxRecDepth 100000 in
theorem disk_well (A : Option Addr) (c : Nat) (l : List S36) (n : Int) (w : World) (ha : Kd.C k36 w A l.length l) (hc : l.length ≤ c) :
    Calls Try.prog 21 #[.slice A l.length c, .int .i64 n] w fun e w' => e = .returned (.bool (wellW n l)) ∧ Below w.heap.size w w' := by
  obtain ⟨r, hr⟩ : ∃ r, r = l.any (badW n) := ⟨_, rfl⟩
  have hr2 : wellW n l = !r := by rw [hr]; rfl
  rw [hr2]
  go_enter Try.func21, Try.ntmps21
  go_wp2_with fail
  refine (well_contains A c l n _ _ (World.cell?_alloc_new _ _ _ _) (Kd.C_alloc ha _) hc).mono ?_
  rintro e w1 ⟨rfl, b1⟩
  rw [← hr]
  clear hr hr2
  go_wp2
  go_ret
  exact ⟨rfl, below_then ((Below.refl _ _).alloc (Nat.le_refl _) _) (by simp) b1⟩
def badS (x : ByteArray) : Bool := (x.size : Int) != 128
theorem right1 (x : ByteArray) (w : World) : Calls Try.prog 28 #[.string x] w fun e w' => e = .returned (.bool (badS x)) ∧ Below w.heap.size w w' := by
  go_enter Try.func28, Try.ntmps28
  go_wp2
  go_ret
  exact ⟨rfl, Below.refl _ _⟩
set_option maxHeartbeats 2000000 in
set_option maxRecDepth 100000 in
theorem right_index (A : Option Addr) (c : Nat) (l : List ByteArray) (w : World) (ha : Kd.C Kd.string w A l.length l) (hc : l.length ≤ c) :
    Calls Try.prog 39 #[.slice A l.length c, .func (Fn.func 28) #[] #[]] w fun e w' => (∃ i : Int, e = .returned (.int .i64 i) ∧ IndexIs (badS) l i) ∧ Below w.heap.size w w' := by
  have ma := Kd.C_max ha
  go_enter Try.func39, Try.ntmps39
  go_wp2
  go_loopw [8] (fun i wr => ∃ k : Nat, k ≤ l.length ∧ i = .int .i64 k ∧ Hid ((l.take k).any (badS) = false) ∧ Below w.heap.size w wr) (fun i _ => l.length - (intOf i).toNat)
  case atStart => exact ⟨0, Nat.zero_le _, rfl, rfl, Below.refl _ _⟩
  case round =>
    obtain ⟨k, hk, rfl, hN, hb⟩ := hrel
    by_cases hlt : k < l.length
    · have HS := hid (anyTo_succ (badS) l ByteArray.empty k hlt)
      have HI := fun (h0 : (l.take k).any (badS) = false) (h1 : (badS) (l.getD k ByteArray.empty) = true) => hid (IndexIs.at hlt h0 h1)
      obtain ⟨ad, rfl, h1⟩ := Kd.at_string (Kd.C_below ha hb) (k : Int) (by omega) (by omega)
      rw [Int.toNat_natCast] at h1
      have hx : rdOf ByteArray.empty l (k : Int) = l.getD k ByteArray.empty := by rw [rdOf, Int.toNat_natCast]
      rw [hx] at h1
      clear hx
      generalize l.getD k ByteArray.empty = x at *
      go_wp2_with fail
      refine (right1  x  wr ).mono ?_
      rintro e w1 ⟨rfl, b1⟩
      by_cases hB : (badS) x = true
      · rw [hB]
        have hE := HI hN.out hB
        clear hB HI HS
        go_wp2
        go_ret
        exact ⟨⟨_, rfl, hE.out⟩, below_step hb b1⟩
      · rw [Bool.eq_false_iff.mpr hB]
        have hE := hid (show (l.take (k + 1)).any (badS) = false by rw [HS.out, hN.out, Bool.eq_false_iff.mpr hB]; rfl)
        clear hB HI HS
        go_wp2
        go_roundw
        case rel => exact ⟨k + 1, by omega, by go_num, hE, below_step hb b1⟩
        case measure => simp [intOf]; omega
    · obtain rfl : k = l.length := by omega
      have hE := hid (show l.any (badS) = false by have := hN.out; rwa [List.take_length] at this)
      go_wp2
      go_ret
      exact ⟨⟨_, rfl, IndexIs.none hE.out⟩, hb⟩
set_option maxHeartbeats 1000000 in
set_option maxRecDepth 100000 in
theorem right_contains (A : Option Addr) (c : Nat) (l : List ByteArray) (w : World) (ha : Kd.C Kd.string w A l.length l) (hc : l.length ≤ c) :
    Calls Try.prog 29 #[.slice A l.length c, .func (Fn.func 28) #[] #[]] w fun e w' => e = .returned (.bool (l.any (badS))) ∧ Below w.heap.size w w' := by
  obtain ⟨r, hr0⟩ : ∃ r, r = l.any (badS) := ⟨_, rfl⟩
  rw [← hr0]
  have hr : Hid (r = l.any (badS)) := hr0
  clear hr0
  go_enter Try.func29, Try.ntmps29
  go_wp2_with fail
  refine (right_index A c l   w  ha hc).mono ?_
  rintro e w1 ⟨⟨i, rfl, hi⟩, b1⟩
  have hi : Hid (IndexIs (badS) l i) := hi
  go_wp2
  go_ret
  exact ⟨by rw [hr.out, ← IndexIs.found hi.out]; rfl, b1⟩
end Go.Proofs.Ytdcokepmblcdmaa
