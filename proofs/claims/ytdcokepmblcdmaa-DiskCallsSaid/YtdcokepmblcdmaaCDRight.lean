/- disk.Right, disk.Load: which disks may be; a sector as it stands. -/
import Derived.Test.YtdcokepmblcdmaaBase
import Derived.Test.YtdcokepmblcdmaaShelf
import Derived.Test.YtdcokepmblcdmaaOct
import Derived.Test.YtdcokepmblcdmaaKDisk
import Derived.Test.YtdcokepmblcdmaaAny
import Derived.Test.YtdcokepmblcdmaaCDWell
import Derived.Below
import Derived.Deep.Draws
import Derived.OwnWalk
import Derived.Laws.BytesArg
import Derived.Laws.MakeOwn
import Derived.Laws.OwnMore
import Derived.Deep.OwnRows
import Derived.Tactics
import Derived.Lib.ConvBytes
import Derived.Laws.Slices
import Derived.WalkKit
import Derived.KernelRfl
import Derived.RowKit3
import Derived.Deep.LoopGhost
import Derived.Deep.QuietTactic
import Derived.BigQuiet
import Derived.WideLaws
import Derived.Deep.DeepCutAuto
import Derived.Deep.CutBlock
import Derived.Deep.RegionHeld3
import Derived.Laws.Rows
import Derived.Lib.AppendStr
import Derived.ArgAppend
import Derived.Laws.BitsLemmas
import Derived.RowKit
namespace Go.Proofs.Ytdcokepmblcdmaa
open Go.RowKit Go.Proofs.YtdcokepmblcdmaaW.PrintWords Go.Proofs.YtdcokepmblcdmaaW.PrintLast Go.Proofs.YtdcokepmblcdmaaW.PrintMore
attribute [local go_sem] max2_int min2_int max_two min_two max_three min_three max_four min_four
set_option linter.unusedVariables false
set_option linter.unusedSimpArgs false
abbrev SD := S25
abbrev SW := S36
def rightD (d : SD) : Bool := decide (4 ≤ d.f0.length) && (decide (d.f0.length ≤ 64) && (decide (d.f1.length ≤ 200) && (!(d.f0.any badS) && wellW d.f0.length d.f1)))
set_option maxHeartbeats 2000000 in
set_option maxRecDepth 100000 in
theorem disk_Right (A0 : Option Addr) (c0 : Nat) (A1 : Option Addr) (c1 : Nat) (d : SD) (w : World) (h0 : Kd.string.C w A0 d.f0.length d.f0) (l0 : d.f0.length ≤ c0) (h1 : Kd.C k36 w A1 d.f1.length d.f1) (l1 : d.f1.length ≤ c1) :
    Calls Try.prog 17 #[.agg #[.slice A0 d.f0.length c0, .slice A1 d.f1.length c1]] w fun e w' => e = .returned (.bool (rightD d)) ∧ Below w.heap.size w w' := by
  obtain ⟨s, t⟩ := d
  obtain ⟨r, hr0⟩ : ∃ r, r = rightD ⟨s, t⟩ := ⟨_, rfl⟩
  rw [← hr0]
  have hr : Hid (r = rightD ⟨s, t⟩) := hr0
  clear hr0
  have m0 := Kd.C_max h0
  have m1 := Kd.C_max h1
  simp only at h0 l0 h1 l1 m0 m1 ⊢
  by_cases q1 : 4 ≤ s.length
  · by_cases q2 : s.length ≤ 64
    · by_cases q3 : t.length ≤ 200
      · go_enter Try.func17, Try.ntmps17
        go_wp2_with fail
        refine (right_contains A0 c0 s _ (Kd.C_alloc h0 _) l0).mono ?_
        rintro e w1 ⟨rfl, b1⟩
        have b1' := below_then (below_alloc (Below.refl _ w) _) (by simp) b1
        by_cases q4 : s.any badS = true
        · have hr1 : r = false := by rw [hr.out]; simp [rightD, q1, q2, q3, q4]
          subst hr1
          rw [q4]
          clear q4 hr
          go_wp2
          go_ret
          exact ⟨rfl, b1'⟩
        · have q4 := Bool.eq_false_iff.mpr q4
          rw [q4]
          have hr1 : r = wellW s.length t := by rw [hr.out]; simp [rightD, q1, q2, q3, q4]
          subst hr1
          clear q4 hr
          have hc := pw_cell_below b1 (World.cell?_alloc_new w #[.slice A0 s.length c0, .slice A1 t.length c1] 25 1)
          go_wp2_with fail
          refine (disk_well A1 c1 t s.length _ (Kd.C_below (Kd.C_alloc h1 _) b1) l1).mono ?_
          rintro e w2 ⟨rfl, b2⟩
          go_wp2
          go_ret
          exact ⟨rfl, below_step b1' b2⟩
      · have hr1 : r = false := by rw [hr.out]; simp [rightD, q3]
        subst hr1
        clear hr
        go_enter Try.func17, Try.ntmps17
        go_wp2
        go_ret
        exact ⟨rfl, below_alloc (Below.refl _ w) _⟩
    · have hr1 : r = false := by rw [hr.out]; simp [rightD, q2]
      subst hr1
      clear hr
      go_enter Try.func17, Try.ntmps17
      go_wp2
      go_ret
      exact ⟨rfl, below_alloc (Below.refl _ w) _⟩
  · have hr1 : r = false := by rw [hr.out]; simp [rightD, q1]
    subst hr1
    clear hr
    go_enter Try.func17, Try.ntmps17
    go_wp2
    go_ret
    exact ⟨rfl, below_alloc (Below.refl _ w) _⟩
/-- A sector as it stands. -/
def standsD (d : SD) (k : Nat) : ByteArray := d.f1.foldl (fun (s : ByteArray) (x : SW) => if x.f0 = (k : Int) then x.f1 else s) (d.f0.getD k ByteArray.empty)
def standsTo (d : SD) (k j : Nat) : ByteArray := (d.f1.take j).foldl (fun (s : ByteArray) (x : SW) => if x.f0 = (k : Int) then x.f1 else s) (d.f0.getD k ByteArray.empty)
theorem standsTo_succ (d : SD) (k j : Nat) (h : j < d.f1.length) : standsTo d k (j + 1) = if (d.f1.getD j z36).f0 = (k : Int) then (d.f1.getD j z36).f1 else standsTo d k j := by
  unfold standsTo
  rw [List.take_succ_eq_append_getElem h, List.foldl_append]
  simp [List.getD_eq_getElem?_getD, List.getElem?_eq_getElem h]
set_option maxHeartbeats 2000000 in
set_option maxRecDepth 100000 in
theorem disk_Load_bad (A0 : Option Addr) (c0 : Nat) (A1 : Option Addr) (c1 : Nat) (d : SD) (at_ : Int) (w : World) (h0 : Kd.string.C w A0 d.f0.length d.f0) (l0 : d.f0.length ≤ c0) (h1 : Kd.C k36 w A1 d.f1.length d.f1) (l1 : d.f1.length ≤ c1) (hbad : rightD d = false ∨ at_ < 0 ∨ (d.f0.length : Int) ≤ at_) :
    Calls Try.prog 12 #[.agg #[.slice A0 d.f0.length c0, .slice A1 d.f1.length c1], .int .i64 at_] w fun e w' => e = .returned (.tuple #[.string ⟨#[]⟩, .int .i64 1]) ∧ Below w.heap.size w w' := by
  have m0 := Kd.C_max h0
  go_enter Try.func12, Try.ntmps12
  go_wp2_with fail
  refine (disk_Right A0 c0 A1 c1 d _ (Kd.C_alloc h0 _) l0 (Kd.C_alloc h1 _) l1).mono ?_
  rintro e w1 ⟨rfl, b1⟩
  have b1' := below_then (below_alloc (Below.refl _ w) _) (by simp) b1
  have hc := pw_cell_below b1 (World.cell?_alloc_new w #[.slice A0 d.f0.length c0, .slice A1 d.f1.length c1] 25 0)
  by_cases hR : rightD d = true
  · rw [hR]
    rcases hbad with hb | hb | hb
    · rw [hb] at hR; cases hR
    · clear hR
      go_wp2
      go_ret2
      exact ⟨rfl, b1'⟩
    · have hz : 0 ≤ at_ := by omega
      clear hR
      go_wp2
      go_ret2
      exact ⟨rfl, b1'⟩
  · rw [Bool.eq_false_iff.mpr hR]
    clear hR hbad
    go_wp2
    go_ret2
    exact ⟨rfl, b1'⟩
set_option maxHeartbeats 2000000 in
set_option maxRecDepth 100000 in
theorem disk_Load (A0 : Option Addr) (c0 : Nat) (A1 : Option Addr) (c1 : Nat) (d : SD) (k : Nat) (w : World) (h0 : Kd.string.C w A0 d.f0.length d.f0) (l0 : d.f0.length ≤ c0) (h1 : Kd.C k36 w A1 d.f1.length d.f1) (l1 : d.f1.length ≤ c1) (hR : rightD d = true) (hk : k < d.f0.length) :
    Calls Try.prog 12 #[.agg #[.slice A0 d.f0.length c0, .slice A1 d.f1.length c1], .int .i64 k] w fun e w' => e = .returned (.tuple #[.string (standsD d k), .int .i64 0]) ∧ Below w.heap.size w w' := by
  have m0 := Kd.C_max h0
  have m1 := Kd.C_max h1
  go_enter Try.func12, Try.ntmps12
  go_wp2_with fail
  refine (disk_Right A0 c0 A1 c1 d _ (Kd.C_alloc h0 _) l0 (Kd.C_alloc h1 _) l1).mono ?_
  rintro e w1 ⟨rfl, b1⟩
  rw [hR]
  clear hR
  have b1' := below_then (below_alloc (Below.refl _ w) _) (by simp) b1
  have hc0 := pw_cell_below b1 (World.cell?_alloc_new w #[.slice A0 d.f0.length c0, .slice A1 d.f1.length c1] 25 0)
  have hc1 := pw_cell_below b1 (World.cell?_alloc_new w #[.slice A0 d.f0.length c0, .slice A1 d.f1.length c1] 25 1)
  have g0 := Kd.C_below h0 b1'
  have h1' := h1
  clear h0 h1 b1
  obtain ⟨ad, rfl, hx⟩ := Kd.at_string g0 (k : Int) (by omega) (by omega)
  rw [Int.toNat_natCast] at hx
  have hx' : rdOf ByteArray.empty d.f0 (k : Int) = d.f0.getD k ByteArray.empty := by rw [rdOf, Int.toNat_natCast]
  rw [hx'] at hx
  clear hx'
  go_wp2
  go_loopw [6, 31] (fun v i wr => ∃ j : Nat, j ≤ d.f1.length ∧ i = .int .i64 j ∧ v = .string (standsTo d k j) ∧ Below w.heap.size w wr) (fun _ i _ => d.f1.length - (intOf i).toNat)
  case atStart => exact ⟨0, Nat.zero_le _, rfl, congrArg Value.string (getD_at d.f0 k ByteArray.empty hk).symm, b1'⟩
  case round =>
    obtain ⟨j, hj, rfl, rfl, hb⟩ := hrel
    by_cases hlt : j < d.f1.length
    · obtain ⟨bd, rfl, y1, y2⟩ := at_T36 (Kd.C_below h1' hb) (j : Int) (by omega) (by omega)
      rw [Int.toNat_natCast] at y1 y2
      have HS := hid (standsTo_succ d k j hlt)
      have hx : rd_T36 d.f1 (j : Int) = d.f1.getD j z36 := by rw [rd_T36, Int.toNat_natCast]
      rw [hx] at y1 y2
      clear hx
      generalize d.f1.getD j z36 = x at *
      have hz := hb.size
      by_cases he : x.f0 = (k : Int)
      · have h2 : (x.f0 == (k : Int)) = true := beq_iff_eq.2 he
        have HS2 := hid (HS.out.trans (if_pos he))
        clear he HS
        go_wp2
        go_roundw
        case rel => exact ⟨j + 1, by omega, by go_num, by rw [HS2.out], hb.alloc hz _⟩
        case measure => simp [intOf]; omega
      · have h2 : (x.f0 == (k : Int)) = false := beq_eq_false_iff_ne.2 he
        have HS2 := hid (HS.out.trans (if_neg he))
        clear he HS
        go_wp2
        go_roundw
        case rel => exact ⟨j + 1, by omega, by go_num, by rw [HS2.out], hb.alloc hz _⟩
        case measure => simp [intOf]; omega
    · obtain rfl : j = d.f1.length := by omega
      have hE := hid (show standsTo d k d.f1.length = standsD d k by rw [standsTo, List.take_length]; rfl)
      go_wp2
      go_ret2
      exact ⟨by rw [← hE.out]; rfl, hb⟩
end Go.Proofs.Ytdcokepmblcdmaa
