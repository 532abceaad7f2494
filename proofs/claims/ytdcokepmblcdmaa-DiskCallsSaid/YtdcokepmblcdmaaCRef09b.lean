/- ref09: Right, Stands. -/
import Derived.Test.YtdcokepmblcdmaaBase
import Derived.Test.YtdcokepmblcdmaaShelf
import Derived.Test.YtdcokepmblcdmaaOct
import Derived.Test.YtdcokepmblcdmaaKDisk
import Derived.Test.YtdcokepmblcdmaaAny
import Derived.Test.YtdcokepmblcdmaaCDWell
import Derived.Test.YtdcokepmblcdmaaCDRight
import Derived.Test.YtdcokepmblcdmaaDSave
import Derived.Test.YtdcokepmblcdmaaCRef09a
import Derived.Below
import Derived.Deep.Draws
import Derived.OwnWalk
import Derived.Laws.BytesArg
import Derived.Laws.MakeOwn
import Derived.Laws.OwnMore
import Derived.Deep.OwnRows
import Derived.Tactics
import Derived.Lib.ConvBytes
import Derived.Laws.Slices
import Derived.WalkKit
import Derived.KernelRfl
import Derived.RowKit3
import Derived.Deep.LoopGhost
import Derived.Deep.QuietTactic
import Derived.BigQuiet
import Derived.WideLaws
import Derived.Deep.DeepCutAuto
import Derived.Deep.CutBlock
import Derived.Deep.RegionHeld3
import Derived.Laws.Rows
import Derived.Lib.AppendStr
import Derived.ArgAppend
import Derived.Laws.BitsLemmas
import Derived.RowKit
namespace Go.Proofs.Ytdcokepmblcdmaa
open Go.RowKit Go.Proofs.YtdcokepmblcdmaaW.PrintWords Go.Proofs.YtdcokepmblcdmaaW.PrintLast Go.Proofs.YtdcokepmblcdmaaW.PrintMore
attribute [local go_sem] max2_int min2_int max_two min_two max_three min_three max_four min_four
set_option linter.unusedVariables false
set_option linter.unusedSimpArgs false
set_option maxHeartbeats 2000000 in
set_option maxRecDepth 100000 in
theorem ref_Stands (A0 : Option Addr) (c0 : Nat) (A1 : Option Addr) (c1 : Nat) (d : SD) (k : Nat) (w : World) (h0 : Kd.string.C w A0 d.f0.length d.f0) (l0 : d.f0.length ≤ c0) (h1 : Kd.C k36 w A1 d.f1.length d.f1) (l1 : d.f1.length ≤ c1) (hk : k < d.f0.length) :
    Calls Try.prog 18 #[.agg #[.slice A0 d.f0.length c0, .slice A1 d.f1.length c1], .int .i64 k] w fun e w' => e = .returned (.string (standsD d k)) ∧ Below w.heap.size w w' := by
  have m0 := Kd.C_max h0
  have m1 := Kd.C_max h1
  obtain ⟨ad, rfl, hx⟩ := Kd.at_string (Kd.C_alloc h0 (.cells #[.slice A0 d.f0.length c0, .slice A1 d.f1.length c1] 25)) (k : Int) (by omega) (by omega)
  rw [Int.toNat_natCast] at hx
  have hx' : rdOf ByteArray.empty d.f0 (k : Int) = d.f0.getD k ByteArray.empty := by rw [rdOf, Int.toNat_natCast]
  rw [hx'] at hx
  clear hx'
  go_enter Try.func18, Try.ntmps18
  go_wp2_with fail
  go_loopw [5, 16] (fun v i wr => ∃ j : Nat, j ≤ d.f1.length ∧ i = .int .i64 j ∧ v = .string (standsTo d k j) ∧ Below w.heap.size w wr) (fun _ i _ => d.f1.length - (intOf i).toNat)
  case atStart => exact ⟨0, Nat.zero_le _, rfl, congrArg Value.string (getD_at d.f0 k ByteArray.empty hk).symm, (Below.refl _ w).alloc (Nat.le_refl _) _⟩
  case round =>
    obtain ⟨j, hj, rfl, rfl, hb⟩ := hrel
    by_cases hlt : j < d.f1.length
    · obtain ⟨bd, rfl, y1, y2⟩ := at_T36 (Kd.C_below h1 hb) (j : Int) (by omega) (by omega)
      rw [Int.toNat_natCast] at y1 y2
      have HS := hid (standsTo_succ d k j hlt)
      have hx : rd_T36 d.f1 (j : Int) = d.f1.getD j z36 := by rw [rd_T36, Int.toNat_natCast]
      rw [hx] at y1 y2
      clear hx
      generalize d.f1.getD j z36 = x at *
      have hz := hb.size
      by_cases he : x.f0 = (k : Int)
      · have h2 : (x.f0 == (k : Int)) = true := beq_iff_eq.2 he
        have HS2 := hid (HS.out.trans (if_pos he))
        clear he HS
        go_wp2
        go_roundw
        case rel => exact ⟨j + 1, by omega, by go_num, by rw [HS2.out], hb.alloc hz _⟩
        case measure => simp [intOf]; omega
      · have h2 : (x.f0 == (k : Int)) = false := beq_eq_false_iff_ne.2 he
        have HS2 := hid (HS.out.trans (if_neg he))
        clear he HS
        go_wp2
        go_roundw
        case rel => exact ⟨j + 1, by omega, by go_num, by rw [HS2.out], hb.alloc hz _⟩
        case measure => simp [intOf]; omega
    · obtain rfl : j = d.f1.length := by omega
      have hE := hid (show standsTo d k d.f1.length = standsD d k by rw [standsTo, List.take_length]; rfl)
      go_wp2
      go_ret
      exact ⟨by rw [← hE.out]; rfl, hb⟩
set_option maxHeartbeats 2000000 in
set_option maxRecDepth 100000 in
theorem ref_Right (A0 : Option Addr) (c0 : Nat) (A1 : Option Addr) (c1 : Nat) (d : SD) (w : World) (h0 : Kd.string.C w A0 d.f0.length d.f0) (l0 : d.f0.length ≤ c0) (h1 : Kd.C k36 w A1 d.f1.length d.f1) (l1 : d.f1.length ≤ c1) :
    Calls Try.prog 8 #[.agg #[.slice A0 d.f0.length c0, .slice A1 d.f1.length c1]] w fun e w' => e = .returned (.bool (rightD d)) ∧ Below w.heap.size w w' := by
  have m0 := Kd.C_max h0
  have m1 := Kd.C_max h1
  obtain ⟨r, hr0⟩ : ∃ r, r = rightD d := ⟨_, rfl⟩
  rw [← hr0]
  have hr : Hid (r = rightD d) := hr0
  clear hr0
  go_enter Try.func8, Try.ntmps8
  go_wp2_with fail
  have hc0 := World.cell?_alloc_new w #[.slice A0 d.f0.length c0, .slice A1 d.f1.length c1] 25 0
  have hc1 := World.cell?_alloc_new w #[.slice A0 d.f0.length c0, .slice A1 d.f1.length c1] 25 1
  have b0 : Below w.heap.size w (w.alloc (.cells #[.slice A0 d.f0.length c0, .slice A1 d.f1.length c1] 25)) := (Below.refl _ w).alloc (Nat.le_refl _) _
  go_loopw [8] (fun i wr => ∃ k : Nat, k ≤ d.f0.length ∧ i = .int .i64 k ∧ Hid ((d.f0.take k).any badS = false) ∧ wr = w.alloc (.cells #[.slice A0 d.f0.length c0, .slice A1 d.f1.length c1] 25)) (fun i _ => d.f0.length - (intOf i).toNat)
  case atStart => exact ⟨0, Nat.zero_le _, rfl, rfl, rfl⟩
  case round =>
    obtain ⟨k, hk, rfl, hN, rfl⟩ := hrel
    by_cases hlt : k < d.f0.length
    · have HS := hid (anyTo_succ badS d.f0 ByteArray.empty k hlt)
      obtain ⟨ad, rfl, hx⟩ := Kd.at_string (Kd.C_below h0 b0) (k : Int) (by omega) (by omega)
      rw [Int.toNat_natCast] at hx
      have hx' : rdOf ByteArray.empty d.f0 (k : Int) = d.f0.getD k ByteArray.empty := by rw [rdOf, Int.toNat_natCast]
      rw [hx'] at hx
      clear hx'
      generalize d.f0.getD k ByteArray.empty = x at *
      by_cases hB : badS x = true
      · have hR : r = false := by
          rw [hr.out]
          have := any_of_take (k := k + 1) (l := d.f0) (p := badS) (by rw [HS.out, hB, Bool.or_true])
          simp [rightD, this]
        subst hR
        have h2 : ¬ x.size = 128 := by simp [badS] at hB; omega
        clear HS hB hN hr
        go_wp2
        go_ret
        exact ⟨rfl, b0⟩
      · have h2 : x.size = 128 := by simp [badS] at hB; omega
        have hE := hid (show (d.f0.take (k + 1)).any badS = false by rw [HS.out, hN.out, Bool.eq_false_iff.mpr hB]; rfl)
        clear HS hB hN hr
        go_wp2
        go_roundw
        case rel => exact ⟨k + 1, by omega, by go_num, hE, trivial⟩
        case measure => simp [intOf]; omega
    · obtain rfl : k = d.f0.length := by omega
      have hA : d.f0.any badS = false := by have := hN.out; rwa [List.take_length] at this
      by_cases q1 : 4 ≤ d.f0.length
      · by_cases q2 : d.f0.length ≤ 64
        · by_cases q3 : d.f1.length ≤ 200
          · have hR := hid (show r = wellW d.f0.length d.f1 by rw [hr.out]; simp [rightD, q1, q2, q3, hA])
            clear hA hN hr
            go_wp2_with fail
            refine (ref_Well A1 c1 d.f1 d.f0.length _ (Kd.C_below h1 b0) l1).mono ?_
            rintro e w2 ⟨rfl, b2⟩
            rw [← hR.out]
            have b3 := below_step b0 b2
            go_wp2
            go_ret
            exact ⟨rfl, b3⟩
          · have hR : r = false := by rw [hr.out]; simp [rightD, q3]
            subst hR
            clear hA hN hr
            go_wp2
            go_ret
            exact ⟨rfl, b0⟩
        · have hR : r = false := by rw [hr.out]; simp [rightD, q2]
          subst hR
          clear hA hN hr
          go_wp2
          go_ret
          exact ⟨rfl, b0⟩
      · have hR : r = false := by rw [hr.out]; simp [rightD, q1]
        subst hR
        clear hA hN hr
        go_wp2
        go_ret
        exact ⟨rfl, b0⟩
end Go.Proofs.Ytdcokepmblcdmaa
