/- ref09: Well, Right. -/
import Derived.Test.YtdcokepmblcdmaaBase
import Derived.Test.YtdcokepmblcdmaaShelf
import Derived.Test.YtdcokepmblcdmaaOct
import Derived.Test.YtdcokepmblcdmaaKDisk
import Derived.Test.YtdcokepmblcdmaaAny
import Derived.Test.YtdcokepmblcdmaaCDWell
import Derived.Test.YtdcokepmblcdmaaCDRight
import Derived.Test.YtdcokepmblcdmaaDSave
import Derived.Below
import Derived.Deep.Draws
import Derived.OwnWalk
import Derived.Laws.BytesArg
import Derived.Laws.MakeOwn
import Derived.Laws.OwnMore
import Derived.Deep.OwnRows
import Derived.Tactics
import Derived.Lib.ConvBytes
import Derived.Laws.Slices
import Derived.WalkKit
import Derived.KernelRfl
import Derived.RowKit3
import Derived.Deep.LoopGhost
import Derived.Deep.QuietTactic
import Derived.BigQuiet
import Derived.WideLaws
import Derived.Deep.DeepCutAuto
import Derived.Deep.CutBlock
import Derived.Deep.RegionHeld3
import Derived.Laws.Rows
import Derived.Lib.AppendStr
import Derived.ArgAppend
import Derived.Laws.BitsLemmas
import Derived.RowKit
namespace Go.Proofs.Ytdcokepmblcdmaa
open Go.RowKit Go.Proofs.YtdcokepmblcdmaaW.PrintWords Go.Proofs.YtdcokepmblcdmaaW.PrintLast Go.Proofs.YtdcokepmblcdmaaW.PrintMore
attribute [local go_sem] max2_int min2_int max_two min_two max_three min_three max_four min_four
set_option linter.unusedVariables false
set_option linter.unusedSimpArgs false
set_option maxHeartbeats 2000000 in
set_option maxRecDepth 100000 in
theorem ref_Well (A : Option Addr) (c : Nat) (l : List SW) (n : Int) (w : World) (ha : Kd.C k36 w A l.length l) (hc : l.length ≤ c) :
    Calls Try.prog 20 #[.slice A l.length c, .int .i64 n] w fun e w' => e = .returned (.bool (wellW n l)) ∧ Below w.heap.size w w' := by
  have m := Kd.C_max ha
  obtain ⟨r, hr0⟩ : ∃ r, r = wellW n l := ⟨_, rfl⟩
  rw [← hr0]
  have hr : Hid (r = wellW n l) := hr0
  clear hr0
  go_enter Try.func20, Try.ntmps20
  go_wp2_with fail
  go_loopw [9] (fun i wr => ∃ k : Nat, k ≤ l.length ∧ i = .int .i64 k ∧ Hid ((l.take k).any (badW n) = false) ∧ Below w.heap.size w wr) (fun i _ => l.length - (intOf i).toNat)
  case atStart => exact ⟨0, Nat.zero_le _, rfl, rfl, Below.refl _ _⟩
  case round =>
    obtain ⟨k, hk, rfl, hN, hb⟩ := hrel
    by_cases hlt : k < l.length
    · have HS := hid (anyTo_succ (badW n) l z36 k hlt)
      obtain ⟨ad, rfl, y1, y2⟩ := at_T36 (Kd.C_below ha hb) (k : Int) (by omega) (by omega)
      rw [Int.toNat_natCast] at y1 y2
      have hx : rd_T36 l (k : Int) = l.getD k z36 := by rw [rd_T36, Int.toNat_natCast]
      rw [hx] at y1 y2
      clear hx
      generalize l.getD k z36 = x at *
      have hz := hb.size
      by_cases hB : badW n x = true
      · have hR : r = false := by
          rw [hr.out, wellW, any_of_take (k := k + 1) (by rw [HS.out, hB, Bool.or_true])]; rfl
        subst hR
        have hB3 : x.f0 < 0 ∨ n ≤ x.f0 ∨ ¬ x.f1.size = 128 := by
          simp [badW] at hB; omega
        clear HS hB hN hr
        by_cases h0 : x.f0 < 0
        · go_wp2
          go_ret
          exact ⟨rfl, hb.alloc hz _⟩
        · by_cases h1 : n ≤ x.f0
          · clear hB3
            go_wp2
            go_ret
            exact ⟨rfl, hb.alloc hz _⟩
          · have h2 : ¬ x.f1.size = 128 := by omega
            clear hB3
            go_wp2
            go_ret
            exact ⟨rfl, hb.alloc hz _⟩
      · have hB2 : 0 ≤ x.f0 ∧ x.f0 < n ∧ x.f1.size = 128 := by
          simp [badW] at hB; omega
        have hE := hid (show (l.take (k + 1)).any (badW n) = false by rw [HS.out, hN.out, Bool.eq_false_iff.mpr hB]; rfl)
        obtain ⟨b1, b2, b3⟩ := hB2
        clear HS hB hN hr
        go_wp2
        go_roundw
        case rel => exact ⟨k + 1, by omega, by go_num, hE, hb.alloc hz _⟩
        case measure => simp [intOf]; omega
    · obtain rfl : k = l.length := by omega
      have hR : r = true := by
        have := hN.out
        rw [List.take_length] at this
        rw [hr.out, wellW, this]; rfl
      subst hR
      clear hN hr
      go_wp2
      go_ret
      exact ⟨rfl, hb⟩
end Go.Proofs.Ytdcokepmblcdmaa
