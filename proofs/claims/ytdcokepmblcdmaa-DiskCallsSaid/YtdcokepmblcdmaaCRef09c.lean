/- ref09: Left, Like; law09 sector. -/
import Derived.Test.YtdcokepmblcdmaaBase
import Derived.Test.YtdcokepmblcdmaaShelf
import Derived.Test.YtdcokepmblcdmaaOct
import Derived.Test.YtdcokepmblcdmaaKDisk
import Derived.Test.YtdcokepmblcdmaaAny
import Derived.Test.YtdcokepmblcdmaaCDWell
import Derived.Test.YtdcokepmblcdmaaCDRight
import Derived.Test.YtdcokepmblcdmaaDSave
import Derived.Test.YtdcokepmblcdmaaCDEnds
import Derived.Below
import Derived.Deep.Draws
import Derived.OwnWalk
import Derived.Laws.BytesArg
import Derived.Laws.MakeOwn
import Derived.Laws.OwnMore
import Derived.Deep.OwnRows
import Derived.Tactics
import Derived.Lib.ConvBytes
import Derived.Laws.Slices
import Derived.WalkKit
import Derived.KernelRfl
import Derived.RowKit3
import Derived.Deep.LoopGhost
import Derived.Deep.QuietTactic
import Derived.BigQuiet
import Derived.WideLaws
import Derived.Deep.DeepCutAuto
import Derived.Deep.CutBlock
import Derived.Deep.RegionHeld3
import Derived.Laws.Rows
import Derived.Lib.AppendStr
import Derived.ArgAppend
import Derived.Laws.BitsLemmas
import Derived.RowKit
namespace Go.Proofs.Ytdcokepmblcdmaa
open Go.RowKit Go.Proofs.YtdcokepmblcdmaaW.PrintWords Go.Proofs.YtdcokepmblcdmaaW.PrintLast Go.Proofs.YtdcokepmblcdmaaW.PrintMore
attribute [local go_sem] max2_int min2_int max_two min_two max_three min_three max_four min_four
set_option linter.unusedVariables false
set_option linter.unusedSimpArgs false
/-- A sector behind a crash, by definition. -/
def leftStep (k : Nat) (f : Option Int) (x : SW) (s : ByteArray) : ByteArray :=
  if x.f0 = (k : Int) then (if f = some 1 then x.f1 else if f = some 2 then x.f1.extract 0 64 ++ s.extract 64 128 else s) else s
def leftTo (d : SD) (k : Nat) (l : List Int) : Nat → ByteArray
  | 0 => d.f0.getD k ByteArray.empty
  | j + 1 => leftStep k l[j]? (d.f1.getD j z36) (leftTo d k l j)
theorem leftTo_128 {d : SD} (hs : S128 d.f0) (ht : W128 d.f0.length d.f1) {k : Nat} (hk : k < d.f0.length) (l : List Int) (j : Nat) (hj : j ≤ d.f1.length) : (leftTo d k l j).size = 128 := by
  induction j with
  | zero => exact S128_at hs hk
  | succ j ih =>
    have h1 := ih (by omega)
    obtain ⟨_, _, p3⟩ := ht j (by omega)
    rw [leftTo, leftStep]
    split
    · split
      · exact p3
      · split
        · rw [ByteArray.size_append, ByteArray.size_extract, ByteArray.size_extract]; omega
        · exact h1
    · exact h1
set_option maxHeartbeats 2000000 in
set_option maxRecDepth 100000 in
theorem ref_Left (A0 : Option Addr) (c0 : Nat) (A1 : Option Addr) (c1 : Nat) (d : SD) (k : Nat) (A : Option Addr) (c : Nat) (l : List Int) (w : World) (h0 : Kd.string.C w A0 d.f0.length d.f0) (l0 : d.f0.length ≤ c0) (h1 : Kd.C k36 w A1 d.f1.length d.f1) (l1 : d.f1.length ≤ c1) (hA : (Kd.int .i64).C w A l.length l) (hc : l.length ≤ c) (hk : k < d.f0.length)
    (hs : S128 d.f0) (ht : W128 d.f0.length d.f1) :
    Calls Try.prog 19 #[.agg #[.slice A0 d.f0.length c0, .slice A1 d.f1.length c1], .int .i64 k, .slice A l.length c] w fun e w' => e = .returned (.string (leftTo d k l d.f1.length)) ∧ Below w.heap.size w w' := by
  have m0 := Kd.C_max h0
  have m1 := Kd.C_max h1
  have m2 := Kd.C_max hA
  obtain ⟨ad, rfl, hx⟩ := Kd.at_string (Kd.C_alloc h0 (.cells #[.slice A0 d.f0.length c0, .slice A1 d.f1.length c1] 25)) (k : Int) (by omega) (by omega)
  rw [Int.toNat_natCast] at hx
  have hx' : rdOf ByteArray.empty d.f0 (k : Int) = d.f0.getD k ByteArray.empty := by rw [rdOf, Int.toNat_natCast]
  rw [hx'] at hx
  clear hx'
  go_enter Try.func19, Try.ntmps19
  go_wp2_with fail
  have b0 : Below w.heap.size w (w.alloc (.cells #[.slice (some ad) d.f0.length c0, .slice A1 d.f1.length c1] 25)) := (Below.refl _ w).alloc (Nat.le_refl _) _
  go_loopw [7, 18] (fun v i wr => ∃ j : Nat, j ≤ d.f1.length ∧ i = .int .i64 j ∧ v = .string (leftTo d k l j) ∧ Below w.heap.size w wr) (fun _ i _ => d.f1.length - (intOf i).toNat)
  case atStart => exact ⟨0, Nat.zero_le _, rfl, congrArg Value.string (getD_at d.f0 k ByteArray.empty hk).symm, b0⟩
  case round =>
    obtain ⟨j, hj, rfl, rfl, hb⟩ := hrel
    by_cases hlt : j < d.f1.length
    · obtain ⟨bd, rfl, y1, y2⟩ := at_T36 (Kd.C_below h1 hb) (j : Int) (by omega) (by omega)
      rw [Int.toNat_natCast] at y1 y2
      have HS : Hid (leftTo d k l (j + 1) = leftStep k l[j]? (d.f1.getD j z36) (leftTo d k l j)) := hid rfl
      have hx : rd_T36 d.f1 (j : Int) = d.f1.getD j z36 := by rw [rd_T36, Int.toNat_natCast]
      obtain ⟨p1, p2, p3⟩ := ht j hlt
      rw [hx] at y1 y2
      clear hx
      have h128 := leftTo_128 hs ht hk l j hj
      generalize d.f1.getD j z36 = x at *
      generalize leftTo d k l j = s at *
      have hz := hb.size
      by_cases he : x.f0 = (k : Int)
      · by_cases hjl : j < l.length
        · obtain ⟨fd, rfl, hf⟩ := Kd.at_int (Kd.C_alloc (Kd.C_below hA hb) (.cells #[.int .i64 k, .string x.f1] 36)) (j : Int) (by omega) (by omega)
          rw [Int.toNat_natCast, rd, Int.toNat_natCast, List.getD_eq_getElem?_getD, List.getElem?_eq_getElem hjl, Option.getD_some] at hf
          have HS := HS.out
          rw [List.getElem?_eq_getElem hjl] at HS
          generalize l[j] = y at *
          have HS := hid HS
          by_cases hy1 : y = 1
          · subst hy1
            have HN := hid (show leftTo d k l (j + 1) = x.f1 by rw [HS.out, leftStep, if_pos he, if_pos rfl])
            clear HS
            go_wp2
            go_roundw
            case rel => exact ⟨j + 1, by omega, by go_num, by rw [HN.out], hb.alloc hz _⟩
            case measure => simp [intOf]; omega
          · by_cases hy2 : y = 2
            · subst hy2
              have HN := hid (show leftTo d k l (j + 1) = x.f1.extract 0 64 ++ s.extract 64 128 by rw [HS.out, leftStep, if_pos he, if_neg (by decide), if_pos rfl])
              clear HS
              go_wp2
              go_quiet (fail)
              go_wp2
              go_roundw
              case rel => exact ⟨j + 1, by omega, by go_num, by rw [HN.out], pw_below_drewN (hb.alloc hz _) _⟩
              case measure => simp [intOf]; omega
            · have HN := hid (show leftTo d k l (j + 1) = s by rw [HS.out, leftStep, if_pos he, if_neg (by simpa using hy1), if_neg (by simpa using hy2)])
              clear HS
              go_wp2
              go_roundw
              case rel => exact ⟨j + 1, by omega, by go_num, by rw [HN.out], hb.alloc hz _⟩
              case measure => simp [intOf]; omega
        · have HN := hid (show leftTo d k l (j + 1) = s by rw [HS.out, leftStep, if_pos he, List.getElem?_eq_none (by omega), if_neg (by simp), if_neg (by simp)])
          clear HS
          go_wp2
          go_roundw
          case rel => exact ⟨j + 1, by omega, by go_num, by rw [HN.out], hb.alloc hz _⟩
          case measure => simp [intOf]; omega
      · have HN := hid (show leftTo d k l (j + 1) = s by rw [HS.out, leftStep, if_neg he])
        clear HS
        go_wp2
        go_roundw
        case rel => exact ⟨j + 1, by omega, by go_num, by rw [HN.out], hb.alloc hz _⟩
        case measure => simp [intOf]; omega
    · obtain rfl : j = d.f1.length := by omega
      go_wp2
      go_ret
      exact ⟨rfl, hb⟩
end Go.Proofs.Ytdcokepmblcdmaa
