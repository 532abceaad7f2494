/- Plain laws of disks. -/
import Derived.Test.YtdcokepmblcdmaaBase
import Derived.Test.YtdcokepmblcdmaaShelf
import Derived.Test.YtdcokepmblcdmaaOct
import Derived.Test.YtdcokepmblcdmaaV
import Derived.Test.YtdcokepmblcdmaaKDisk
import Derived.Test.YtdcokepmblcdmaaAny
import Derived.Test.YtdcokepmblcdmaaCDWell
import Derived.Test.YtdcokepmblcdmaaCDRight
import Derived.Test.YtdcokepmblcdmaaDSave
import Derived.Test.YtdcokepmblcdmaaCDEnds
import Derived.Test.YtdcokepmblcdmaaDNew
import Derived.Test.YtdcokepmblcdmaaDLike
import Derived.Test.YtdcokepmblcdmaaDFlush
import Derived.Below
import Derived.Deep.Draws
import Derived.OwnWalk
import Derived.Laws.BytesArg
import Derived.Laws.MakeOwn
import Derived.Laws.OwnMore
import Derived.Deep.OwnRows
import Derived.Tactics
import Derived.Lib.ConvBytes
import Derived.Laws.Slices
import Derived.WalkKit
import Derived.KernelRfl
import Derived.RowKit3
import Derived.Deep.LoopGhost
import Derived.Deep.QuietTactic
import Derived.BigQuiet
import Derived.WideLaws
import Derived.Deep.DeepCutAuto
import Derived.Deep.CutBlock
import Derived.Deep.RegionHeld3
import Derived.Laws.Rows
import Derived.Lib.AppendStr
import Derived.ArgAppend
import Derived.Laws.BitsLemmas
import Derived.RowKit
namespace Go.Proofs.Ytdcokepmblcdmaa
open Go.RowKit Go.Proofs.YtdcokepmblcdmaaW.PrintWords Go.Proofs.YtdcokepmblcdmaaW.PrintLast Go.Proofs.YtdcokepmblcdmaaW.PrintMore
attribute [local go_sem] max2_int min2_int max_two min_two max_three min_three max_four min_four
set_option linter.unusedVariables false
set_option linter.unusedSimpArgs false
theorem rightD_mk {d : SD} (h1 : 4 ≤ d.f0.length) (h2 : d.f0.length ≤ 64) (h3 : d.f1.length ≤ 200) (h4 : ∀ s ∈ d.f0, s.size = 128) (h5 : wellW d.f0.length d.f1 = true) : rightD d = true := by
  simp only [rightD, Bool.and_eq_true, decide_eq_true_eq, Bool.not_eq_true', List.any_eq_false]
  refine ⟨h1, h2, h3, fun s hs => ?_, h5⟩
  have := h4 s hs
  simp [badS, this]
theorem wellW_mk {n : Int} {l : List SW} (h : ∀ x ∈ l, 0 ≤ x.f0 ∧ x.f0 < n ∧ x.f1.size = 128) : wellW n l = true := by
  simp only [wellW, Bool.not_eq_true', List.any_eq_false]
  intro x hx
  obtain ⟨h1, h2, h3⟩ := h x hx
  simp [badW]
  omega
theorem wellW_at {n : Int} {l : List SW} (h : wellW n l = true) {x : SW} (hx : x ∈ l) : 0 ≤ x.f0 ∧ x.f0 < n ∧ x.f1.size = 128 := by
  simp only [wellW, Bool.not_eq_true', List.any_eq_false] at h
  have := h x hx
  simp [badW] at this
  omega
theorem wellW_append {n : Int} {l m : List SW} (h1 : wellW n l = true) (h2 : wellW n m = true) : wellW n (l ++ m) = true :=
  wellW_mk fun x hx => by
    rcases List.mem_append.1 hx with h | h
    · exact wellW_at h1 h
    · exact wellW_at h2 h
theorem rightD_parts {d : SD} (h : rightD d = true) : 4 ≤ d.f0.length ∧ d.f0.length ≤ 64 ∧ d.f1.length ≤ 200 ∧ (∀ s ∈ d.f0, s.size = 128) ∧ wellW d.f0.length d.f1 = true := by
  simp only [rightD, Bool.and_eq_true, decide_eq_true_eq, Bool.not_eq_true', List.any_eq_false] at h
  obtain ⟨h1, h2, h3, h4, h5⟩ := h
  refine ⟨h1, h2, h3, fun s hs => ?_, h5⟩
  have := h4 s hs
  simp [badS] at this
  omega
theorem saveD_ok {d : SD} {l : List SW} (h : rightD d = true) (hw : wellW d.f0.length l = true) (hn : d.f1.length + l.length ≤ 200) : saveD d l = (⟨d.f0, d.f1 ++ l⟩, 0) := by
  unfold saveD; rw [if_pos ⟨h, hw⟩, if_pos hn]
theorem rightD_save {d : SD} {l : List SW} (h : rightD d = true) (hw : wellW d.f0.length l = true) (hn : d.f1.length + l.length ≤ 200) : rightD ⟨d.f0, d.f1 ++ l⟩ = true := by
  obtain ⟨h1, h2, h3, h4, h5⟩ := rightD_parts h
  exact rightD_mk h1 h2 (by simpa using hn) h4 (wellW_append h5 hw)
theorem flushD_ok {d : SD} (h : rightD d = true) : flushD d = (⟨endsTo (fun _ => 1) d.f0 d.f1 d.f1.length, []⟩, 0) := by unfold flushD; rw [if_pos h]
theorem crashD_ok {d : SD} (l : List Int) (h : rightD d = true) : crashD d l = (⟨endsTo (fun i => l.getD i 0) d.f0 d.f1 d.f1.length, []⟩, 0) := by unfold crashD; rw [if_pos h]
theorem rightD_ends {d : SD} (ft : Nat → Int) (h : rightD d = true) : rightD ⟨endsTo ft d.f0 d.f1 d.f1.length, []⟩ = true := by
  obtain ⟨r1, r2, r3, r4, r5⟩ := rightD_open h
  have hl := endsTo_len ft d.f0 d.f1 d.f1.length
  have hs := endsTo_128 ft r1 r2 d.f1.length (Nat.le_refl _)
  refine rightD_mk (by simp only [hl]; exact r3) (by simp only [hl]; exact r4) (by simp) (fun s hs' => ?_) (wellW_mk (by simp))
  obtain ⟨j, hj, rfl⟩ := List.mem_iff_getElem.1 hs'
  exact hs j hj
theorem endsTo_nil (ft : Nat → Int) (s : List ByteArray) : endsTo ft s [] ([] : List SW).length = s := rfl
/-- What becomes of one sector. -/
def secTo (ft : Nat → Int) (t : List SW) (j : Nat) (b : ByteArray) : Nat → ByteArray
  | 0 => b
  | k + 1 => let s := secTo ft t j b k; let x := t.getD k z36
    if x.f0 = (j : Int) then (if ft k = 2 then x.f1.extract 0 64 ++ s.extract 64 128 else if ft k = 1 then x.f1 else s) else s
theorem endsTo_at (ft : Nat → Int) {s : List ByteArray} {t : List SW} (ht : W128 s.length t) {j : Nat} (hj : j < s.length) (k : Nat) (hk : k ≤ t.length) : (endsTo ft s t k).getD j ByteArray.empty = secTo ft t j (s.getD j ByteArray.empty) k := by
  induction k with
  | zero => rfl
  | succ k ih =>
    have ih := ih (by omega)
    obtain ⟨p1, p2, p3⟩ := ht k (by omega)
    have hl := endsTo_len ft s t k
    rw [endsTo, secTo]
    rw [← ih]
    generalize endsTo ft s t k = l at *
    generalize t.getD k z36 = x at *
    obtain ⟨q, hq⟩ := Int.eq_ofNat_of_zero_le p1
    unfold stepE
    rw [hq, Int.toNat_natCast]
    by_cases he : (q : Int) = (j : Int)
    · obtain rfl : q = j := by omega
      rw [if_pos rfl]
      split
      · simp [List.getD_eq_getElem?_getD, hl, hj]
      · split
        · simp [List.getD_eq_getElem?_getD, hl, hj]
        · rfl
    · have hne : q ≠ j := by omega
      rw [if_neg he]
      split
      · simp [List.getD_eq_getElem?_getD, hne]
      · split
        · simp [List.getD_eq_getElem?_getD, hne]
        · rfl
def D4 : SD := ⟨List.replicate 4 (sect 0), []⟩
theorem rightD_D4 : rightD D4 = true := rightD_mk (by simp [D4]) (by simp [D4]) (by simp [D4]) (fun s hs => by
  rw [(List.mem_replicate.1 (show s ∈ List.replicate 4 (sect 0) from hs)).2]; exact sect_size 0) (wellW_mk (by simp [D4]))
def x120 : SW := ⟨1, sect 120⟩
theorem well_x120 : wellW D4.f0.length [x120] = true := wellW_mk fun x hx => by
  obtain rfl : x = x120 := by simpa using hx
  exact ⟨by decide, by decide, sect_size 120⟩
theorem save_D4 : saveD D4 [x120] = (⟨D4.f0, [x120]⟩, 0) := saveD_ok rightD_D4 well_x120 (by decide)
theorem rightD_D4x : rightD ⟨D4.f0, [x120]⟩ = true := rightD_save (l := [x120]) rightD_D4 well_x120 (by decide)
theorem crash_D4 : crashD ⟨D4.f0, [x120]⟩ [2] = (⟨D4.f0.set 1 ((sect 120).extract 0 64 ++ (sect 0).extract 64 128), []⟩, 0) := by
  rw [crashD_ok _ rightD_D4x]
  rfl
theorem right_crash_D4 : rightD ⟨D4.f0.set 1 ((sect 120).extract 0 64 ++ (sect 0).extract 64 128), []⟩ = true := by
  have h1 := rightD_ends (fun i => [2].getD i 0) rightD_D4x
  have h2 := crash_D4
  rw [crashD_ok _ rightD_D4x] at h2
  rw [(Prod.mk.inj h2).1] at h1
  exact h1
end Go.Proofs.Ytdcokepmblcdmaa
