/- Plain laws for DiskLast. -/
import Derived.Test.YtdcokepmblcdmaaBase
import Derived.Test.YtdcokepmblcdmaaShelf
import Derived.Test.YtdcokepmblcdmaaOct
import Derived.Test.YtdcokepmblcdmaaV
import Derived.Test.YtdcokepmblcdmaaKDisk
import Derived.Test.YtdcokepmblcdmaaAny
import Derived.Test.YtdcokepmblcdmaaCDWell
import Derived.Test.YtdcokepmblcdmaaCDRight
import Derived.Test.YtdcokepmblcdmaaDSave
import Derived.Test.YtdcokepmblcdmaaCDEnds
import Derived.Test.YtdcokepmblcdmaaDNew
import Derived.Test.YtdcokepmblcdmaaDLike
import Derived.Test.YtdcokepmblcdmaaDFlush
import Derived.Test.YtdcokepmblcdmaaDMath
import Derived.Below
import Derived.Deep.Draws
import Derived.OwnWalk
import Derived.Laws.BytesArg
import Derived.Laws.MakeOwn
import Derived.Laws.OwnMore
import Derived.Deep.OwnRows
import Derived.Tactics
import Derived.Lib.ConvBytes
import Derived.Laws.Slices
import Derived.WalkKit
import Derived.KernelRfl
import Derived.RowKit3
import Derived.Deep.LoopGhost
import Derived.Deep.QuietTactic
import Derived.BigQuiet
import Derived.WideLaws
import Derived.Deep.DeepCutAuto
import Derived.Deep.CutBlock
import Derived.Deep.RegionHeld3
import Derived.Laws.Rows
import Derived.Lib.AppendStr
import Derived.ArgAppend
import Derived.Laws.BitsLemmas
import Derived.RowKit
namespace Go.Proofs.Ytdcokepmblcdmaa
open Go.RowKit Go.Proofs.YtdcokepmblcdmaaW.PrintWords Go.Proofs.YtdcokepmblcdmaaW.PrintLast Go.Proofs.YtdcokepmblcdmaaW.PrintMore
attribute [local go_sem] max2_int min2_int max_two min_two max_three min_three max_four min_four
set_option linter.unusedVariables false
set_option linter.unusedSimpArgs false
/-- Writes of bytes to one place. -/
def lastW (a : Int) (l : List Int) : List SW := l.map fun c => ⟨a, sect c⟩
def firstTo (fs l : List Int) (b : ByteArray) : Nat → ByteArray
  | 0 => b.extract 0 64
  | k + 1 => if fs.getD k 0 = 1 ∨ fs.getD k 0 = 2 then (sect (l.getD k 0)).extract 0 64 else firstTo fs l b k
def secondTo (fs l : List Int) (b : ByteArray) : Nat → ByteArray
  | 0 => b.extract 64 128
  | k + 1 => if fs.getD k 0 = 1 then (sect (l.getD k 0)).extract 64 128 else secondTo fs l b k
theorem ext64 {b : ByteArray} (h : b.size = 128) : (b.extract 0 64).size = 64 ∧ (b.extract 64 128).size = 64 := by
  rw [ByteArray.size_extract, ByteArray.size_extract]; omega
theorem firstTo_size (fs l : List Int) {b : ByteArray} (h : b.size = 128) (k : Nat) : (firstTo fs l b k).size = 64 := by
  induction k with
  | zero => exact (ext64 h).1
  | succ k ih => rw [firstTo]; split; exact (ext64 (sect_size _)).1; exact ih
theorem secondTo_size (fs l : List Int) {b : ByteArray} (h : b.size = 128) (k : Nat) : (secondTo fs l b k).size = 64 := by
  induction k with
  | zero => exact (ext64 h).2
  | succ k ih => rw [secondTo]; split; exact (ext64 (sect_size _)).2; exact ih
theorem halves {b : ByteArray} (h : b.size = 128) : b.extract 0 64 ++ b.extract 64 128 = b := by
  rw [ByteArray.extract_append_extract, Nat.min_eq_left (by omega), Nat.max_eq_right (by omega)]
  exact extract_128 h
theorem second_of {x y : ByteArray} (hx : x.size = 64) (hy : y.size = 64) : (x ++ y).extract 64 128 = y := by
  have h1 := ByteArray.extract_append_size_add (a := x) (b := y) (i := 0) (j := y.size)
  rw [Nat.add_zero, ByteArray.extract_zero_size] at h1
  rw [show (64 : Nat) = x.size by omega, show 128 = x.size + y.size by omega]
  exact h1
theorem secTo_last (fs l : List Int) (a : Nat) {b : ByteArray} (h : b.size = 128) (k : Nat) (hk : k ≤ l.length) : secTo (fun i => fs.getD i 0) (lastW a l) a b k = firstTo fs l b k ++ secondTo fs l b k := by
  induction k with
  | zero => exact (halves h).symm
  | succ k ih =>
    have ih := ih (by omega)
    have hx : (lastW a l).getD k z36 = ⟨a, sect (l.getD k 0)⟩ := by
      unfold lastW
      rw [List.getD_eq_getElem?_getD, List.getElem?_map, List.getD_eq_getElem?_getD, List.getElem?_eq_getElem (by omega)]
      rfl
    rw [secTo, hx, ih, if_pos rfl, firstTo, secondTo]
    by_cases h2 : fs.getD k 0 = 2
    · rw [if_pos h2, if_pos (.inr h2), if_neg (by omega), second_of (firstTo_size fs l h k) (secondTo_size fs l h k)]
    · by_cases h1 : fs.getD k 0 = 1
      · rw [if_neg h2, if_pos h1, if_pos (.inl h1), if_pos h1]
        exact (halves (sect_size _)).symm
      · rw [if_neg h2, if_neg h1, if_neg (by omega), if_neg h1]
theorem secTo_congr (ft : Nat → Int) {t t' : List SW} (j : Nat) (b : ByteArray) (k : Nat) (h : ∀ i, i < k → t.getD i z36 = t'.getD i z36) : secTo ft t j b k = secTo ft t' j b k := by
  induction k with
  | zero => rfl
  | succ k ih => rw [secTo, secTo, ih (fun i hi => h i (by omega)), h k (by omega)]
theorem secTo_take (fs l : List Int) (a : Nat) {b : ByteArray} (h : b.size = 128) (k : Nat) (hk : k ≤ l.length) : secTo (fun i => fs.getD i 0) (lastW a (l.take k)) a b k = firstTo fs l b k ++ secondTo fs l b k := by
  rw [← secTo_last fs l a h k hk]
  refine secTo_congr _ _ _ _ fun i hi => ?_
  unfold lastW
  rw [List.getD_eq_getElem?_getD, List.getD_eq_getElem?_getD, List.getElem?_map, List.getElem?_map, List.getElem?_take, if_pos hi]
theorem lastW_len (a : Int) (l : List Int) : (lastW a l).length = l.length := List.length_map _
theorem lastW_succ (a : Int) (l : List Int) {k : Nat} (hk : k < l.length) : lastW a (l.take k) ++ [⟨a, sect (l.getD k 0)⟩] = lastW a (l.take (k + 1)) := by
  unfold lastW
  rw [List.take_add_one, List.getElem?_eq_getElem hk, List.map_append, List.getD_eq_getElem?_getD, List.getElem?_eq_getElem hk]
  rfl
theorem rightD_last {s : List ByteArray} {a : Int} {l : List Int} (h1 : 4 ≤ s.length) (h2 : s.length ≤ 64) (h4 : ∀ x ∈ s, x.size = 128) (h0 : 0 ≤ a) (ha : a < s.length) (hl : l.length ≤ 200) : rightD ⟨s, lastW a l⟩ = true :=
  rightD_mk h1 h2 (by simpa [lastW] using hl) h4 (wellW_mk fun x hx => by
    obtain ⟨c, _, rfl⟩ := List.mem_map.1 hx
    exact ⟨h0, ha, sect_size c⟩)
theorem well_one {n a c : Int} (h0 : 0 ≤ a) (ha : a < n) : wellW n [⟨a, sect c⟩] = true := wellW_mk fun x hx => by
  obtain rfl : x = ⟨a, sect c⟩ := by simpa using hx
  exact ⟨h0, ha, sect_size c⟩
theorem save_last {s : List ByteArray} {a : Int} {l : List Int} {k : Nat} (h1 : 4 ≤ s.length) (h2 : s.length ≤ 64) (h4 : ∀ x ∈ s, x.size = 128) (h0 : 0 ≤ a) (ha : a < s.length) (hk : k < l.length) (hk2 : k < 20) : saveD ⟨s, lastW a (l.take k)⟩ [⟨a, sect (l.getD k 0)⟩] = (⟨s, lastW a (l.take (k + 1))⟩, 0) := by
  have hl : (l.take k).length ≤ 20 := by rw [List.length_take]; omega
  rw [saveD_ok (rightD_last h1 h2 h4 h0 ha (by omega)) (well_one h0 ha) (by rw [lastW_len]; simp only [List.length_singleton]; omega), lastW_succ a l hk]
theorem stands_last {s : List ByteArray} {a : Int} {l : List Int} {k : Nat} (h0 : 0 ≤ a) (hk : k < l.length) : standsD ⟨s, lastW a (l.take (k + 1))⟩ a.toNat = sect (l.getD k 0) := by
  rw [← lastW_succ a l hk]
  unfold standsD
  rw [List.foldl_append]
  simp only [List.foldl_cons, List.foldl_nil]
  rw [if_pos (show a = (a.toNat : Int) by omega)]
theorem crash_last {s : List ByteArray} {a : Int} {l fs : List Int} {k : Nat} (h1 : 4 ≤ s.length) (h2 : s.length ≤ 64) (h4 : ∀ x ∈ s, x.size = 128) (h0 : 0 ≤ a) (ha : a < s.length) (hk : k ≤ l.length) (hk2 : k ≤ 20) :
    ∃ E : List ByteArray, crashD ⟨s, lastW a (l.take k)⟩ fs = (⟨E, []⟩, 0) ∧ E.length = s.length ∧ E.getD a.toNat ByteArray.empty = firstTo fs l (s.getD a.toNat ByteArray.empty) k ++ secondTo fs l (s.getD a.toNat ByteArray.empty) k := by
  have hl : (l.take k).length = k := by rw [List.length_take]; omega
  have hr := rightD_last (l := l.take k) h1 h2 h4 h0 ha (by omega)
  obtain ⟨_, r2, _⟩ := rightD_open hr
  have hE := endsTo_at (fun i => fs.getD i 0) r2 (j := a.toNat) (by show a.toNat < s.length; omega) k (by show k ≤ (lastW a (l.take k)).length; rw [lastW_len, hl]; exact Nat.le_refl _)
  refine ⟨_, crashD_ok fs hr, endsTo_len _ _ _ _, ?_⟩
  show (endsTo (fun i => fs.getD i 0) s (lastW a (l.take k)) (lastW a (l.take k)).length).getD a.toNat ByteArray.empty = _
  rw [lastW_len, hl]
  have ea : ((a.toNat : Nat) : Int) = a := by omega
  have hT := secTo_take fs l a.toNat (b := s.getD a.toNat ByteArray.empty) (h4 _ (by
    rw [List.getD_eq_getElem?_getD, List.getElem?_eq_getElem (by omega)]; exact List.getElem_mem _)) k hk
  rw [ea] at hT
  exact hE.trans hT
end Go.Proofs.Ytdcokepmblcdmaa
