/- The contract of the reference's Same: two rows of texts. -/
import Derived.Test.YtjhgkcbhllomaaaBase
import Derived.Test.YtjhgkcbhllomaaaShelf
import Derived.Test.YtjhgkcbhllomaaaOct
import Derived.Below
import Derived.Deep.Draws
import Derived.OwnWalk
import Derived.Laws.BytesArg
import Derived.Laws.MakeOwn
import Derived.Laws.OwnMore
import Derived.Deep.OwnRows
import Derived.Tactics
import Derived.Lib.ConvBytes
import Derived.Laws.Slices
import Derived.WalkKit
import Derived.KernelRfl
import Derived.RowKit3
import Derived.Deep.LoopGhost
import Derived.Deep.QuietTactic
import Derived.BigQuiet
import Derived.WideLaws
import Derived.Deep.DeepCutAuto
import Derived.Deep.CutBlock
import Derived.Deep.RegionHeld3
import Derived.Laws.Rows
import Derived.Lib.AppendStr
import Derived.ArgAppend
import Derived.Laws.BitsLemmas
import Derived.RowKit
namespace Go.Proofs.Ytjhgkcbhllomaaa
open Go.RowKit Go.Proofs.YtjhgkcbhllomaaaW.PrintWords Go.Proofs.YtjhgkcbhllomaaaW.PrintLast Go.Proofs.YtjhgkcbhllomaaaW.PrintMore
attribute [local go_sem] max2_int min2_int max_two min_two max_three min_three max_four min_four
set_option linter.unusedVariables false
set_option linter.unusedSimpArgs false
/-- A text of a row that is read. -/
theorem str_at {w : World} {A : Option Addr} {xs : List ByteArray} (h : Kd.string.C w A xs.length xs) (k : Nat) (hk : k < xs.length) : ∃ ad, A = some ad ∧ w.cell? (ad.add k) = some (.string (xs.getD k ByteArray.empty)) := by
  obtain ⟨ad, e, hc⟩ := Kd.at_string h (k : Int) (by omega) (by omega)
  rw [Int.toNat_natCast] at hc
  exact ⟨ad, e, hc⟩
theorem str_ne {x y : ByteArray} (h : x ≠ y) : (x.toList == y.toList) = false := by
  rw [beq_eq_false_iff_ne]
  intro e
  rw [Lib.toList_data, Lib.toList_data] at e
  exact h (ByteArray.ext (Array.toList_inj.1 e))
theorem app_iff {α : Type} {a b c d : List α} (h : a.length = b.length) : a ++ c = b ++ d ↔ a = b ∧ c = d := ⟨fun e => List.append_inj e h, fun e => by rw [e.1, e.2]⟩
theorem take_eq_succ {α : Type} {xs ys : List α} {d : α} (k : Nat) (h : xs.length = ys.length) (hk : k < xs.length) : xs.take (k + 1) = ys.take (k + 1) ↔ (xs.take k = ys.take k ∧ xs.getD k d = ys.getD k d) := by
  rw [List.take_succ_eq_append_getElem hk, List.take_succ_eq_append_getElem (by omega), app_iff (by simp; omega), getD_at _ _ _ hk, getD_at _ _ _ (show k < ys.length by omega)]
  simp
theorem ne_of_step {xs ys : List ByteArray} {x y : ByteArray} {k : Nat} (h : xs.take (k + 1) = ys.take (k + 1) ↔ (xs.take k = ys.take k ∧ x = y)) (hne : ¬ x = y) : ¬ xs = ys := fun e => hne (h.1 (by rw [e])).2
set_option maxHeartbeats 1000000 in
set_option maxRecDepth 100000 in
theorem ref_Same_eq (A B : Option Addr) (ca cb : Nat) (xs ys : List ByteArray) (w : World) (ha : Kd.string.C w A xs.length xs) (hb : Kd.string.C w B ys.length ys) (hca : xs.length ≤ ca) (hcb : ys.length ≤ cb) (hl : xs.length = ys.length) (r : Bool) (hr : Hid (r = decide (xs = ys))) :
    Calls Try.prog 11 #[.slice A xs.length ca, .slice B ys.length cb] w fun e w' => e = .returned (.bool r) ∧ Drawn0 w w' := by
  have ma := Kd.C_max ha
  have mb := Kd.C_max hb
  have q1 : xs.length ≤ ys.length := by omega
  have q2 : ys.length ≤ xs.length := by omega
  have HL : Hid (xs.length = ys.length) := hl
  have h1 : ((xs.length : Int) != (ys.length : Int)) = false := by rw [bne_eq_false_iff_eq]; omega
  clear hl
  go_enter Try.func11, Try.ntmps11
  go_wp2
  go_loopw [13] (fun i wr => ∃ k : Nat, k ≤ xs.length ∧ i = .int .i64 k ∧ Hid (xs.take k = ys.take k) ∧ Drawn0 w wr) (fun i _ => xs.length - (intOf i).toNat)
  case atStart => exact ⟨0, Nat.zero_le _, rfl, rfl, Drawn0.refl _⟩
  case round =>
    obtain ⟨k, hk, rfl, hT, ⟨nd, rfl⟩⟩ := hrel
    by_cases hlt : k < xs.length
    · obtain ⟨ad, rfl, hx⟩ := str_at ha k hlt
      obtain ⟨bd, rfl, hy⟩ := str_at hb k (by omega)
      have HT := take_eq_succ (d := ByteArray.empty) k HL.out hlt
      generalize xs.getD k ByteArray.empty = x at *
      generalize ys.getD k ByteArray.empty = y at *
      have HT : Hid (xs.take (k + 1) = ys.take (k + 1) ↔ (xs.take k = ys.take k ∧ x = y)) := HT
      by_cases hxy : x = y
      · subst hxy
        go_wp2
        go_quiet (fail)
        go_wp2
        go_roundw
        case rel => exact ⟨k + 1, by omega, by go_num, HT.out.2 ⟨hT.out, by simp⟩, ⟨_, rfl⟩⟩
        case measure => simp [intOf]; omega
      · have hn := str_ne hxy
        go_wp2
        go_quiet (fail)
        go_wp2
        go_ret
        exact ⟨by rw [show r = false from hr.out.trans (decide_eq_false (ne_of_step HT.out hxy))]; rfl, Drawn0.step ⟨_, rfl⟩ _⟩
    · go_wp2
      go_ret
      have e : xs = ys := by
        have := hT.out
        rwa [List.take_of_length_le (by omega), List.take_of_length_le (by omega)] at this
      exact ⟨by rw [show r = true from hr.out.trans (decide_eq_true e)]; rfl, ⟨_, rfl⟩⟩
set_option maxHeartbeats 1000000 in
theorem ref_Same_ne (A B : Option Addr) (ca cb : Nat) (xs ys : List ByteArray) (w : World) (hl : ¬ xs.length = ys.length) :
    Calls Try.prog 11 #[.slice A xs.length ca, .slice B ys.length cb] w fun e w' => e = .returned (.bool false) ∧ Drawn0 w w' := by
  have h1 : ((xs.length : Int) != (ys.length : Int)) = true := by rw [bne_iff_ne]; omega
  clear hl
  go_enter Try.func11, Try.ntmps11
  go_wp2
  go_ret
  exact ⟨rfl, Drawn0.refl _⟩
theorem ref_Same (A B : Option Addr) (ca cb : Nat) (xs ys : List ByteArray) (w : World) (ha : Kd.string.C w A xs.length xs) (hb : Kd.string.C w B ys.length ys) (hca : xs.length ≤ ca) (hcb : ys.length ≤ cb) :
    Calls Try.prog 11 #[.slice A xs.length ca, .slice B ys.length cb] w fun e w' => e = .returned (.bool (decide (xs = ys))) ∧ Drawn0 w w' := by
  by_cases hl : xs.length = ys.length
  · exact ref_Same_eq A B ca cb xs ys w ha hb hca hcb hl _ rfl
  · rw [decide_eq_false (fun e => hl (by rw [e]))]; exact ref_Same_ne A B ca cb xs ys w hl
end Go.Proofs.Ytjhgkcbhllomaaa
