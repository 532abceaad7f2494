/- The contract of the reference's Bytes: out of its printed function. -/
import Derived.Test.YtjhgkcbhllomaaaBase
import Derived.Test.YtjhgkcbhllomaaaShelf
import Derived.Test.YtjhgkcbhllomaaaOct
import Derived.Test.YtjhgkcbhllomaaaP2
import Derived.Below
import Derived.Deep.Draws
import Derived.OwnWalk
import Derived.Laws.BytesArg
import Derived.Laws.MakeOwn
import Derived.Laws.OwnMore
import Derived.Deep.OwnRows
import Derived.Tactics
import Derived.Lib.ConvBytes
import Derived.Laws.Slices
import Derived.WalkKit
import Derived.KernelRfl
import Derived.RowKit3
import Derived.Deep.LoopGhost
import Derived.Deep.QuietTactic
import Derived.BigQuiet
import Derived.WideLaws
import Derived.Deep.DeepCutAuto
import Derived.Deep.CutBlock
import Derived.Deep.RegionHeld3
import Derived.Laws.Rows
import Derived.Lib.AppendStr
import Derived.ArgAppend
import Derived.Laws.BitsLemmas
import Derived.RowKit
namespace Go.Proofs.Ytjhgkcbhllomaaa
open Go.RowKit Go.Proofs.YtjhgkcbhllomaaaW.PrintWords Go.Proofs.YtjhgkcbhllomaaaW.PrintLast Go.Proofs.YtjhgkcbhllomaaaW.PrintMore
attribute [local go_sem] max2_int min2_int max_two min_two max_three min_three max_four min_four
set_option linter.unusedVariables false
set_option linter.unusedSimpArgs false
open Go.Proofs.Ytjhgkcbhllomaaa.P
theorem half_f (k : Nat) (c : Nat) (h1 : c < 256) : consignorref01_half.f (k + 1) c = some (hv c : Int) := by
  have h : ∀ c : Fin 256, consignorref01_half.f 1 (c.val : Int) = some (hv c.val : Int) := by decide +kernel
  exact at_rounds (consignorref01_half.mono c) (by omega) (h ⟨c, h1⟩)
theorem bt_bN (s : ByteArray) (i : Int) (j : Nat) (hj : i = j) : bt s i = bN s j := by
  subst hj
  unfold bt bN
  rw [Int.toNat_natCast]
  split
  · rename_i h
    rw [List.getD_eq_getElem?_getD, List.getElem?_eq_getElem (by rw [Array.length_toList]; exact h)]
    rfl
  · rename_i h
    rw [List.getD_eq_getElem?_getD, List.getElem?_eq_none (by rw [Array.length_toList]; show s.size ≤ j; omega)]
    rfl
def RBPost (s : ByteArray) (r : ByteArray × Bool) : Prop := (hexOk s ∧ r = (unhexS s, true)) ∨ (¬ hexOk s ∧ r.2 = false)
theorem two_digits {a b : Nat} (ha : a < 16) (hb : b < 16) : wrap64 (wrap64 (16 * (a : Int)) + b) % 256 = (a : Int) * 16 + b := by
  have e1 : wrap64 (16 * (a : Int)) = 16 * a := by unfold wrap64; omega
  have e2 : wrap64 (16 * (a : Int) + b) = 16 * a + b := by unfold wrap64; omega
  rw [e1, e2]; omega
theorem ref_Bytes_f (s : ByteArray) (hs : s.size ≤ 35184372088832) (d : Nat) : ∀ (k j : Nat), 2 * j ≤ s.size → s.size - 2 * j = d → (∀ i, i < 2 * j → hv (bN s i) < 16) → d + 3 ≤ k →
    ∃ r, consignorref01_Bytes.l0 k s (hexTo s j) (2 * (j : Int)) = some r ∧ RBPost s r := by
  induction d using Nat.strongRecOn with
  | ind d ih =>
    intro k j hj hd hD hk
    obtain ⟨k, rfl⟩ : ∃ m, k = m + 3 := ⟨k - 3, by omega⟩
    have w1 : wrap64 (2 * (j : Int) + 1) = 2 * (j : Int) + 1 := by unfold wrap64; omega
    have w2 : wrap64 (2 * (j : Int) + 2) = 2 * (j : Int) + 2 := by unfold wrap64; omega
    simp only [consignorref01_Bytes.l0, w1]
    by_cases hlt : 2 * j + 1 < s.size
    · have l1 := bN_lt s (2 * j)
      have l2 := bN_lt s (2 * j + 1)
      have v1 := hv_le (bN s (2 * j))
      have v2 := hv_le (bN s (2 * j + 1))
      rw [if_pos (by omega), if_pos (by omega), if_pos (by omega), bt_bN s (2 * (j : Int)) (2 * j) (by omega), half_f _ _ l1, Option.bind_some]
      by_cases d1 : hv (bN s (2 * j)) < 16
      · rw [if_neg (by omega), if_pos (by omega), bt_bN s (2 * (j : Int) + 1) (2 * j + 1) (by omega), half_f _ _ l2, Option.bind_some]
        simp only [consignorref01_Bytes.j1, w1, w2]
        by_cases d2 : hv (bN s (2 * j + 1)) < 16
        · have w3 : wrap64 (wrap64 (16 * (hv (bN s (2 * j)) : Int)) + hv (bN s (2 * j + 1))) % 256 = hexAt s j := two_digits (by omega) (by omega)
          rw [if_neg (by simp; omega), if_pos (by omega), if_pos (by omega), bt_bN s (2 * (j : Int)) (2 * j) (by omega), half_f _ _ l1, Option.bind_some, if_pos (by omega), if_pos (by omega), bt_bN s (2 * (j : Int) + 1) (2 * j + 1) (by omega), half_f _ _ l2, Option.bind_some, if_pos (by rw [hexTo_length]; omega), w3, ← hexTo_succ]
          have := ih (s.size - 2 * (j + 1)) (by omega) (k + 1) (j + 1) (by omega) rfl (fun i hi => by
            rcases (show i < 2 * j ∨ i = 2 * j ∨ i = 2 * j + 1 by omega) with h' | rfl | rfl
            · exact hD i h'
            · exact d1
            · exact d2) (by omega)
          rwa [show 2 * ((j + 1 : Nat) : Int) = 2 * (j : Int) + 2 by omega] at this
        · rw [if_pos (by simp; omega)]
          exact ⟨_, rfl, .inr ⟨fun hO => d2 (hO.2 _ hlt), rfl⟩⟩
      · rw [if_pos (by omega)]
        simp only [consignorref01_Bytes.j1, if_true]
        exact ⟨_, rfl, .inr ⟨fun hO => d1 (hO.2 _ (by omega)), rfl⟩⟩
    · rw [if_neg (by omega)]
      refine ⟨_, rfl, ?_⟩
      by_cases he : s.size = 2 * j
      · refine .inl ⟨⟨by omega, fun i hi => hD i (by omega)⟩, ?_⟩
        rw [unhexS, show s.size / 2 = j by omega]
        congr 1
        rw [beq_iff_eq]; omega
      · refine .inr ⟨fun hO => by have := hO.1; omega, ?_⟩
        simp only [beq_eq_false_iff_ne]; omega
def RefBytesPost (s : ByteArray) (w : World) (e : Ending) (w' : World) : Prop :=
  ((hexOk s ∧ e = .returned (.tuple #[.string (unhexS s), .bool true])) ∨ (¬ hexOk s ∧ ∃ x, e = .returned (.tuple #[.string x, .bool false]))) ∧ Below w.heap.size w w'
theorem ref_Bytes (s : ByteArray) (w : World) (hs : s.size ≤ 35184372088832) :
    Calls Try.prog 14 #[.string s] w (RefBytesPost s w) := by
  obtain ⟨⟨r1, r2⟩, hr, hp⟩ := ref_Bytes_f s hs s.size (s.size + 3) 0 (by omega) (by omega) (fun i hi => by omega) (by omega)
  refine (consignorref01_Bytes.calls (s.size + 3) s r1 r2 w hr).mono ?_
  rintro e w' ⟨rfl, hb⟩
  refine ⟨?_, hb⟩
  rcases hp with ⟨h1, h2⟩ | ⟨h1, h2⟩
  · injection h2 with h3 h4; subst h3 h4; exact .inl ⟨h1, rfl⟩
  · simp only at h2; subst h2; exact .inr ⟨h1, _, rfl⟩
end Go.Proofs.Ytjhgkcbhllomaaa
