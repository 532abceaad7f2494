/- The contract of octet.Whole: the number of bytes, of at most 8. -/
import Derived.Laws.BitsAllLaws
import Derived.Test.YtjhgkcbhllomaaaBase
import Derived.Test.YtjhgkcbhllomaaaShelf
import Derived.Test.YtjhgkcbhllomaaaOct
import Derived.Below
import Derived.Deep.Draws
import Derived.OwnWalk
import Derived.Laws.BytesArg
import Derived.Laws.MakeOwn
import Derived.Laws.OwnMore
import Derived.Deep.OwnRows
import Derived.Tactics
import Derived.Lib.ConvBytes
import Derived.Laws.Slices
import Derived.WalkKit
import Derived.KernelRfl
import Derived.RowKit3
import Derived.Deep.LoopGhost
import Derived.Deep.QuietTactic
import Derived.BigQuiet
import Derived.WideLaws
import Derived.Deep.DeepCutAuto
import Derived.Deep.CutBlock
import Derived.Deep.RegionHeld3
import Derived.Laws.Rows
import Derived.Lib.AppendStr
import Derived.ArgAppend
import Derived.Laws.BitsLemmas
import Derived.RowKit
namespace Go.Proofs.Ytjhgkcbhllomaaa
open Go.RowKit Go.Proofs.YtjhgkcbhllomaaaW.PrintWords Go.Proofs.YtjhgkcbhllomaaaW.PrintLast Go.Proofs.YtjhgkcbhllomaaaW.PrintMore
attribute [local go_sem] max2_int min2_int max_two min_two max_three min_three max_four min_four
set_option linter.unusedVariables false
set_option linter.unusedSimpArgs false
theorem or_step (s : ByteArray) (k : Nat) (hk : k < s.size) (h8 : s.size ≤ 8) : bits BinOp.or IntKind.u64 ((leN (s.data.toList.take k) : Nat) : Int) (IntKind.u64.wrap ((bN s k : Int) * 2 ^ (8 * k))) = ((leN (s.data.toList.take (k + 1)) : Nat) : Int) := by
  have hb := bN_lt s k
  have h1 : (s.data.toList.take k).length = k := by rw [List.length_take, Array.length_toList]; exact Nat.min_eq_left (Nat.le_of_lt hk)
  have h2 := leN_lt (s.data.toList.take k)
  rw [h1] at h2
  have e : (256 : Nat) ^ k = 2 ^ (8 * k) := by rw [show 256 = 2 ^ 8 by rfl, ← Nat.pow_mul]
  have h3 : leN (s.data.toList.take (k + 1)) = leN (s.data.toList.take k) + 256 ^ k * bN s k := by
    rw [take_snoc s k hk, leN_append, h1, ← bN_at s k hk]; simp [leN]
  have h4 : bN s k * 2 ^ (8 * k) < 18446744073709551616 := by
    have : 2 ^ (8 * k) ≤ 2 ^ 56 := Nat.pow_le_pow_right (by decide) (by omega)
    have : bN s k * 2 ^ (8 * k) ≤ 255 * 2 ^ 56 := Nat.mul_le_mul (by omega) this
    omega
  have h5 : ((bN s k : Nat) : Int) * 2 ^ (8 * k) = ((bN s k * 2 ^ (8 * k) : Nat) : Int) := by rw [Int.natCast_mul, Int.natCast_pow]; rfl
  have h6 : leN (s.data.toList.take k) < 18446744073709551616 := by
    have : 2 ^ (8 * k) ≤ 2 ^ 56 := Nat.pow_le_pow_right (by decide) (by omega)
    omega
  rw [h5, IntWalk.u64_in _ ⟨by omega, by omega⟩, u64_or_nat _ _ h6 h4, h3, e, Nat.mul_comm (bN s k)]
  have := Nat.two_pow_add_eq_or_of_lt (e ▸ h2) (bN s k)
  rw [Nat.or_comm, ← this, Nat.add_comm]
theorem orHid (s : ByteArray) (k : Nat) (hk : k < s.size) (h8 : s.size ≤ 8) : Hid (bits BinOp.or IntKind.u64 ((leN (s.data.toList.take k) : Nat) : Int) (IntKind.u64.wrap ((bN s k : Int) * 2 ^ (8 * k))) = ((leN (s.data.toList.take (k + 1)) : Nat) : Int)) := or_step s k hk h8
set_option maxHeartbeats 1000000 in
set_option maxRecDepth 100000 in
theorem octet_Whole.long (s : ByteArray) (w : World) (h : 8 < s.size) :
    Calls Try.prog 13 #[.string s] w fun e w' => e = .returned (.tuple #[.int .u64 0, .int .i64 2]) ∧ w = w' := by
  go_enter Try.func13, Try.ntmps13
  go_wp2
  go_ret2
  exact ⟨rfl, rfl⟩
set_option maxHeartbeats 1000000 in
set_option maxRecDepth 100000 in
theorem octet_Whole.fits (s : ByteArray) (w : World) (h : s.size ≤ 8) :
    Calls Try.prog 13 #[.string s] w fun e w' => e = .returned (.tuple #[.int .u64 (wholeN s), .int .i64 0]) ∧ w = w' := by
  go_enter Try.func13, Try.ntmps13
  go_wp2
  go_loop [4, 11] (fun n i => ∃ k : Nat, k ≤ s.size ∧ i = .int .i64 k ∧ n = .int .u64 (leN (s.data.toList.take k))) (fun _ i => s.size - (intOf i).toNat)
  case atStart => exact ⟨0, Nat.zero_le _, rfl, rfl⟩
  case round =>
    obtain ⟨k, hk, rfl, rfl⟩ := hrel
    by_cases hlt : k < s.size
    · have hb := bN_at s
      have hb2 := bN_lt s k
      have hor := orHid s k hlt h
      go_wp2
      go_round
      case rel => exact ⟨k + 1, by omega, by go_num, by rw [hor.out]⟩
      case measure => simp [intOf]; omega
    · obtain rfl : k = s.size := by omega
      go_wp2
      go_ret2
      exact ⟨by rw [take_all]; rfl, rfl⟩
end Go.Proofs.Ytjhgkcbhllomaaa
