/- The contract of octet.Wide: a number in so many bytes, or why not. -/
import Derived.Test.YtjhgkcbhllomaaaBase
import Derived.Test.YtjhgkcbhllomaaaShelf
import Derived.Test.YtjhgkcbhllomaaaOct
import Derived.Below
import Derived.Deep.Draws
import Derived.OwnWalk
import Derived.Laws.BytesArg
import Derived.Laws.MakeOwn
import Derived.Laws.OwnMore
import Derived.Deep.OwnRows
import Derived.Tactics
import Derived.Lib.ConvBytes
import Derived.Laws.Slices
import Derived.WalkKit
import Derived.KernelRfl
import Derived.RowKit3
import Derived.Deep.LoopGhost
import Derived.Deep.QuietTactic
import Derived.BigQuiet
import Derived.WideLaws
import Derived.Deep.DeepCutAuto
import Derived.Deep.CutBlock
import Derived.Deep.RegionHeld3
import Derived.Laws.Rows
import Derived.Lib.AppendStr
import Derived.ArgAppend
import Derived.Laws.BitsLemmas
import Derived.RowKit
namespace Go.Proofs.Ytjhgkcbhllomaaa
open Go.RowKit Go.Proofs.YtjhgkcbhllomaaaW.PrintWords Go.Proofs.YtjhgkcbhllomaaaW.PrintLast Go.Proofs.YtjhgkcbhllomaaaW.PrintMore
attribute [local go_sem] max2_int min2_int max_two min_two max_three min_three max_four min_four
set_option linter.unusedVariables false
set_option linter.unusedSimpArgs false
set_option maxHeartbeats 1000000 in
set_option maxRecDepth 100000 in
theorem octet_Wide.fits (n : Int) (m : Nat) (w : World) (hm : m ≤ 8) (hn0 : 0 ≤ n) (hfit : m < 8 → n / 2 ^ (8 * m) = 0) :
    Calls Try.prog 6 #[.int .u64 n, .int .i64 m] w fun e w' => e = .returned (.tuple #[.string (strOfNums (wideL n m)), .int .i64 0]) ∧ Below w.heap.size w w' := by
  go_enter Try.func6, Try.ntmps6
  rcases Nat.lt_or_ge m 8 with h8 | h8
  all_goals
    go_wp2_with (at_make; refine Kd.R_make (Kd.int .u8) _ 5 rfl (N := 26) rfl 42 _ _ rfl m rfl rfl Try.underlying42 (.int .u8 0) 1 Try.info_u8 rfl (by decide) (by omega) 0 (ok := fun _ => True) (okp := fun _ => True) rfl (fun _ hk => hk) trivial (by omega) (by omega) (Below.refl _ _) (Nat.le_refl _) ?_; intro v1 w1 ho hb _ _; obtain ⟨A1, c1, rfl⟩ := Kd.R_slice ho; rw [Int.toNat_natCast, List.length_replicate])
    rw [Int.toNat_natCast, List.length_replicate] at ho
    go_loopw [29] (fun i wr => ∃ k : Nat, k ≤ m ∧ i = .int .i64 k ∧ Kd.R (Kd.int .u8) 5 wr w.heap.size (fun _ => True) (.slice A1 m c1) (wideL n k ++ List.replicate (m - k) 0) ∧ Below w.heap.size w wr) (fun i _ => m - (intOf i).toNat)
    case atStart => exact ⟨0, Nat.zero_le _, rfl, ho, hb⟩
    case round =>
      clear ho hb
      obtain ⟨k, hk, rfl, ho, hb⟩ := hrel
      by_cases hlt : k < m
      · have hz := hb.size
        obtain ⟨g, cap, he, hg1, hg2, cells, hg3⟩ := Kd.R_form ho (by simp [wideL]; omega)
        have hlen : (wideL n k ++ List.replicate (m - k) (0 : Int)).length = m := by simp [wideL]; omega
        rw [hlen] at he
        injection he with he1 _ he2
        subst he1 he2
        obtain ⟨hx, hf⟩ := Kd.R_celln 0 ho (k : Int) (by omega) (by omega)
        rw [Int.toNat_natCast] at hx hf
        have hp := Kd.R_putn ho (k : Int) (n / 2 ^ (8 * k) % 256)
        rw [Int.toNat_natCast, wideL_set n k m hlt] at hp
        go_wp2
        go_roundw
        case rel => exact ⟨k + 1, by omega, by go_num, hp, hb.setCell (p := ⟨g, k, none⟩) hg1 _⟩
        case measure => simp [intOf]; omega
      · obtain rfl : k = m := by omega
        have hcv := own_string (P := Try.prog) Try.underlying42 Try.underlying5 Try.underlying9 (Kd.own_of_R ho)
        go_wp2
        go_ret2
        exact ⟨rfl, hb⟩
set_option maxHeartbeats 1000000 in
set_option maxRecDepth 100000 in
theorem octet_Wide.arg (n size : Int) (w : World) (hs : size < 0 ∨ 8 < size) :
    Calls Try.prog 6 #[.int .u64 n, .int .i64 size] w fun e w' => e = .returned (.tuple #[.string ⟨#[]⟩, .int .i64 1]) ∧ Below w.heap.size w w' := by
  go_enter Try.func6, Try.ntmps6
  rcases hs with h | h
  all_goals
    go_wp2
    go_ret2
    exact ⟨rfl, Below.refl _ _⟩
set_option maxHeartbeats 1000000 in
set_option maxRecDepth 100000 in
theorem octet_Wide.long (n : Int) (m : Nat) (w : World) (hm : m < 8) (hfit : (n / 2 ^ (8 * m) != 0) = true) :
    Calls Try.prog 6 #[.int .u64 n, .int .i64 m] w fun e w' => e = .returned (.tuple #[.string ⟨#[]⟩, .int .i64 2]) ∧ Below w.heap.size w w' := by
  go_enter Try.func6, Try.ntmps6
  go_wp2
  go_ret2
  exact ⟨rfl, Below.refl _ _⟩
theorem octet_Wide.spec (n size : Int) (w : World) (hn : 0 ≤ n) :
    Calls Try.prog 6 #[.int .u64 n, .int .i64 size] w fun e w' => e = .returned (.tuple #[.string (wideS n size), .int .i64 (wideE n size)]) ∧ Below w.heap.size w w' := by
  by_cases h1 : size < 0 ∨ 8 < size
  · rw [wideS_err (by rw [wideE_arg h1]; decide), wideE_arg h1]; exact octet_Wide.arg n size w h1
  · obtain ⟨m, rfl⟩ : ∃ m : Nat, size = m := ⟨size.toNat, by omega⟩
    by_cases h2 : m < 8 ∧ n / 2 ^ (8 * m) ≠ 0
    · rw [wideS_err (by rw [wideE_long h2]; decide), wideE_long h2]; exact octet_Wide.long n m w h2.1 (by simp [h2.2])
    · have hm : m ≤ 8 := by omega
      have hf : m < 8 → n / 2 ^ (8 * m) = 0 := fun h => Decidable.not_not.1 fun hn => h2 ⟨h, hn⟩
      rw [wideS_ok hm hf, wideE_ok hm hf]; exact octet_Wide.fits n m w hm hn hf
end Go.Proofs.Ytjhgkcbhllomaaa
