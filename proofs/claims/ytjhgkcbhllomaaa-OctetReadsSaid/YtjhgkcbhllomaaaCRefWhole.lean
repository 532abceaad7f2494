/- The contracts of the reference's Whole and Wide. -/
import Derived.Test.YtjhgkcbhllomaaaBase
import Derived.Test.YtjhgkcbhllomaaaShelf
import Derived.Test.YtjhgkcbhllomaaaOct
import Derived.Below
import Derived.Deep.Draws
import Derived.OwnWalk
import Derived.Laws.BytesArg
import Derived.Laws.MakeOwn
import Derived.Laws.OwnMore
import Derived.Deep.OwnRows
import Derived.Tactics
import Derived.Lib.ConvBytes
import Derived.Laws.Slices
import Derived.WalkKit
import Derived.KernelRfl
import Derived.RowKit3
import Derived.Deep.LoopGhost
import Derived.Deep.QuietTactic
import Derived.BigQuiet
import Derived.WideLaws
import Derived.Deep.DeepCutAuto
import Derived.Deep.CutBlock
import Derived.Deep.RegionHeld3
import Derived.Laws.Rows
import Derived.Lib.AppendStr
import Derived.ArgAppend
import Derived.Laws.BitsLemmas
import Derived.RowKit
namespace Go.Proofs.Ytjhgkcbhllomaaa
open Go.RowKit Go.Proofs.YtjhgkcbhllomaaaW.PrintWords Go.Proofs.YtjhgkcbhllomaaaW.PrintLast Go.Proofs.YtjhgkcbhllomaaaW.PrintMore
attribute [local go_sem] max2_int min2_int max_two min_two max_three min_three max_four min_four
set_option linter.unusedVariables false
set_option linter.unusedSimpArgs false
theorem leN_drop (s : ByteArray) (k : Nat) (h : k < s.size) : leN (s.data.toList.drop k) = bN s k + 256 * leN (s.data.toList.drop (k + 1)) := by
  rw [List.drop_eq_getElem_cons (by rw [Array.length_toList]; exact h)]
  show _ = _
  rw [leN, ← bN_at s k h]
  rfl
theorem leN_drop_lt (s : ByteArray) (k : Nat) (h8 : s.size ≤ 8) (hk : k ≤ s.size) (h0 : 0 < k) : leN (s.data.toList.drop k) < 72057594037927936 := by
  have h := leN_lt (s.data.toList.drop k)
  rw [List.length_drop, Array.length_toList] at h
  have : 256 ^ (s.data.size - k) ≤ 256 ^ 7 := Nat.pow_le_pow_right (by decide) (by show s.size - k ≤ 7; omega)
  omega
set_option maxHeartbeats 1000000 in
set_option maxRecDepth 100000 in
theorem ref_Whole (s : ByteArray) (w : World) (h : s.size ≤ 8) :
    Calls Try.prog 16 #[.string s] w fun e w' => e = .returned (.int .u64 (wholeN s)) ∧ w = w' := by
  go_enter Try.func16, Try.ntmps16
  go_wp2
  go_loop [3, 4] (fun n i => ∃ k : Nat, k ≤ s.size ∧ i = .int .i64 ((k : Int) - 1) ∧ n = .int .u64 (leN (s.data.toList.drop k))) (fun _ i => (intOf i + 1).toNat)
  case atStart => exact ⟨s.size, Nat.le_refl _, rfl, by rw [List.drop_of_length_le (by rw [Array.length_toList]; exact Nat.le_refl _)]; rfl⟩
  case round =>
    obtain ⟨k, hk, rfl, rfl⟩ := hrel
    by_cases hlt : 0 < k
    · obtain ⟨k, rfl⟩ : ∃ j, k = j + 1 := ⟨k - 1, by omega⟩
      have hlt' : k < s.size := by omega
      have hb := bN_at s
      have hb2 := bN_lt s k
      have hl := leN_drop_lt s (k + 1) h hk (by omega)
      have HS : Hid (leN (s.data.toList.drop k) = bN s k + 256 * leN (s.data.toList.drop (k + 1))) := leN_drop s k hlt'
      go_wp2
      go_round
      case rel => exact ⟨k, by omega, rfl, by rw [HS.out]; exact congrArg (Value.int .u64) (by omega)⟩
      case measure => simp [intOf]
    · obtain rfl : k = 0 := by omega
      go_wp2
      go_ret
      exact ⟨rfl, rfl⟩
theorem wide_next {n : Int} (h : (Lit.int .u64 n).wf = true) (k : Nat) : IntKind.u64.wrap ((n / 2 ^ (8 * k)).tdiv 256) = n / 2 ^ (8 * (k + 1)) := by
  obtain ⟨h0, h1⟩ := bounds_u64 h
  have h2 : 0 ≤ n / 2 ^ (8 * k) := Int.ediv_nonneg h0 (Int.pow_nonneg (by decide))
  have h3 : n / 2 ^ (8 * k) ≤ n := Int.ediv_le_self _ h0
  rw [Int.tdiv_eq_ediv_of_nonneg h2, IntWalk.u64_in _ ⟨by omega, by omega⟩, Int.ediv_ediv_of_nonneg (Int.pow_nonneg (by decide)), Nat.mul_add, Int.pow_add]
  rfl
set_option maxHeartbeats 1000000 in
set_option maxRecDepth 100000 in
/-- The reference's Wide: as many bytes as are asked for. -/
theorem ref_Wide (n : Int) (size : Int) (w : World) (hN : (Lit.int .u64 n).wf = true) (hs : size ≤ 8) :
    Calls Try.prog 17 #[.int .u64 n, .int .i64 size] w fun e w' => e = .returned (.string (strOfNums (wideL n size.toNat))) ∧ Below w.heap.size w w' := by
  have hn := wf_u64_lo hN
  have HN : Hid ((Lit.int .u64 n).wf = true) := hN
  clear hN
  go_enter Try.func17, Try.ntmps17
  go_wp2_with (refine Try.none_u8 (N := 7) rfl rfl ?hr ?_; (case hr => first | (go_simp; done) | (go_simp; rfl)); intro v1 w1 ho hb)
  go_loopw [0, 5, 6] (fun m v i wr => ∃ k : Nat, k ≤ size.toNat ∧ i = .int .i64 k ∧ m = .int .u64 (n / 2 ^ (8 * k)) ∧ (Kd.int .u8).R 5 wr w.heap.size (fun _ => True) v (wideL n k) ∧ Below w.heap.size w wr) (fun _ _ i _ => size.toNat - (intOf i).toNat)
  case atStart => exact ⟨0, Nat.zero_le _, rfl, by simp, ho, hb⟩
  case round =>
    clear ho hb
    obtain ⟨k, hk, rfl, rfl, ho, hb⟩ := hrel
    have hn1 : 0 ≤ n / 2 ^ (8 * k) := Int.ediv_nonneg hn (Int.pow_nonneg (by decide))
    have hl := wideL_length n k
    have hz := hb.size
    by_cases hlt : (k : Int) < size
    · go_wp2_with (at_builtin; refine Try.app_u8 rfl _ _ rfl _ (wideL n k) (n / 2 ^ (8 * k) % 256) rfl rfl ho hb ?h1 ?h2 ?_; (case h1 => omega); (case h2 => omega); intro v1 w1 ho1 hb1)
      have hq := wide_next HN.out k
      go_roundw
      case rel => exact ⟨k + 1, by omega, by go_num, by rw [hq], by rw [wideL_succ]; exact ho1, hb1⟩
      case measure => simp [intOf]; omega
    · obtain rfl : k = size.toNat := by omega
      have hcv := own_string (P := Try.prog) Try.underlying42 Try.underlying5 Try.underlying9 (Kd.own_of_R ho)
      go_wp2
      go_ret
      exact ⟨rfl, hb⟩
/-- A number that fits, or does not. -/
theorem wide_cases {n q : Int} (hN : (Lit.int .u64 n).wf = true) (h0 : 0 ≤ q) (h8 : q ≤ 8) :
    ((n % 2 ^ (8 * q.toNat) != n) = false ∧ wideS n q = strOfNums (wideL n q.toNat) ∧ wideE n q = 0) ∨ ((n % 2 ^ (8 * q.toNat) != n) = true ∧ wideS n q = ⟨#[]⟩ ∧ wideE n q = 2) := by
  obtain ⟨hn, hn2⟩ := bounds_u64 hN
  obtain ⟨m, rfl⟩ := Int.eq_ofNat_of_zero_le h0
  rw [Int.toNat_natCast]
  by_cases hE : m < 8 ∧ n / 2 ^ (8 * m) ≠ 0
  · refine .inr ⟨?_, wideS_err (by rw [wideE_long hE]; decide), wideE_long hE⟩
    rw [bne_iff_ne]
    intro h
    apply hE.2
    exact Int.ediv_eq_zero_of_lt hn (by rw [← h]; exact Int.emod_lt_of_pos _ (Int.pow_pos (by decide)))
  · have hf : m < 8 → n / 2 ^ (8 * m) = 0 := fun h => Decidable.not_not.1 fun hn => hE ⟨h, hn⟩
    refine .inl ⟨?_, wideS_ok (by omega) hf, wideE_ok (by omega) hf⟩
    rw [bne_eq_false_iff_eq]
    apply Int.emod_eq_of_lt hn
    by_cases h : m < 8
    · have h1 := hf h
      have h2 := Int.mul_ediv_add_emod n (2 ^ (8 * m))
      rw [h1, Int.mul_zero, Int.zero_add] at h2
      rw [← h2]
      exact Int.emod_lt_of_pos _ (Int.pow_pos (by decide))
    · obtain rfl : m = 8 := by omega
      show n < 18446744073709551616
      omega
end Go.Proofs.Ytjhgkcbhllomaaa
