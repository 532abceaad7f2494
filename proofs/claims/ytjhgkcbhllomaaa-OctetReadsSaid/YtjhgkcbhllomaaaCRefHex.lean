/- The contract of the reference's Hex. -/
import Derived.RegionTactic
import Derived.BigRegion
import Derived.Test.YtjhgkcbhllomaaaBase
import Derived.Test.YtjhgkcbhllomaaaShelf
import Derived.Test.YtjhgkcbhllomaaaOct
import Derived.Below
import Derived.Deep.Draws
import Derived.OwnWalk
import Derived.Laws.BytesArg
import Derived.Laws.MakeOwn
import Derived.Laws.OwnMore
import Derived.Deep.OwnRows
import Derived.Tactics
import Derived.Lib.ConvBytes
import Derived.Laws.Slices
import Derived.WalkKit
import Derived.KernelRfl
import Derived.RowKit3
import Derived.Deep.LoopGhost
import Derived.Deep.QuietTactic
import Derived.BigQuiet
import Derived.WideLaws
import Derived.Deep.DeepCutAuto
import Derived.Deep.CutBlock
import Derived.Deep.RegionHeld3
import Derived.Laws.Rows
import Derived.Lib.AppendStr
import Derived.ArgAppend
import Derived.Laws.BitsLemmas
import Derived.RowKit
namespace Go.Proofs.Ytjhgkcbhllomaaa
open Go.RowKit Go.Proofs.YtjhgkcbhllomaaaW.PrintWords Go.Proofs.YtjhgkcbhllomaaaW.PrintLast Go.Proofs.YtjhgkcbhllomaaaW.PrintMore
attribute [local go_sem] max2_int min2_int max_two min_two max_three min_three max_four min_four
set_option linter.unusedVariables false
set_option linter.unusedSimpArgs false
set_option maxHeartbeats 1000000 in
set_option maxRecDepth 100000 in
theorem ref_Hex (s : ByteArray) (w : World) (hs : s.size ≤ 35184372088832) :
    Calls Try.prog 15 #[.string s] w fun e w' => e = .returned (.string (hexS s)) ∧ Below w.heap.size w w' := by
  go_enter Try.func15, Try.ntmps15
  go_wp2_with (refine Try.none_u8 (N := 7) rfl rfl ?hr ?_; (case hr => first | (go_simp; done) | (go_simp; rfl)); intro v1 w1 ho hb)
  go_loopw [3, 4] (fun v i wr => ∃ k : Nat, k ≤ s.size ∧ i = .int .i64 k ∧ (Kd.int .u8).R 5 wr w.heap.size (fun _ => True) v (numsOf (hexl (s.data.toList.take k))) ∧ Below w.heap.size w wr) (fun _ i _ => s.size - (intOf i).toNat)
  case atStart => exact ⟨0, Nat.zero_le _, rfl, ho, hb⟩
  case round =>
    clear ho hb
    obtain ⟨k, hk, rfl, ho, hb⟩ := hrel
    have hg := bN_at s
    by_cases hlt : k < s.size
    · have hz := hb.size
      have l1 := bN_lt s k
      go_wp2
      go_region
      all_goals go_wp2
      have hlk := hexl_length (s.data.toList.take k)
      have hlt2 : (s.data.toList.take k).length ≤ k := List.length_take_le _ _
      obtain ⟨X, hX⟩ : ∃ X, X = wr.alloc (.cells #[.int .u8 ((bN s k : Int) / 16), .int .u8 ((bN s k : Int) % 16)] 5) := ⟨_, rfl⟩
      have x1 : X.heap[wr.heap.size]? = some (.cells #[.int .u8 ((bN s k : Int) / 16), .int .u8 ((bN s k : Int) % 16)] 5) := by rw [hX]; exact heap_alloc_new _ _
      have x2 := Kd.R_alloc (Kd.R_mono (ok' := fun j => j ≠ wr.heap.size) (Kd.R_bound ho) (fun j hj => by have := hj.2.2.1; omega)) (.cells #[.int .u8 ((bN s k : Int) / 16), .int .u8 ((bN s k : Int) % 16)] 5)
      rw [← hX] at x2
      have x3 : Below w.heap.size w X := by rw [hX]; exact hb.alloc hz _
      rw [← hX]
      have hXs : w.heap.size ≤ X.heap.size := x3.size
      clear hX hb ho
      generalize hG : wr.heap.size = g at *
      go_loopw [3, 24] (fun v i wr => ∃ j : Nat, j ≤ 2 ∧ i = .int .i64 j ∧ (Kd.int .u8).R 5 wr w.heap.size (fun j => j ≠ g) v (numsOf (hexl (s.data.toList.take k)) ++ (numsHex (bN s k)).take j) ∧ Below w.heap.size w wr ∧ wr.heap[g]? = some (.cells #[.int .u8 ((bN s k : Int) / 16), .int .u8 ((bN s k : Int) % 16)] 5)) (fun _ i _ => 2 - (intOf i).toNat)
      case atStart => exact ⟨0, by omega, rfl, by rw [List.take_zero, List.append_nil]; exact Kd.R_drew x2, below_drew x3, x1⟩
      case round =>
        obtain ⟨j, hj, rfl, ho, hb, hblk⟩ := hrel
        have hz := hb.size
        have c0 := blk_cell hblk 0
        have c1 := blk_cell hblk 1
        simp only [List.getElem?_toArray, List.getElem?_cons_zero, List.getElem?_cons_succ] at c0 c1
        rcases (show j = 0 ∨ j = 1 ∨ j = 2 by omega) with rfl | rfl | rfl
        · by_cases h10 : bN s k / 16 < 10
          · go_wp2_with (at_builtin; refine Try.app_u8g rfl _ _ rfl _ _ (48 + (bN s k : Int) / 16) rfl rfl ho hb hblk ?h1 ?h2 ?_; (case h1 => omega); (case h2 => (rw [List.length_append, numsOf_length]; have : ((numsHex (bN s k)).take 0).length ≤ 0 := List.length_take_le _ _; omega)); intro v1 w1 ho1 hb1 hblk1)
            rw [nh0 _ _ _ (by rw [dig_low _ h10]; omega)] at ho1
            go_roundw
            case rel => exact ⟨1, by omega, by go_num, ho1, hb1, hblk1⟩
            case measure => simp [intOf]
          · go_wp2_with (at_builtin; refine Try.app_u8g rfl _ _ rfl _ _ (97 + (bN s k : Int) / 16 - 10) rfl rfl ho hb hblk ?h1 ?h2 ?_; (case h1 => omega); (case h2 => (rw [List.length_append, numsOf_length]; have : ((numsHex (bN s k)).take 0).length ≤ 0 := List.length_take_le _ _; omega)); intro v1 w1 ho1 hb1 hblk1)
            rw [nh0 _ _ _ (by rw [dig_high _ (by omega) h10]; omega)] at ho1
            go_roundw
            case rel => exact ⟨1, by omega, by go_num, ho1, hb1, hblk1⟩
            case measure => simp [intOf]
        · by_cases h10 : bN s k % 16 < 10
          · go_wp2_with (at_builtin; refine Try.app_u8g rfl _ _ rfl _ _ (48 + (bN s k : Int) % 16) rfl rfl ho hb hblk ?h1 ?h2 ?_; (case h1 => omega); (case h2 => (rw [List.length_append, numsOf_length]; have : ((numsHex (bN s k)).take 1).length ≤ 1 := List.length_take_le _ _; omega)); intro v1 w1 ho1 hb1 hblk1)
            rw [nh1 _ _ _ (by rw [dig_low _ h10]; omega)] at ho1
            go_roundw
            case rel => exact ⟨2, by omega, by go_num, ho1, hb1, hblk1⟩
            case measure => simp [intOf]
          · go_wp2_with (at_builtin; refine Try.app_u8g rfl _ _ rfl _ _ (97 + (bN s k : Int) % 16 - 10) rfl rfl ho hb hblk ?h1 ?h2 ?_; (case h1 => omega); (case h2 => (rw [List.length_append, numsOf_length]; have : ((numsHex (bN s k)).take 1).length ≤ 1 := List.length_take_le _ _; omega)); intro v1 w1 ho1 hb1 hblk1)
            rw [nh1 _ _ _ (by rw [dig_high _ (by omega) h10]; omega)] at ho1
            go_roundw
            case rel => exact ⟨2, by omega, by go_num, ho1, hb1, hblk1⟩
            case measure => simp [intOf]
        · rw [show (numsHex (bN s k)).take 2 = numsHex (bN s k) by rfl, ← hexl_snocN s k hlt] at ho
          go_wp2
          go_roundw
          case rel => exact ⟨k + 1, by omega, by go_num, Kd.R_mono ho (fun _ _ => trivial), hb⟩
          case measure => simp [intOf]; omega
    · obtain rfl : k = s.size := by omega
      have hcv := own_string (P := Try.prog) Try.underlying42 Try.underlying5 Try.underlying9 (Kd.own_of_R ho)
      go_wp2
      go_ret
      exact ⟨by rw [str_numsOf, take_all]; rfl, hb⟩
end Go.Proofs.Ytjhgkcbhllomaaa
