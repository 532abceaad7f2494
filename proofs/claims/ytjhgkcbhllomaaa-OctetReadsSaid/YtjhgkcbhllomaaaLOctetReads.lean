/- The law OctetReads: for every input it returns true. -/
import Derived.Test.YtjhgkcbhllomaaaBase
import Derived.Test.YtjhgkcbhllomaaaShelf
import Derived.Test.YtjhgkcbhllomaaaOct
import Derived.Test.YtjhgkcbhllomaaaCWide
import Derived.Test.YtjhgkcbhllomaaaCHex
import Derived.Test.YtjhgkcbhllomaaaCAlive1
import Derived.Test.YtjhgkcbhllomaaaCBytes
import Derived.Test.YtjhgkcbhllomaaaCWhole
import Derived.Test.YtjhgkcbhllomaaaCRefHex
import Derived.Test.YtjhgkcbhllomaaaCRefBytes
import Derived.Test.YtjhgkcbhllomaaaCRefWhole
import Derived.Below
import Derived.Deep.Draws
import Derived.OwnWalk
import Derived.Laws.BytesArg
import Derived.Laws.MakeOwn
import Derived.Laws.OwnMore
import Derived.Deep.OwnRows
import Derived.Tactics
import Derived.Lib.ConvBytes
import Derived.Laws.Slices
import Derived.WalkKit
import Derived.KernelRfl
import Derived.RowKit3
import Derived.Deep.LoopGhost
import Derived.Deep.QuietTactic
import Derived.BigQuiet
import Derived.WideLaws
import Derived.Deep.DeepCutAuto
import Derived.Deep.CutBlock
import Derived.Deep.RegionHeld3
import Derived.Laws.Rows
import Derived.Lib.AppendStr
import Derived.ArgAppend
import Derived.Laws.BitsLemmas
import Derived.RowKit
namespace Go.Proofs.Ytjhgkcbhllomaaa
open Go.RowKit Go.Proofs.YtjhgkcbhllomaaaW.PrintWords Go.Proofs.YtjhgkcbhllomaaaW.PrintLast Go.Proofs.YtjhgkcbhllomaaaW.PrintMore
attribute [local go_sem] max2_int min2_int max_two min_two max_three min_three max_four min_four
set_option linter.unusedVariables false
set_option linter.unusedSimpArgs false
set_option maxHeartbeats 4000000 in
set_option maxRecDepth 100000 in
theorem octetReads_walk (s : ByteArray) (n size : Int) (w : World) (ha : s.size ≤ 140737488351232) (hw : (Lit.int .u64 n).wf = true) (hw2 : (Lit.int .i64 size).wf = true) :
    Calls Try.prog 5 #[.string s, .int .u64 n, .int .i64 size] w fun e w' => e = .returned (.bool true) ∧ Below w.heap.size w w' := by
  have hn : 0 ≤ n := wf_u64_lo hw
  have HN : Hid ((Lit.int .u64 n).wf = true) := hw
  clear hw hw2
  go_enter Try.func5, Try.ntmps5
  by_cases h300 : 300 < s.size
  all_goals go_wp2_with fail
  all_goals first
    | (have _h : 300 < s.size := h300; have fa : (s.extract 0 300).size ≤ 300 := (by rw [ByteArray.size_extract]; omega); generalize s.extract 0 300 = x at *)
    | (have fa : s.size ≤ 300 := (by omega); generalize s = x at *)
  all_goals
    refine (octet_Bytes.spec x _ (by omega)).mono ?_
    rintro e w1 ⟨hA, b1⟩
    rcases hA with ⟨hO, rfl⟩ | ⟨hO, rfl⟩
  all_goals
    go_wp2_with fail
    rcases (show (size < 0 ∨ 8 < size) ∨ (0 ≤ size ∧ size ≤ 8) by omega) with hs | ⟨hs0, hs8⟩
  all_goals
    refine (octet_Wide.spec n size _ hn).mono ?_
    rintro e w2 ⟨rfl, b2⟩
    try (rw [wideS_err (by rw [wideE_arg hs]; decide), wideE_arg hs])
    go_wp2_with fail
    rcases Nat.lt_or_ge 8 x.size with h8 | h8
  all_goals first
    | (refine (octet_Whole.long x _ h8).mono ?_)
    | (refine (octet_Whole.fits x _ h8).mono ?_)
  all_goals
    rintro e w3 ⟨rfl, rfl⟩
    go_wp2_with fail
    refine (ref_Bytes x _ (by omega)).mono ?_
    rintro e w4 ⟨hA, b4⟩
    rcases hA with ⟨hR, rfl⟩ | ⟨hR, y, rfl⟩
  all_goals first | exact absurd hR hO | exact absurd hO hR | skip
  all_goals
    go_wp2_with fail
    refine (octet_Hex.spec x _ (by omega)).mono ?_
    rintro e w5 ⟨rfl, b5⟩
    go_wp2_with fail
    refine (ref_Hex x _ (by omega)).mono ?_
    rintro e w6 ⟨rfl, b6⟩
    go_wp2_with fail
    refine (law01_alive _).mono ?_
    rintro e w7 ⟨rfl, b7⟩
    have bw : Below w.heap.size w w7 := below_step (below_step (below_step (below_step (below_step b1 b2) b4) b5) b6) b7
  all_goals try (rcases hs with hs | hs)
  all_goals go_wp2_with fail
  all_goals try ((with_reducible refine (ref_Whole x _ h8).mono ?_); rintro e w8 ⟨rfl, rfl⟩; go_wp2_with fail)
  all_goals try (go_ret; exact ⟨rfl, bw⟩)
  all_goals
    refine (ref_Wide n size _ HN.out hs8).mono ?_
    rintro e w9 ⟨rfl, b9⟩
    go_wp2_with fail
    refine (ref_Whole _ _ (by rw [strOfNums_size, wideL_length]; omega)).mono ?_
    rintro e w10 ⟨rfl, rfl⟩
    rw [wholeN_wide n hn]
    rcases wide_cases HN.out hs0 hs8 with ⟨f1, f2, f3⟩ | ⟨f1, f2, f3⟩
    all_goals
      rw [f2, f3]
      have F1 := f1
      clear f1 f2 f3
      go_wp2
      go_ret
      exact ⟨rfl, below_step bw b9⟩
end Go.Proofs.Ytjhgkcbhllomaaa
