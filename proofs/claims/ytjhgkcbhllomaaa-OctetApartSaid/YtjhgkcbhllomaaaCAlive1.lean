/- Layer 1's 'alive': true. -/
import Derived.Test.YtjhgkcbhllomaaaBase
import Derived.Test.YtjhgkcbhllomaaaShelf
import Derived.Test.YtjhgkcbhllomaaaOct
import Derived.Test.YtjhgkcbhllomaaaCWide
import Derived.Test.YtjhgkcbhllomaaaCHex
import Derived.Below
import Derived.Deep.Draws
import Derived.OwnWalk
import Derived.Laws.BytesArg
import Derived.Laws.MakeOwn
import Derived.Laws.OwnMore
import Derived.Deep.OwnRows
import Derived.Tactics
import Derived.Lib.ConvBytes
import Derived.Laws.Slices
import Derived.WalkKit
import Derived.KernelRfl
import Derived.RowKit3
import Derived.Deep.LoopGhost
import Derived.Deep.QuietTactic
import Derived.BigQuiet
import Derived.WideLaws
import Derived.Deep.DeepCutAuto
import Derived.Deep.CutBlock
import Derived.Deep.RegionHeld3
import Derived.Laws.Rows
import Derived.Lib.AppendStr
import Derived.ArgAppend
import Derived.Laws.BitsLemmas
import Derived.RowKit
namespace Go.Proofs.Ytjhgkcbhllomaaa
open Go.RowKit Go.Proofs.YtjhgkcbhllomaaaW.PrintWords Go.Proofs.YtjhgkcbhllomaaaW.PrintLast Go.Proofs.YtjhgkcbhllomaaaW.PrintMore
attribute [local go_sem] max2_int min2_int max_two min_two max_three min_three max_four min_four
set_option linter.unusedVariables false
set_option linter.unusedSimpArgs false
set_option maxHeartbeats 1000000 in
set_option maxRecDepth 100000 in
theorem law01_alive (w : World) : Calls Try.prog 8 #[] w fun e w' => e = .returned (.bool true) ∧ Below w.heap.size w w' := by
  go_enter Try.func8, Try.ntmps8
  go_wp2_with fail
  refine (octet_Wide.spec _ _ _ (by decide)).mono ?_
  rintro e w1 ⟨rfl, b1⟩
  rw [show wideS 258 2 = ⟨#[2, 1]⟩ by decide +kernel, show wideE 258 2 = 0 by decide +kernel]
  go_wp2_with fail
  refine (octet_Hex.spec _ _ (by decide)).mono ?_
  rintro e w2 ⟨rfl, b2⟩
  rw [show hexS (ByteArray.mk #[2, 1]) = ByteArray.mk #[48, 50, 48, 49] by decide +kernel]
  go_wp2
  go_ret
  exact ⟨rfl, below_step b1 b2⟩
end Go.Proofs.Ytjhgkcbhllomaaa
