-- made by plus.py of this session, for this seat
import Derived.Test.YtjhgkcbhllomaaaProg
import Derived.Below
import Derived.Deep.Draws
import Derived.Deep.AppendLies
import Derived.Maps.AppendAt
import Derived.OwnWalk
import Derived.Laws.BytesArg
import Derived.Laws.MakeOwn
import Derived.Laws.OwnMore
import Derived.Deep.OwnRows
import Derived.Tactics
import Derived.Lib.ConvBytes
import Derived.Laws.Slices
import Derived.WalkKit
import Derived.KernelRfl
import Derived.RowKit3
import Derived.Deep.LoopGhost
import Derived.Deep.QuietTactic
import Derived.BigQuiet
import Derived.WideLaws
import Derived.Deep.DeepCutAuto
import Derived.Deep.CutBlock
import Derived.Deep.RegionHeld3
import Derived.Laws.Rows
import Derived.Lib.AppendStr
import Derived.ArgAppend
import Derived.Laws.IdiomCopy
import Derived.OrdersHeld
import Derived.Laws.BitsLemmas
import Derived.RowKit
import Derived.Test.YtjhgkcbhllomaaaWWords
import Derived.Test.YtjhgkcbhllomaaaWLast
import Derived.Test.YtjhgkcbhllomaaaWTab
import Derived.Test.YtjhgkcbhllomaaaWFour
import Derived.Test.YtjhgkcbhllomaaaWQPut
import Derived.Test.YtjhgkcbhllomaaaWApart
import Derived.Test.YtjhgkcbhllomaaaWArr
import Derived.Test.YtjhgkcbhllomaaaWZeros
import Derived.Test.YtjhgkcbhllomaaaWFoot
import Derived.Test.YtjhgkcbhllomaaaWKept
import Derived.Test.YtjhgkcbhllomaaaWShare
import Derived.Test.YtjhgkcbhllomaaaWN
import Derived.Test.YtjhgkcbhllomaaaWFootNe
import Derived.Test.YtjhgkcbhllomaaaWAt
import Derived.Test.YtjhgkcbhllomaaaWEqStruct
import Derived.Test.YtjhgkcbhllomaaaWRepsOne
import Derived.Test.YtjhgkcbhllomaaaWInv
import Derived.Test.YtjhgkcbhllomaaaWInvWords
import Derived.Test.YtjhgkcbhllomaaaWGuard
import Derived.Test.YtjhgkcbhllomaaaWNEv
import Derived.Test.YtjhgkcbhllomaaaWMore
namespace Go.Proofs.Ytjhgkcbhllomaaa.P
open Go.RowKit Go.Proofs.YtjhgkcbhllomaaaW.PrintWords Go.Proofs.YtjhgkcbhllomaaaW.PrintLast Go.Proofs.YtjhgkcbhllomaaaW.PrintMore
attribute [local go_sem] max2_int min2_int max_two min_two max_three min_three max_four min_four   -- for this text's walks alone
set_option linter.unusedVariables false
set_option linter.unusedSimpArgs false



def errW : Option Int → Value
  | none => .nilIface
  | some c => .iface 0 (.int .i64 c)
theorem errW_none : errW none = .nilIface := rfl
theorem errW_some (c : Int) : errW (some c) = .iface 0 (.int .i64 c) := rfl

theorem info5 : (Try.prog.info? 5).map (fun i => (i.zero, i.size, i.bytes)) = some (some (.int .u8 0), 1, 1) := by kernel_rfl
-- the values' own types

end Go.Proofs.Ytjhgkcbhllomaaa.P
