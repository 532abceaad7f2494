/- The law OctetParts: for every input it returns true. -/
import Derived.Test.YtjhgkcbhllomaaaBase
import Derived.Test.YtjhgkcbhllomaaaShelf
import Derived.Test.YtjhgkcbhllomaaaOct
import Derived.Test.YtjhgkcbhllomaaaCWide
import Derived.Test.YtjhgkcbhllomaaaCHex
import Derived.Test.YtjhgkcbhllomaaaCAlive1
import Derived.Below
import Derived.Deep.Draws
import Derived.OwnWalk
import Derived.Laws.BytesArg
import Derived.Laws.MakeOwn
import Derived.Laws.OwnMore
import Derived.Deep.OwnRows
import Derived.Tactics
import Derived.Lib.ConvBytes
import Derived.Laws.Slices
import Derived.WalkKit
import Derived.KernelRfl
import Derived.RowKit3
import Derived.Deep.LoopGhost
import Derived.Deep.QuietTactic
import Derived.BigQuiet
import Derived.WideLaws
import Derived.Deep.DeepCutAuto
import Derived.Deep.CutBlock
import Derived.Deep.RegionHeld3
import Derived.Laws.Rows
import Derived.Lib.AppendStr
import Derived.ArgAppend
import Derived.Laws.BitsLemmas
import Derived.RowKit
namespace Go.Proofs.Ytjhgkcbhllomaaa
open Go.RowKit Go.Proofs.YtjhgkcbhllomaaaW.PrintWords Go.Proofs.YtjhgkcbhllomaaaW.PrintLast Go.Proofs.YtjhgkcbhllomaaaW.PrintMore
attribute [local go_sem] max2_int min2_int max_two min_two max_three min_three max_four min_four
set_option linter.unusedVariables false
set_option linter.unusedSimpArgs false
set_option maxHeartbeats 1000000 in
set_option maxRecDepth 100000 in
theorem octetParts_walk (a b : ByteArray) (n size : Int) (w : World) (ha : a.size ≤ 140737488351232) (hb : b.size ≤ 140737488351232) (hw : (Lit.int .u64 n).wf = true) (hw2 : (Lit.int .i64 size).wf = true) :
    Calls Try.prog 3 #[.string a, .string b, .int .u64 n, .int .i64 size] w fun e w' => e = .returned (.bool true) ∧ Below w.heap.size w w' := by
  have hn : 0 ≤ n := wf_u64_lo hw
  have hs0 := wf_i64_lo hw2
  have hs1 := wf_i64_hi hw2
  clear hw hw2
  go_enter Try.func3, Try.ntmps3
  go_wp2
  go_quiet (fail)
  have fa := cut_size a 200
  have fb := cut_size b 200
  generalize a.extract 0 (if 200 < (a.size : Int) then 200 else (a.size : Int)).toNat = x at *
  generalize b.extract 0 (if 200 < (b.size : Int) then 200 else (b.size : Int)).toNat = y at *
  generalize (if 200 < (a.size : Int) then 200 else (a.size : Int)) = qa at *
  generalize (if 200 < (b.size : Int) then 200 else (b.size : Int)) = qb at *
  have t0 := tmod8_lo size
  have t1 := tmod8_hi size
  go_wp2_with fail
  have q0 : 0 ≤ size.tmod 8 % 8 := by omega
  have q7 : size.tmod 8 % 8 ≤ 7 := by omega
  refine (octet_Wide.spec n _ _ hn).mono ?_
  rintro e w1 ⟨rfl, b1⟩
  go_wp2_with fail
  refine (octet_Wide.spec n _ _ hn).mono ?_
  rintro e w2 ⟨rfl, b2⟩
  go_wp2_with fail
  refine (octet_Hex.spec _ _ (by rw [ByteArray.size_append]; omega)).mono ?_
  rintro e w3 ⟨rfl, b3⟩
  rw [hexS_append]
  have zx := hexS_size x
  have zy := hexS_size y
  go_wp2_with fail
  refine (octet_Hex.spec _ _ (by omega)).mono ?_
  rintro e w4 ⟨rfl, b4⟩
  go_wp2_with fail
  refine (octet_Hex.spec _ _ (by omega)).mono ?_
  rintro e w5 ⟨rfl, b5⟩
  go_wp2_with fail
  refine (octet_Hex.spec _ _ (by omega)).mono ?_
  rintro e w6 ⟨rfl, b6⟩
  have bw : Below w.heap.size w w6 := below_step (below_step (below_step (below_step (below_step (below_step (pw_below_drewN (Below.refl _ _) _) b1) b2) b3) b4) b5) b6
  by_cases hE : wideE n (size.tmod 8 % 8) = 0
  · have hE2 := wideE_more q0 q7 hE
    have zs := wideS_size q0 q7 hE
    rw [wideS_more q0 q7 hE, hE2, hE]
    clear hE hE2
    go_wp2_with fail
    refine (law01_alive _).mono ?_
    rintro e w7 ⟨rfl, b7⟩
    go_wp2
    go_ret
    exact ⟨rfl, below_step bw b7⟩
  · have hE1 : (wideE n (size.tmod 8 % 8) == 0) = false := by simp [hE]
    have hE2 : (wideE n (size.tmod 8 % 8) != 0) = true := by simp [hE]
    clear hE
    generalize wideE n (size.tmod 8 % 8) = e1 at *
    by_cases hF : wideE n (size.tmod 8 % 8 + 1) = 0
    · rw [hF]
      clear hF
      go_wp2_with fail
      refine (law01_alive _).mono ?_
      rintro e w7 ⟨rfl, b7⟩
      go_wp2
      go_ret
      exact ⟨rfl, below_step bw b7⟩
    · have hF1 : (wideE n (size.tmod 8 % 8 + 1) != 0) = true := by simp [hF]
      clear hF
      generalize wideE n (size.tmod 8 % 8 + 1) = e2 at *
      go_wp2_with fail
      refine (law01_alive _).mono ?_
      rintro e w7 ⟨rfl, b7⟩
      go_wp2
      go_ret
      exact ⟨rfl, below_step bw b7⟩
end Go.Proofs.Ytjhgkcbhllomaaa
