/- The contract of octet.Hex. -/
import Derived.Test.YtjhgkcbhllomaaaBase
import Derived.Test.YtjhgkcbhllomaaaShelf
import Derived.Test.YtjhgkcbhllomaaaOct
import Derived.Test.YtjhgkcbhllomaaaBuild
import Derived.Below
import Derived.Deep.Draws
import Derived.OwnWalk
import Derived.Laws.BytesArg
import Derived.Laws.MakeOwn
import Derived.Laws.OwnMore
import Derived.Deep.OwnRows
import Derived.Tactics
import Derived.Lib.ConvBytes
import Derived.Laws.Slices
import Derived.WalkKit
import Derived.KernelRfl
import Derived.RowKit3
import Derived.Deep.LoopGhost
import Derived.Deep.QuietTactic
import Derived.BigQuiet
import Derived.WideLaws
import Derived.Deep.DeepCutAuto
import Derived.Deep.CutBlock
import Derived.Deep.RegionHeld3
import Derived.Laws.Rows
import Derived.Lib.AppendStr
import Derived.ArgAppend
import Derived.Laws.BitsLemmas
import Derived.RowKit
namespace Go.Proofs.Ytjhgkcbhllomaaa
open Go.RowKit Go.Proofs.YtjhgkcbhllomaaaW.PrintWords Go.Proofs.YtjhgkcbhllomaaaW.PrintLast Go.Proofs.YtjhgkcbhllomaaaW.PrintMore
attribute [local go_sem] max2_int min2_int max_two min_two max_three min_three max_four min_four
set_option linter.unusedVariables false
set_option linter.unusedSimpArgs false
set_option maxHeartbeats 1000000 in
set_option maxRecDepth 100000 in
theorem octet_Hex.spec (a0 : ByteArray) (w : World) (hs : a0.size ≤ 35184372088832) :
    Calls Try.prog 7 #[.string a0] w fun e w' => e = .returned (.string (hexS a0)) ∧ Below w.heap.size w w' := by
  go_enter Try.func7, Try.ntmps7
  go_wp2
  go_loopw [7] (fun i wr => ∃ k : Nat, k ≤ a0.size ∧ i = .int .i64 k ∧ Lib.IsBuilderF 45 5 w.heap.size w.heap.size (Lib.byteCells (hexl (a0.data.toList.take k))) wr ∧ Below w.heap.size w wr ∧ w.heap.size < wr.heap.size) (fun i _ => a0.size - (intOf i).toNat)
  case atStart =>
    refine ⟨0, Nat.zero_le _, rfl, (Lib.IsBuilderF.of (Lib.fresh_isBuilder 45 5 w)), (Below.refl _ w).alloc (Nat.le_refl _) _, by simp⟩
  case round =>
    obtain ⟨k, hk, rfl, hI, hbw, hsz⟩ := hrel
    by_cases hlt : k < a0.size
    · have hl := hexl_length (a0.data.toList.take k)
      have hl2 : (a0.data.toList.take k).length ≤ k := List.length_take_le _ _
      have hc : a0[k].toNat < 256 := a0[k].toNat_lt
      go_wp2_with fail
      refine (Try.WriteByte_k w.heap.size w.heap.size _ _ _ hI (by rw [Lib.byteCells_length]; omega) (by omega)).mono ?_
      rintro e W1 ⟨rfl, h1, b1, k1⟩
      rw [dig_get] at h1
      have hz1 := b1.size
      go_wp2_with fail
      refine (Try.WriteByte_k w.heap.size w.heap.size _ _ _ (Or.inr h1) (by rw [List.length_append, Lib.byteCells_length]; simp only [List.length_cons, List.length_nil]; omega) (by omega)).mono ?_
      rintro e W2 ⟨rfl, h2, b2, k2⟩
      rw [dig_get] at h2
      have hz2 := b2.size
      go_wp2
      go_roundw
      case rel =>
        refine ⟨k + 1, by omega, by go_num, ?_, (hbw.trans b1).trans b2, by omega⟩
        rw [hexl_snoc a0 k hlt, Lib.byteCells_append, Lib.byteCells_append]
        exact Or.inr h2
      case measure => simp [intOf]; omega
    · obtain rfl : k = a0.size := by omega
      go_wp2_with fail
      rw [show a0.data.toList.take a0.size = a0.data.toList from List.take_of_length_le (by simp)] at hI
      refine (Try.Builder_String_any_k w.heap.size w.heap.size _ _ hI (by omega)).mono ?_
      rintro e W1 ⟨rfl, _, b1, _⟩
      go_wp2
      go_ret
      exact ⟨rfl, hbw.trans b1⟩
end Go.Proofs.Ytjhgkcbhllomaaa
