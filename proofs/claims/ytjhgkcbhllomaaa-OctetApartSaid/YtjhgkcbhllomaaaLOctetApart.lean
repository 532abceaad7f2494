/- The law OctetApart: for every input it returns true. -/
import Derived.Test.YtjhgkcbhllomaaaBase
import Derived.Test.YtjhgkcbhllomaaaShelf
import Derived.Test.YtjhgkcbhllomaaaOct
import Derived.Test.YtjhgkcbhllomaaaCWide
import Derived.Test.YtjhgkcbhllomaaaCHex
import Derived.Test.YtjhgkcbhllomaaaCAlive1
import Derived.Test.YtjhgkcbhllomaaaCSame1
import Derived.Test.YtjhgkcbhllomaaaCFew
import Derived.Test.YtjhgkcbhllomaaaCBind
import Derived.Test.YtjhgkcbhllomaaaTexts
import Derived.Below
import Derived.Deep.Draws
import Derived.OwnWalk
import Derived.Laws.BytesArg
import Derived.Laws.MakeOwn
import Derived.Laws.OwnMore
import Derived.Deep.OwnRows
import Derived.Tactics
import Derived.Lib.ConvBytes
import Derived.Laws.Slices
import Derived.WalkKit
import Derived.KernelRfl
import Derived.RowKit3
import Derived.Deep.LoopGhost
import Derived.Deep.QuietTactic
import Derived.BigQuiet
import Derived.WideLaws
import Derived.Deep.DeepCutAuto
import Derived.Deep.CutBlock
import Derived.Deep.RegionHeld3
import Derived.Laws.Rows
import Derived.Lib.AppendStr
import Derived.ArgAppend
import Derived.Laws.BitsLemmas
import Derived.RowKit
namespace Go.Proofs.Ytjhgkcbhllomaaa
open Go.RowKit Go.Proofs.YtjhgkcbhllomaaaW.PrintWords Go.Proofs.YtjhgkcbhllomaaaW.PrintLast Go.Proofs.YtjhgkcbhllomaaaW.PrintMore
attribute [local go_sem] max2_int min2_int max_two min_two max_three min_three max_four min_four
set_option linter.unusedVariables false
set_option linter.unusedSimpArgs false
set_option maxHeartbeats 4000000 in
set_option maxRecDepth 100000 in
theorem octetApart_walk (A0 : Option Addr) (c0 : Nat) (l0 : List ByteArray) (A1 : Option Addr) (c1 : Nat) (l1 : List ByteArray) (s : ByteArray) (w : World) (rd0 : Kd.string.C w A0 l0.length l0) (ln0 : l0.length ≤ c0) (sz0 : c0 * 16 ≤ 140737488351232) (rd1 : Kd.string.C w A1 l1.length l1) (ln1 : l1.length ≤ c1) (sz1 : c1 * 16 ≤ 140737488351232) (hs : s.size ≤ 140737488351232) :
    Calls Try.prog 4 #[.slice A0 l0.length c0, .slice A1 l1.length c1, .string s] w fun e w' => e = .returned (.bool true) ∧ Below w.heap.size w w' := by
  go_enter Try.func4, Try.ntmps4
  go_wp2_with fail
  refine (law01_few A0 c0 l0 w rd0 ln0).mono ?_
  rintro e w1 ⟨v1, rfl, r1, b1⟩
  obtain ⟨X1, d1, rfl⟩ := Kd.R_slice r1
  obtain ⟨_, n1, C1⟩ := Kd.R_reads' r1
  clear r1
  go_wp2_with fail
  refine (law01_few A1 c1 l1 w1 (Kd.C_below rd1 b1) ln1).mono ?_
  rintro e w2 ⟨v2, rfl, r2, b2⟩
  obtain ⟨X2, d2, rfl⟩ := Kd.R_slice r2
  obtain ⟨_, n2, C2⟩ := Kd.R_reads' r2
  clear r2
  have C1 := Kd.C_below C1 b2
  generalize fewL l0 = l at *
  generalize fewL l1 = m at *
  by_cases h41 : 4096 < s.size
  all_goals go_wp2_with fail
  all_goals first
    | (have _h : 4096 < s.size := h41; have fa : (s.extract 0 4096).size ≤ 4096 := (by rw [ByteArray.size_extract]; omega); generalize s.extract 0 4096 = x at *)
    | (have fa : s.size ≤ 4096 := (by omega); generalize s = x at *)
  all_goals
    have bw := below_step b1 b2
    clear b1 b2 rd0 rd1
    refine (octet_Bind.spec X1 d1 l w2 C1 n1).mono ?_
    rintro e w3 ⟨hA, b3⟩
    replace bw := below_step bw b3
    have C1 := Kd.C_below C1 b3
    have C2 := Kd.C_below C2 b3
    clear b3
    rcases hA with ⟨ml, rfl⟩ | ⟨ml, rfl⟩
  all_goals
    go_wp2_with fail
    refine (octet_Bind.spec X2 d2 m w3 C2 n2).mono ?_
    rintro e w4 ⟨hA, b4⟩
    replace bw := below_step bw b4
    have C1 := Kd.C_below C1 b4
    have C2 := Kd.C_below C2 b4
    clear b4
    rcases hA with ⟨mm, rfl⟩ | ⟨mm, rfl⟩
  all_goals first
    | (have _h1 : mayBind l := ml; have _h2 : mayBind m := mm; skip)
    | (go_wp2_with fail; refine (law01_alive _).mono ?_; rintro e w5 ⟨rfl, b5⟩; go_wp2; go_ret; exact ⟨rfl, below_step bw b5⟩)
  all_goals
    have k1 := ml.1
    go_wp2_with (first | (refine Try.none_str (N := 42) rfl rfl ?hr ?_; (case hr => first | (go_simp; done) | (go_simp; rfl)); intro v5 w5 ho5 hb5) | (at_builtin; refine Try.app_strs rfl (.tmp 42) (.tmp 43) rfl _ [] l X1 _ _ rfl rfl ho5 ?hC hb5 ?hS ?hL ?_; (case hC => exact Kd.C_below C1 hb5); (case hS => exact hb5.size); (case hL => simp <;> omega); intro A6 c6 w6 ho6 hb6) | (at_builtin; refine Try.app_str rfl (.tmp 44) (.tmp 46) rfl _ l x rfl rfl ho6 hb6 ?hS ?hL ?_; (case hS => exact hb6.size); (case hL => omega); intro v7 w7 ho7 hb7; obtain ⟨A7, c7, rfl⟩ := Kd.R_slice ho7))
    obtain ⟨_, n7, C7⟩ := Kd.R_reads' ho7
    have B7 := octet_Bind.spec A7 c7 (l ++ [x]) w7 C7 n7
    rw [List.length_append, List.length_singleton] at B7
    have C1 := Kd.C_below C1 hb7
    have C2 := Kd.C_below C2 hb7
    have bw := below_step bw hb7
    clear hb5 hb6 hb7 ho5 ho6 ho7
    refine B7.mono ?_
    rintro e w8 ⟨hA, b8⟩
    have C1 := Kd.C_below C1 b8
    have C2 := Kd.C_below C2 b8
    have bw := below_step bw b8
    clear b8 B7
    have hS := mayBind_snoc ml fa
    have hO := mayBind_one fa
    have hSz := bindS_size ml
    have hOz := bindS_size hO
    rcases hA with ⟨mk, rfl⟩ | ⟨mk, rfl⟩
  all_goals first
    | (have _h : mayBind (l ++ [x]) := mk; rw [bindS_append])
    | (have h64 : ((l.length : Int) == 64) = true := (by rw [beq_iff_eq]; exact Classical.byContradiction fun hn => mk (hS.2 (fun h => hn (by omega)))))
  all_goals
    go_wp2_with fail
    have B9 := octet_Bind.spec (some ⟨w8.heap.size, 0, none⟩) 1 [x] _ (one_str w8 9 x) (by simp)
    refine B9.mono ?_
    rintro e w9 ⟨hA, b9⟩
    have b9 := below_then (below_alloc (Below.refl _ w8) (.cells #[.string x] 9)) (by simp) b9
    have C1 := Kd.C_below C1 b9
    have C2 := Kd.C_below C2 b9
    have bw := below_step bw b9
    clear b9 B9
    rcases hA with ⟨mo, rfl⟩ | ⟨mo, rfl⟩
  all_goals first | exact absurd hO mo | skip
  all_goals
    go_wp2_with fail
    refine (law01_alive _).mono ?_
    rintro e w10 ⟨rfl, b10⟩
    have C1 := Kd.C_below C1 b10
    have C2 := Kd.C_below C2 b10
    have bw := below_step bw b10
    clear b10
    go_wp2_with fail
    refine (ref_Same X1 X2 d1 d2 l m w10 C1 C2 n1 n2).mono ?_
    rintro e w11 ⟨rfl, b11⟩
    have bw := below_step bw b11.below
    clear b11 C1 C2 hS
    by_cases hlm : l = m
  all_goals first
    | (have _h : l = m := hlm; subst hlm; rw [decide_eq_true rfl]; go_wp2; go_ret; exact ⟨rfl, bw⟩)
    | (have hne := str_ne (fun e => hlm ((bindS_inj ml mm).1 e)); rw [decide_eq_false hlm]; clear hlm; go_wp2; go_ret; exact ⟨rfl, bw⟩)
end Go.Proofs.Ytjhgkcbhllomaaa
