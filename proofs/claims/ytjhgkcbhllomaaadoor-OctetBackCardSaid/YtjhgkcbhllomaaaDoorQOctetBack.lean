/- The row of the law OctetBack: for every input that the row speaks of the law returns true; each argument reads behind the call as it read before. -/
import Derived.Test.YtjhgkcbhllomaaaDoorProg
import Derived.Test.YtjhgkcbhllomaaaDoorQOctetBackB
import Derived.Test.YtjhgkcbhllomaaaDoorQOctetBackC
import Derived.KernelRfl
import Derived.Below
import Derived.OwnWalk
import Derived.Orders
import Derived.WalkKit
import Derived.Laws.Slices
import Derived.LaidMore
import Derived.FnData
import Derived.Test.YtjhgkcbhllomaaaDoorRows
import Derived.Test.YtjhgkcbhllomaaaDoorTie
import Derived.Test.YtjhgkcbhllomaaaDoorCards
import Derived.ProofKit
import Derived.OpenShut
import Derived.ShutString
import Derived.ChangeOld
import Derived.SizedLaws
import Derived.SliceStrings
import Derived.Carry
import Derived.Stop.Joined
import Derived.SevenTiedAt
import Derived.Test.YtjhgkcbhllomaaaDoorWSized
section
/- Go functions compute what Lean functions do. -/
namespace Go.Proofs.YtjhgkcbhllomaaaDoor.V
open Go Go.RowKit
set_option linter.unusedVariables false
set_option linter.unusedSimpArgs false
set_option maxHeartbeats 1000000
-- 32 consignor/consignorref01.Bind
def c32r0 : List Opn := [
  ⟨(some 2), none, .mv (.c (.s (.d (.str []))))⟩]
def c32r1 : List Opn := [
  ⟨(some 3), none, .mv (.c (.s (.d (.str []))))⟩]
def c32r2 : List Opn := [
  ⟨(some 6), none, .mv (.t 0)⟩, 
  ⟨(some 7), none, .len (.sl 0) (.t 6)⟩, 
  ⟨(some 8), none, .mv (.c (.s (.d (.int .i64 0))))⟩]
def c32r3 : List Opn := [
  ⟨(some 9), none, .bin .lss (.t 8) (.t 7)⟩]
def c32r4 : List Opn := [
  ⟨(some 10), none, .iadr (.sl 1) (.t 6) (.t 8)⟩, 
  ⟨(some 11), none, .load false 1 (.t 10)⟩, 
  ⟨(some 5), none, .mv (.t 11)⟩]
def c32r5 : List Opn := [
  ⟨(some 12), none, .mv (.t 3)⟩, 
  ⟨(some 13), none, .mv (.t 5)⟩, 
  ⟨(some 14), none, .len .str (.t 13)⟩, 
  ⟨(some 15), none, .cv (.toInt .u64) (.t 14)⟩, 
  ⟨(some 16), none, .call (.fn 51) [(.t 15), (.c (.s (.d (.int .i64 2))))]⟩, 
  ⟨(some 17), none, .bin .add (.t 12) (.t 16)⟩, 
  ⟨(some 18), none, .mv (.t 5)⟩, 
  ⟨(some 19), none, .bin .add (.t 17) (.t 18)⟩, 
  ⟨(some 3), none, .mv (.t 19)⟩]
def c32r6 : List Opn := [
  ⟨(some 20), none, .bin .add (.t 8) (.c (.s (.d (.int .i64 1))))⟩, 
  ⟨(some 8), none, .mv (.t 20)⟩]
def c32l7 : C := .seq (.reg c32r3 none [3, 6, 7, 8, 9]) (.seq (.cond (.t 9) (.skip) (.exit 0)) (.seq (.blk 1 (.seq (.reg c32r4 none [3, 5, 6, 7, 8]) (.reg c32r5 none [3, 6, 7, 8]))) (.reg c32r6 none [3, 6, 7, 8])))
def c32r7 : List Opn := [
  ⟨(some 21), none, .mv (.t 3)⟩, 
  ⟨(some 2), none, .mv (.t 21)⟩]
def c32 : C := .seq (.reg c32r0 none [0]) (.seq (.reg c32r1 none [0, 3]) (.seq (.seq (.reg c32r2 none [3, 6, 7, 8]) (.blk 0 (.loop c32l7))) (.seq (.reg c32r7 none [2]) (.ret))))
def k32 : List (Nat × List Nat) := [(7, [2]), (6, [3, 6, 7, 8]), (5, [3, 6, 7, 8]), (4, [3, 5, 6, 7, 8]), (3, [3, 6, 7, 8, 9]), (2, [3, 6, 7, 8]), (1, [0, 3]), (0, [0])]
theorem cc32 : (Tryd.f32.body).bind (cC Tryd.prog 22 k32) = some c32 := by kernel_rfl
def rv32 : List RV := [.t 2]
theorem cr32 : cRVs Tryd.prog Tryd.f32.results.toList = some rv32 := by kernel_rfl
theorem f_ref01_Bind_l7_ok (l : (List Str)) (y_ : Str) (R_ : St → Prop) (hR : (Ret Tryd.prog glP [] rv32 (.b (.s (.d (.str y_))))) = R_) : ∀ (m_ : Nat) (out : Str) (v8 : Int) (res_ : Str × Int) (h : f_ref01_Bind_l7 l m_ out v8 = some res_) (k_ : List It) (hx : ∀ s_ : Str × Int, res_ = s_ → W Tryd.prog glP 22 k_ ⟨lkT [(3, .b (.s (.d (.str s_.1)))), (6, .b (.s (.d (.sl (l.map eS))))), (7, .b (.s (.d (.int .i64 (l.length : Int))))), (8, .b (.s (.d (.int .i64 s_.2))))], lkG []⟩ R_), W Tryd.prog glP 22 (.c c32l7 :: .lp c32l7 :: .blk 0 :: k_) ⟨lkT [(3, .b (.s (.d (.str out)))), (6, .b (.s (.d (.sl (l.map eS))))), (7, .b (.s (.d (.int .i64 (l.length : Int))))), (8, .b (.s (.d (.int .i64 v8))))], lkG []⟩ R_ := by
  intro m_; induction m_ with
  | zero => intro out v8 res_ h; rw [f_ref01_Bind_l7.eq_1] at h; cases h
  | succ m_ ih =>
    intro out v8 res_ h k_ hx; rw [f_ref01_Bind_l7.eq_2] at h; refine W.cdef c32l7.eq_1 ?_
    refine .seq ?_
    refine Rw.walk ?_
    simp only [wz, wd, ws, Nat.reduceAdd, Nat.reduceSub, Nat.reduceMul, Nat.reduceLeDiff, Nat.reduceEqDiff, Nat.reduceLT, Nat.reduceBEq, reduceIte, reduceCtorEq, Int.reduceToNat, Nat.reduceShiftRight, Nat.reduceAnd, Nat.reduceBneDiff, Nat.reduceBNe, c32r3, semI.eq_10, semI.eq_11, semI.eq_3, semI.eq_5, semI.eq_7]
    refine .seq ?_
    refine .cond (p := (decide (v8 < (l.length : Int)))) (by first | rfl | simp only [wz, wd, ws, Nat.reduceAdd, Nat.reduceSub, Nat.reduceMul, Nat.reduceLeDiff, Nat.reduceEqDiff, Nat.reduceLT, Nat.reduceBEq, reduceIte, reduceCtorEq, Int.reduceToNat, Nat.reduceShiftRight, Nat.reduceAnd, Nat.reduceBneDiff, Nat.reduceBNe]) (fun h1 => ?_) (fun h1 => ?_)
    · rw [ite_t h1] at h
      refine .skip ?_
      refine .seq ?_
      refine .blk ?_
      refine .seq ?_
      refine Rw.walk ?_
      simp only [wz, wd, ws, Nat.reduceAdd, Nat.reduceSub, Nat.reduceMul, Nat.reduceLeDiff, Nat.reduceEqDiff, Nat.reduceLT, Nat.reduceBEq, reduceIte, reduceCtorEq, Int.reduceToNat, Nat.reduceShiftRight, Nat.reduceAnd, Nat.reduceBneDiff, Nat.reduceBNe, c32r4, semI.eq_10, semI.eq_11, semI.eq_3, semI.eq_5, semI.eq_7]
      obtain ⟨x, e1, h⟩ := Option.bind_eq_some_iff.1 h
      refine Go1.of (sem_iadr eS_len e1 (by rfl) (by rfl)) ?_
      simp only [wz, wd, ws, Nat.reduceAdd, Nat.reduceSub, Nat.reduceMul, Nat.reduceLeDiff, Nat.reduceEqDiff, Nat.reduceLT, Nat.reduceBEq, reduceIte, reduceCtorEq, Int.reduceToNat, Nat.reduceShiftRight, Nat.reduceAnd, Nat.reduceBneDiff, Nat.reduceBNe, c32r4, semI.eq_10, semI.eq_11, semI.eq_3, semI.eq_5, semI.eq_7]
      refine Rw.walk ?_
      simp only [wz, wd, ws, Nat.reduceAdd, Nat.reduceSub, Nat.reduceMul, Nat.reduceLeDiff, Nat.reduceEqDiff, Nat.reduceLT, Nat.reduceBEq, reduceIte, reduceCtorEq, Int.reduceToNat, Nat.reduceShiftRight, Nat.reduceAnd, Nat.reduceBneDiff, Nat.reduceBNe, c32r5, semI.eq_10, semI.eq_11, semI.eq_3, semI.eq_5, semI.eq_7]
      obtain ⟨t, e2, h⟩ := Option.bind_eq_some_iff.1 h
      refine call_fun [] false ⟨trivial, trivial, trivial, trivial⟩ rfl ?_ (f_ref01_Wide_ok _ _ _ e2) (fun _ => rfl) (fun i hi => by cases hi) ?_
      · simp only [wz, wd, ws, Nat.reduceAdd, Nat.reduceSub, Nat.reduceMul, Nat.reduceLeDiff, Nat.reduceEqDiff, Nat.reduceLT, Nat.reduceBEq, reduceIte, reduceCtorEq, Int.reduceToNat, Nat.reduceShiftRight, Nat.reduceAnd, Nat.reduceBneDiff, Nat.reduceBNe]
      simp only [wz, wd, ws, Nat.reduceAdd, Nat.reduceSub, Nat.reduceMul, Nat.reduceLeDiff, Nat.reduceEqDiff, Nat.reduceLT, Nat.reduceBEq, reduceIte, reduceCtorEq, Int.reduceToNat, Nat.reduceShiftRight, Nat.reduceAnd, Nat.reduceBneDiff, Nat.reduceBNe, c32r5, semI.eq_10, semI.eq_11, semI.eq_3, semI.eq_5, semI.eq_7]
      obtain ⟨g3, h⟩ := gd_iff.1 h
      obtain ⟨g4, h⟩ := gd_iff.1 h
      repeat (refine And.intro ?_ ?_; · first | omega | (intro q; simp only [wz, wd, ws, Nat.reduceAdd, Nat.reduceSub, Nat.reduceMul, Nat.reduceLeDiff, Nat.reduceEqDiff, Nat.reduceLT, Nat.reduceBEq, reduceIte, reduceCtorEq, Int.reduceToNat, Nat.reduceShiftRight, Nat.reduceAnd, Nat.reduceBneDiff, Nat.reduceBNe, q]; done))
      refine .eblk ?_
      refine Rw.walk ?_
      simp only [wz, wd, ws, Nat.reduceAdd, Nat.reduceSub, Nat.reduceMul, Nat.reduceLeDiff, Nat.reduceEqDiff, Nat.reduceLT, Nat.reduceBEq, reduceIte, reduceCtorEq, Int.reduceToNat, Nat.reduceShiftRight, Nat.reduceAnd, Nat.reduceBneDiff, Nat.reduceBNe, c32r6, semI.eq_10, semI.eq_11, semI.eq_3, semI.eq_5, semI.eq_7]
      refine .lp ?_
      refine .weak (Imp.co [] _ _ ?_ ?_ ?_ ?_ ?_) (ih ((out ++ t) ++ x) (IntKind.i64.wrap (v8 + 1)) _ h k_ hx) <;> simp only [wz, wd, ws, Nat.reduceAdd, Nat.reduceSub, Nat.reduceMul, Nat.reduceLeDiff, Nat.reduceEqDiff, Nat.reduceLT, Nat.reduceBEq, reduceIte, reduceCtorEq, Int.reduceToNat, Nat.reduceShiftRight, Nat.reduceAnd, Nat.reduceBneDiff, Nat.reduceBNe, wi, er_nil]
    · rw [ite_f h1] at h
      refine .exit rfl ?_
      obtain rfl := Option.some.inj h
      refine .weak (Imp.co [] _ _ ?_ ?_ ?_ ?_ ?_) (hx _ rfl) <;> simp only [wz, wd, ws, Nat.reduceAdd, Nat.reduceSub, Nat.reduceMul, Nat.reduceLeDiff, Nat.reduceEqDiff, Nat.reduceLT, Nat.reduceBEq, reduceIte, reduceCtorEq, Int.reduceToNat, Nat.reduceShiftRight, Nat.reduceAnd, Nat.reduceBneDiff, Nat.reduceBNe, wi, er_nil]
theorem f_ref01_Bind_ok (l : (List Str)) (y_ : Str) (h : f_ref01_Bind l = some y_) : Fun Tryd.prog glP 32 [.b (.s (.d (.sl (l.map eS))))] (.b (.s (.d (.str y_)))) := by
  refine fun_walk [] Tryd.func32 Tryd.ntmps32 cc32 cr32 (by kernel_rfl) (by simp only [List.length_cons, List.length_nil]; decide) ?_
  generalize hR : Ret _ _ _ _ _ = R_
  simp only [wz, wd, ws, Nat.reduceAdd, Nat.reduceSub, Nat.reduceMul, Nat.reduceLeDiff, Nat.reduceEqDiff, Nat.reduceLT, Nat.reduceBEq, reduceIte, reduceCtorEq, Int.reduceToNat, Nat.reduceShiftRight, Nat.reduceAnd, Nat.reduceBneDiff, Nat.reduceBNe]
  unfold f_ref01_Bind at h; unfold c32
  refine .seq ?_
  refine Rw.walk ?_
  simp only [wz, wd, ws, Nat.reduceAdd, Nat.reduceSub, Nat.reduceMul, Nat.reduceLeDiff, Nat.reduceEqDiff, Nat.reduceLT, Nat.reduceBEq, reduceIte, reduceCtorEq, Int.reduceToNat, Nat.reduceShiftRight, Nat.reduceAnd, Nat.reduceBneDiff, Nat.reduceBNe, c32r0, semI.eq_10, semI.eq_11, semI.eq_3, semI.eq_5, semI.eq_7]
  refine .seq ?_
  refine Rw.walk ?_
  simp only [wz, wd, ws, Nat.reduceAdd, Nat.reduceSub, Nat.reduceMul, Nat.reduceLeDiff, Nat.reduceEqDiff, Nat.reduceLT, Nat.reduceBEq, reduceIte, reduceCtorEq, Int.reduceToNat, Nat.reduceShiftRight, Nat.reduceAnd, Nat.reduceBneDiff, Nat.reduceBNe, c32r1, semI.eq_10, semI.eq_11, semI.eq_3, semI.eq_5, semI.eq_7]
  refine .seq ?_
  refine .seq ?_
  refine Rw.walk ?_
  simp only [wz, wd, ws, Nat.reduceAdd, Nat.reduceSub, Nat.reduceMul, Nat.reduceLeDiff, Nat.reduceEqDiff, Nat.reduceLT, Nat.reduceBEq, reduceIte, reduceCtorEq, Int.reduceToNat, Nat.reduceShiftRight, Nat.reduceAnd, Nat.reduceBneDiff, Nat.reduceBNe, c32r2, semI.eq_10, semI.eq_11, semI.eq_3, semI.eq_5, semI.eq_7]
  refine .blk ?_
  obtain ⟨s, hf, h⟩ := Option.bind_eq_some_iff.1 h
  refine .loop (.weak (Imp.co [] _ _ ?c1 ?c2 ?c3 ?c4 ?c5) (f_ref01_Bind_l7_ok l _ _ hR _ _ _ _ hf _ ?_))
  case c1 | c2 | c3 | c4 | c5 => simp only [wz, wd, ws, Nat.reduceAdd, Nat.reduceSub, Nat.reduceMul, Nat.reduceLeDiff, Nat.reduceEqDiff, Nat.reduceLT, Nat.reduceBEq, reduceIte, reduceCtorEq, Int.reduceToNat, Nat.reduceShiftRight, Nat.reduceAnd, Nat.reduceBneDiff, Nat.reduceBNe, wi, er_nil]
  · intro s_ hs; subst hs
    refine .seq ?_
    refine Rw.walk ?_
    simp only [wz, wd, ws, Nat.reduceAdd, Nat.reduceSub, Nat.reduceMul, Nat.reduceLeDiff, Nat.reduceEqDiff, Nat.reduceLT, Nat.reduceBEq, reduceIte, reduceCtorEq, Int.reduceToNat, Nat.reduceShiftRight, Nat.reduceAnd, Nat.reduceBneDiff, Nat.reduceBNe, c32r7, semI.eq_10, semI.eq_11, semI.eq_3, semI.eq_5, semI.eq_7]
    obtain rfl := Option.some.inj h
    refine .ret ?_
    rw [← hR]
    simp only [wz, wd, ws, Nat.reduceAdd, Nat.reduceSub, Nat.reduceMul, Nat.reduceLeDiff, Nat.reduceEqDiff, Nat.reduceLT, Nat.reduceBEq, reduceIte, reduceCtorEq, Int.reduceToNat, Nat.reduceShiftRight, Nat.reduceAnd, Nat.reduceBneDiff, Nat.reduceBNe, rv32]
-- 7 consignor/consignorlaw01.OctetBinds
def c7r0 : List Opn := [
  ⟨(some 4), none, .mv (.c (.s (.d (.bool false))))⟩]
def c7r1 : List Opn := [
  ⟨(some 11), none, .mv (.t 0)⟩, 
  ⟨(some 12), none, .call (.fn 25) [(.t 11)]⟩, 
  ⟨(some 13), none, .mv (.t 1)⟩, 
  ⟨(some 14), none, .mv (.t 1)⟩, 
  ⟨(some 15), none, .len .str (.t 14)⟩, 
  ⟨(some 16), none, .mm false (.t 15) (.c (.s (.d (.int .i64 9000))))⟩, 
  ⟨(some 17), none, .slc .str (.t 13) none (some (.t 16)) none⟩, 
  ⟨(some 0), none, .mv (.t 12)⟩, 
  ⟨(some 1), none, .mv (.t 17)⟩]
def c7r2 : List Opn := [
  ⟨(some 19), none, .mv (.t 0)⟩, 
  ⟨(some 20), none, .call (.fn 26) [(.t 19)]⟩, 
  ⟨(some 18), none, .mv (.t 20)⟩, 
  ⟨(some 21), none, .ext (.t 18) 0⟩, 
  ⟨(some 22), none, .ext (.t 18) 1⟩, 
  ⟨(some 5), none, .mv (.t 21)⟩, 
  ⟨(some 6), none, .mv (.t 22)⟩]
def c7r3 : List Opn := [
  ⟨(some 24), none, .mv (.t 1)⟩, 
  ⟨(some 25), none, .call (.fn 27) [(.t 24)]⟩, 
  ⟨(some 23), none, .mv (.t 25)⟩, 
  ⟨(some 26), none, .ext (.t 23) 0⟩, 
  ⟨(some 27), none, .ext (.t 23) 1⟩, 
  ⟨(some 7), none, .mv (.t 26)⟩, 
  ⟨(some 8), none, .mv (.t 27)⟩]
def c7r4 : List Opn := [
  ⟨(some 29), none, .mv (.t 1)⟩, 
  ⟨(some 30), none, .call (.fn 28) [(.t 29)]⟩, 
  ⟨(some 28), none, .mv (.t 30)⟩, 
  ⟨(some 31), none, .ext (.t 28) 0⟩, 
  ⟨(some 32), none, .ext (.t 28) 1⟩, 
  ⟨(some 9), none, .mv (.t 31)⟩, 
  ⟨(some 10), none, .mv (.t 32)⟩]
def c7r5 : List Opn := [
  ⟨(some 33), none, .mv (.t 8)⟩, 
  ⟨(some 34), none, .mv (.t 10)⟩, 
  ⟨(some 35), none, .bin .neq (.t 33) (.t 34)⟩, 
  ⟨(some 36), none, .mv (.t 35)⟩, 
  ⟨(some 37), some (36, false), .mv (.t 7)⟩, 
  ⟨(some 38), some (36, false), .mv (.t 9)⟩, 
  ⟨(some 39), some (36, false), .call (.fn 29) [(.t 37), (.t 38)]⟩, 
  ⟨(some 40), some (36, false), .un .not (.t 39)⟩, 
  ⟨(some 41), none, .pick (.t 36) (.c (.s (.d (.bool true)))) (.t 40)⟩, 
  ⟨(some 42), none, .mv (.t 41)⟩, 
  ⟨(some 43), some (42, false), .call (.fn 30) []⟩, 
  ⟨(some 44), some (42, false), .un .not (.t 43)⟩, 
  ⟨(some 45), none, .pick (.t 42) (.c (.s (.d (.bool true)))) (.t 44)⟩]
def c7r6 : List Opn := [
  ⟨(some 4), none, .mv (.c (.s (.d (.bool false))))⟩]
def c7r7 : List Opn := [
  ⟨(some 46), none, .mv (.t 0)⟩, 
  ⟨(some 47), none, .call (.fn 31) [(.t 46)]⟩, 
  ⟨(some 48), none, .un .not (.t 47)⟩]
def c7r8 : List Opn := [
  ⟨(some 49), none, .mv (.t 6)⟩, 
  ⟨(some 50), none, .bin .eql (.t 49) (.c (.s (.d (.int .i64 2))))⟩, 
  ⟨(some 51), none, .mv (.t 50)⟩, 
  ⟨(some 52), some (51, true), .mv (.t 5)⟩, 
  ⟨(some 53), some (51, true), .bin .eql (.t 52) (.c (.s (.d (.str []))))⟩, 
  ⟨(some 54), none, .pick (.t 51) (.t 53) (.c (.s (.d (.bool false))))⟩, 
  ⟨(some 4), none, .mv (.t 54)⟩]
def c7r9 : List Opn := [
  ⟨(some 55), none, .mv (.t 6)⟩, 
  ⟨(some 56), none, .bin .eql (.t 55) (.c (.s (.d (.int .i64 0))))⟩, 
  ⟨(some 57), none, .mv (.t 56)⟩, 
  ⟨(some 58), some (57, true), .mv (.t 5)⟩, 
  ⟨(some 59), some (57, true), .mv (.t 0)⟩, 
  ⟨(some 60), some (57, true), .call (.fn 32) [(.t 59)]⟩, 
  ⟨(some 61), some (57, true), .bin .eql (.t 58) (.t 60)⟩, 
  ⟨(some 62), none, .pick (.t 57) (.t 61) (.c (.s (.d (.bool false))))⟩, 
  ⟨(some 4), none, .mv (.t 62)⟩]
def c7 : C := .seq (.reg c7r0 none [0, 1]) (.seq (.reg c7r1 (some [0, 1, 0, 0, 8, 24, 60, 3, 255]) [0, 1]) (.seq (.reg c7r2 none [0, 1, 5, 6]) (.seq (.reg c7r3 none [0, 1, 5, 6, 7, 8]) (.seq (.reg c7r4 none [0, 5, 6, 7, 8, 9, 10]) (.seq (.seq (.reg c7r5 none [0, 5, 6, 45]) (.cond (.t 45) (.seq (.reg c7r6 none [4]) (.ret)) (.skip))) (.seq (.seq (.reg c7r7 none [0, 5, 6, 48]) (.cond (.t 48) (.seq (.reg c7r8 none [4]) (.ret)) (.skip))) (.seq (.reg c7r9 none [4]) (.ret))))))))
def k7 : List (Nat × List Nat) := [(9, [4]), (8, [4]), (7, [0, 5, 6, 48]), (6, [4]), (5, [0, 5, 6, 45]), (4, [0, 5, 6, 7, 8, 9, 10]), (3, [0, 1, 5, 6, 7, 8]), (2, [0, 1, 5, 6]), (1, [0, 1]), (0, [0, 1])]
theorem cc7 : (Tryd.f7.body).bind (cC Tryd.prog 63 k7) = some c7 := by kernel_rfl
def rv7 : List RV := [.t 4]
theorem cr7 : cRVs Tryd.prog Tryd.f7.results.toList = some rv7 := by kernel_rfl
theorem f_law01_OctetBinds_ok (l : (List Str)) (s : Str) (y_ : Bool) (h : f_law01_OctetBinds l s = some y_) : Fun Tryd.prog glP 7 [.b (.s (.d (.sl (l.map eS)))), .b (.s (.d (.str s)))] (.b (.s (.d (.bool y_)))) := by
  refine fun_walk [] Tryd.func7 Tryd.ntmps7 cc7 cr7 (by kernel_rfl) (by simp only [List.length_cons, List.length_nil]; decide) ?_
  generalize hR : Ret _ _ _ _ _ = R_
  simp only [wz, wd, ws, Nat.reduceAdd, Nat.reduceSub, Nat.reduceMul, Nat.reduceLeDiff, Nat.reduceEqDiff, Nat.reduceLT, Nat.reduceBEq, reduceIte, reduceCtorEq, Int.reduceToNat, Nat.reduceShiftRight, Nat.reduceAnd, Nat.reduceBneDiff, Nat.reduceBNe]
  unfold f_law01_OctetBinds at h; unfold c7
  refine .seq ?_
  refine Rw.walk ?_
  simp only [wz, wd, ws, Nat.reduceAdd, Nat.reduceSub, Nat.reduceMul, Nat.reduceLeDiff, Nat.reduceEqDiff, Nat.reduceLT, Nat.reduceBEq, reduceIte, reduceCtorEq, Int.reduceToNat, Nat.reduceShiftRight, Nat.reduceAnd, Nat.reduceBneDiff, Nat.reduceBNe, c7r0, semI.eq_10, semI.eq_11, semI.eq_3, semI.eq_5, semI.eq_7]
  refine .seq ?_
  refine RwD.walk ?_
  simp only [wz, wd, ws, Nat.reduceAdd, Nat.reduceSub, Nat.reduceMul, Nat.reduceLeDiff, Nat.reduceEqDiff, Nat.reduceLT, Nat.reduceBEq, reduceIte, reduceCtorEq, Int.reduceToNat, Nat.reduceShiftRight, Nat.reduceAnd, Nat.reduceBneDiff, Nat.reduceBNe, c7r1, semI.eq_10, semI.eq_11, semI.eq_3, semI.eq_5, semI.eq_7]
  obtain ⟨t, e1, h⟩ := Option.bind_eq_some_iff.1 h
  refine call_funO' [] ⟨trivial, trivial, trivial⟩ rfl ?_ (f_law01_few_ok _ _ e1) rfl (.inl rfl) ?_
  · simp only [wz, wd, ws, Nat.reduceAdd, Nat.reduceSub, Nat.reduceMul, Nat.reduceLeDiff, Nat.reduceEqDiff, Nat.reduceLT, Nat.reduceBEq, reduceIte, reduceCtorEq, Int.reduceToNat, Nat.reduceShiftRight, Nat.reduceAnd, Nat.reduceBneDiff, Nat.reduceBNe]
  simp only [wz, wd, ws, Nat.reduceAdd, Nat.reduceSub, Nat.reduceMul, Nat.reduceLeDiff, Nat.reduceEqDiff, Nat.reduceLT, Nat.reduceBEq, reduceIte, reduceCtorEq, Int.reduceToNat, Nat.reduceShiftRight, Nat.reduceAnd, Nat.reduceBneDiff, Nat.reduceBNe, c7r1, semI.eq_10, semI.eq_11, semI.eq_3, semI.eq_5, semI.eq_7]
  obtain ⟨g2, h⟩ := gd_iff.1 h
  repeat (refine And.intro ?_ ?_; · first | omega | (intro q; simp only [wz, wd, ws, Nat.reduceAdd, Nat.reduceSub, Nat.reduceMul, Nat.reduceLeDiff, Nat.reduceEqDiff, Nat.reduceLT, Nat.reduceBEq, reduceIte, reduceCtorEq, Int.reduceToNat, Nat.reduceShiftRight, Nat.reduceAnd, Nat.reduceBneDiff, Nat.reduceBNe, q]; done))
  refine .seq ?_
  refine Rw.walk ?_
  simp only [wz, wd, ws, Nat.reduceAdd, Nat.reduceSub, Nat.reduceMul, Nat.reduceLeDiff, Nat.reduceEqDiff, Nat.reduceLT, Nat.reduceBEq, reduceIte, reduceCtorEq, Int.reduceToNat, Nat.reduceShiftRight, Nat.reduceAnd, Nat.reduceBneDiff, Nat.reduceBNe, c7r2, semI.eq_10, semI.eq_11, semI.eq_3, semI.eq_5, semI.eq_7]
  obtain ⟨t2, e3, h⟩ := Option.bind_eq_some_iff.1 h
  refine call_fun [12] false ⟨trivial, trivial, trivial⟩ rfl ?_ (f_octet_Bind_ok _ _ e3) (fun _ => rfl) (fun i hi e he => coF_get (l := [12]) (by simp only [wz, wd, ws, Nat.reduceAdd, Nat.reduceSub, Nat.reduceMul, Nat.reduceLeDiff, Nat.reduceEqDiff, Nat.reduceLT, Nat.reduceBEq, reduceIte, reduceCtorEq, Int.reduceToNat, Nat.reduceShiftRight, Nat.reduceAnd, Nat.reduceBneDiff, Nat.reduceBNe, wi]) i e hi he) ?_
  · simp only [wz, wd, ws, Nat.reduceAdd, Nat.reduceSub, Nat.reduceMul, Nat.reduceLeDiff, Nat.reduceEqDiff, Nat.reduceLT, Nat.reduceBEq, reduceIte, reduceCtorEq, Int.reduceToNat, Nat.reduceShiftRight, Nat.reduceAnd, Nat.reduceBneDiff, Nat.reduceBNe]
  simp only [wz, wd, ws, Nat.reduceAdd, Nat.reduceSub, Nat.reduceMul, Nat.reduceLeDiff, Nat.reduceEqDiff, Nat.reduceLT, Nat.reduceBEq, reduceIte, reduceCtorEq, Int.reduceToNat, Nat.reduceShiftRight, Nat.reduceAnd, Nat.reduceBneDiff, Nat.reduceBNe, c7r2, semI.eq_10, semI.eq_11, semI.eq_3, semI.eq_5, semI.eq_7]
  refine .seq ?_
  refine Rw.walk ?_
  simp only [wz, wd, ws, Nat.reduceAdd, Nat.reduceSub, Nat.reduceMul, Nat.reduceLeDiff, Nat.reduceEqDiff, Nat.reduceLT, Nat.reduceBEq, reduceIte, reduceCtorEq, Int.reduceToNat, Nat.reduceShiftRight, Nat.reduceAnd, Nat.reduceBneDiff, Nat.reduceBNe, c7r3, semI.eq_10, semI.eq_11, semI.eq_3, semI.eq_5, semI.eq_7]
  obtain ⟨t3, e4, h⟩ := Option.bind_eq_some_iff.1 h
  refine call_fun [] true ⟨trivial, trivial, trivial⟩ rfl ?_ (f_octet_Loose_ok _ _ e4) (fun h => by cases h) (fun i hi => by cases hi) ?_
  · simp only [wz, wd, ws, Nat.reduceAdd, Nat.reduceSub, Nat.reduceMul, Nat.reduceLeDiff, Nat.reduceEqDiff, Nat.reduceLT, Nat.reduceBEq, reduceIte, reduceCtorEq, Int.reduceToNat, Nat.reduceShiftRight, Nat.reduceAnd, Nat.reduceBneDiff, Nat.reduceBNe]
  simp only [wz, wd, ws, Nat.reduceAdd, Nat.reduceSub, Nat.reduceMul, Nat.reduceLeDiff, Nat.reduceEqDiff, Nat.reduceLT, Nat.reduceBEq, reduceIte, reduceCtorEq, Int.reduceToNat, Nat.reduceShiftRight, Nat.reduceAnd, Nat.reduceBneDiff, Nat.reduceBNe, c7r3, semI.eq_10, semI.eq_11, semI.eq_3, semI.eq_5, semI.eq_7]
  refine .seq ?_
  refine Rw.walk ?_
  simp only [wz, wd, ws, Nat.reduceAdd, Nat.reduceSub, Nat.reduceMul, Nat.reduceLeDiff, Nat.reduceEqDiff, Nat.reduceLT, Nat.reduceBEq, reduceIte, reduceCtorEq, Int.reduceToNat, Nat.reduceShiftRight, Nat.reduceAnd, Nat.reduceBneDiff, Nat.reduceBNe, c7r4, semI.eq_10, semI.eq_11, semI.eq_3, semI.eq_5, semI.eq_7]
  obtain ⟨t4, e5, h⟩ := Option.bind_eq_some_iff.1 h
  refine call_fun [] true ⟨trivial, trivial, trivial⟩ rfl ?_ (f_ref01_Loose_ok _ _ e5) (fun h => by cases h) (fun i hi => by cases hi) ?_
  · simp only [wz, wd, ws, Nat.reduceAdd, Nat.reduceSub, Nat.reduceMul, Nat.reduceLeDiff, Nat.reduceEqDiff, Nat.reduceLT, Nat.reduceBEq, reduceIte, reduceCtorEq, Int.reduceToNat, Nat.reduceShiftRight, Nat.reduceAnd, Nat.reduceBneDiff, Nat.reduceBNe]
  simp only [wz, wd, ws, Nat.reduceAdd, Nat.reduceSub, Nat.reduceMul, Nat.reduceLeDiff, Nat.reduceEqDiff, Nat.reduceLT, Nat.reduceBEq, reduceIte, reduceCtorEq, Int.reduceToNat, Nat.reduceShiftRight, Nat.reduceAnd, Nat.reduceBneDiff, Nat.reduceBNe, c7r4, semI.eq_10, semI.eq_11, semI.eq_3, semI.eq_5, semI.eq_7]
  refine .seq ?_
  refine .seq ?_
  refine Rw.walk ?_
  simp only [wz, wd, ws, Nat.reduceAdd, Nat.reduceSub, Nat.reduceMul, Nat.reduceLeDiff, Nat.reduceEqDiff, Nat.reduceLT, Nat.reduceBEq, reduceIte, reduceCtorEq, Int.reduceToNat, Nat.reduceShiftRight, Nat.reduceAnd, Nat.reduceBneDiff, Nat.reduceBNe, c7r5, semI.eq_10, semI.eq_11, semI.eq_3, semI.eq_5, semI.eq_7]
  obtain ⟨t5, e6, h⟩ := Option.bind_eq_some_iff.1 h
  refine call_funG [] rfl (by simp only [wz, wd, ws, Nat.reduceAdd, Nat.reduceSub, Nat.reduceMul, Nat.reduceLeDiff, Nat.reduceEqDiff, Nat.reduceLT, Nat.reduceBEq, reduceIte, reduceCtorEq, Int.reduceToNat, Nat.reduceShiftRight, Nat.reduceAnd, Nat.reduceBneDiff, Nat.reduceBNe]) rfl ?_ (fun q => (f_ref01_Same_ok _ _ _ (gx_iff e6 (by simpa using q)))) rfl (fun i hi => by cases hi) ?_
  · simp only [wz, wd, ws, Nat.reduceAdd, Nat.reduceSub, Nat.reduceMul, Nat.reduceLeDiff, Nat.reduceEqDiff, Nat.reduceLT, Nat.reduceBEq, reduceIte, reduceCtorEq, Int.reduceToNat, Nat.reduceShiftRight, Nat.reduceAnd, Nat.reduceBneDiff, Nat.reduceBNe]
  simp only [wz, wd, ws, Nat.reduceAdd, Nat.reduceSub, Nat.reduceMul, Nat.reduceLeDiff, Nat.reduceEqDiff, Nat.reduceLT, Nat.reduceBEq, reduceIte, reduceCtorEq, Int.reduceToNat, Nat.reduceShiftRight, Nat.reduceAnd, Nat.reduceBneDiff, Nat.reduceBNe, c7r5, semI.eq_10, semI.eq_11, semI.eq_3, semI.eq_5, semI.eq_7]
  repeat (refine And.intro ?_ ?_; · first | omega | (intro q; simp only [wz, wd, ws, Nat.reduceAdd, Nat.reduceSub, Nat.reduceMul, Nat.reduceLeDiff, Nat.reduceEqDiff, Nat.reduceLT, Nat.reduceBEq, reduceIte, reduceCtorEq, Int.reduceToNat, Nat.reduceShiftRight, Nat.reduceAnd, Nat.reduceBneDiff, Nat.reduceBNe, q]; done))
  obtain ⟨t6, e7, h⟩ := Option.bind_eq_some_iff.1 h
  refine call_funG [] rfl (by simp only [wz, wd, ws, Nat.reduceAdd, Nat.reduceSub, Nat.reduceMul, Nat.reduceLeDiff, Nat.reduceEqDiff, Nat.reduceLT, Nat.reduceBEq, reduceIte, reduceCtorEq, Int.reduceToNat, Nat.reduceShiftRight, Nat.reduceAnd, Nat.reduceBneDiff, Nat.reduceBNe]) rfl ?_ (fun q => (f_law01_alive_ok _ (gx_iff e7 (by simpa using q)))) rfl (fun i hi => by cases hi) ?_
  · simp only [wz, wd, ws, Nat.reduceAdd, Nat.reduceSub, Nat.reduceMul, Nat.reduceLeDiff, Nat.reduceEqDiff, Nat.reduceLT, Nat.reduceBEq, reduceIte, reduceCtorEq, Int.reduceToNat, Nat.reduceShiftRight, Nat.reduceAnd, Nat.reduceBneDiff, Nat.reduceBNe]
  simp only [wz, wd, ws, Nat.reduceAdd, Nat.reduceSub, Nat.reduceMul, Nat.reduceLeDiff, Nat.reduceEqDiff, Nat.reduceLT, Nat.reduceBEq, reduceIte, reduceCtorEq, Int.reduceToNat, Nat.reduceShiftRight, Nat.reduceAnd, Nat.reduceBneDiff, Nat.reduceBNe, c7r5, semI.eq_10, semI.eq_11, semI.eq_3, semI.eq_5, semI.eq_7]
  repeat (refine And.intro ?_ ?_; · first | omega | (intro q; simp only [wz, wd, ws, Nat.reduceAdd, Nat.reduceSub, Nat.reduceMul, Nat.reduceLeDiff, Nat.reduceEqDiff, Nat.reduceLT, Nat.reduceBEq, reduceIte, reduceCtorEq, Int.reduceToNat, Nat.reduceShiftRight, Nat.reduceAnd, Nat.reduceBneDiff, Nat.reduceBNe, q]; done))
  refine .cond (p := (((t3.2 != t4.2) || (!t5)) || (!t6))) (by first | rfl | simp only [wz, wd, ws, Nat.reduceAdd, Nat.reduceSub, Nat.reduceMul, Nat.reduceLeDiff, Nat.reduceEqDiff, Nat.reduceLT, Nat.reduceBEq, reduceIte, reduceCtorEq, Int.reduceToNat, Nat.reduceShiftRight, Nat.reduceAnd, Nat.reduceBneDiff, Nat.reduceBNe]) (fun h1 => ?_) (fun h1 => ?_)
  · rw [ite_t h1] at h
    refine .seq ?_
    refine Rw.walk ?_
    simp only [wz, wd, ws, Nat.reduceAdd, Nat.reduceSub, Nat.reduceMul, Nat.reduceLeDiff, Nat.reduceEqDiff, Nat.reduceLT, Nat.reduceBEq, reduceIte, reduceCtorEq, Int.reduceToNat, Nat.reduceShiftRight, Nat.reduceAnd, Nat.reduceBneDiff, Nat.reduceBNe, c7r6, semI.eq_10, semI.eq_11, semI.eq_3, semI.eq_5, semI.eq_7]
    obtain rfl := Option.some.inj h
    refine .ret ?_
    rw [← hR]
    simp only [wz, wd, ws, Nat.reduceAdd, Nat.reduceSub, Nat.reduceMul, Nat.reduceLeDiff, Nat.reduceEqDiff, Nat.reduceLT, Nat.reduceBEq, reduceIte, reduceCtorEq, Int.reduceToNat, Nat.reduceShiftRight, Nat.reduceAnd, Nat.reduceBneDiff, Nat.reduceBNe, rv7]
  · rw [ite_f h1] at h
    refine .skip ?_
    refine .seq ?_
    refine .seq ?_
    refine Rw.walk ?_
    simp only [wz, wd, ws, Nat.reduceAdd, Nat.reduceSub, Nat.reduceMul, Nat.reduceLeDiff, Nat.reduceEqDiff, Nat.reduceLT, Nat.reduceBEq, reduceIte, reduceCtorEq, Int.reduceToNat, Nat.reduceShiftRight, Nat.reduceAnd, Nat.reduceBneDiff, Nat.reduceBNe, c7r7, semI.eq_10, semI.eq_11, semI.eq_3, semI.eq_5, semI.eq_7]
    obtain ⟨t7, e8, h⟩ := Option.bind_eq_some_iff.1 h
    refine call_fun [12] false ⟨trivial, trivial, trivial⟩ rfl ?_ (f_ref01_May_ok _ _ e8) (fun _ => rfl) (fun i hi e he => coF_get (l := [12]) (by simp only [wz, wd, ws, Nat.reduceAdd, Nat.reduceSub, Nat.reduceMul, Nat.reduceLeDiff, Nat.reduceEqDiff, Nat.reduceLT, Nat.reduceBEq, reduceIte, reduceCtorEq, Int.reduceToNat, Nat.reduceShiftRight, Nat.reduceAnd, Nat.reduceBneDiff, Nat.reduceBNe, wi]) i e hi he) ?_
    · simp only [wz, wd, ws, Nat.reduceAdd, Nat.reduceSub, Nat.reduceMul, Nat.reduceLeDiff, Nat.reduceEqDiff, Nat.reduceLT, Nat.reduceBEq, reduceIte, reduceCtorEq, Int.reduceToNat, Nat.reduceShiftRight, Nat.reduceAnd, Nat.reduceBneDiff, Nat.reduceBNe]
    simp only [wz, wd, ws, Nat.reduceAdd, Nat.reduceSub, Nat.reduceMul, Nat.reduceLeDiff, Nat.reduceEqDiff, Nat.reduceLT, Nat.reduceBEq, reduceIte, reduceCtorEq, Int.reduceToNat, Nat.reduceShiftRight, Nat.reduceAnd, Nat.reduceBneDiff, Nat.reduceBNe, c7r7, semI.eq_10, semI.eq_11, semI.eq_3, semI.eq_5, semI.eq_7]
    refine .cond (p := (!t7)) (by first | rfl | simp only [wz, wd, ws, Nat.reduceAdd, Nat.reduceSub, Nat.reduceMul, Nat.reduceLeDiff, Nat.reduceEqDiff, Nat.reduceLT, Nat.reduceBEq, reduceIte, reduceCtorEq, Int.reduceToNat, Nat.reduceShiftRight, Nat.reduceAnd, Nat.reduceBneDiff, Nat.reduceBNe]) (fun h1 => ?_) (fun h1 => ?_)
    · rw [ite_t h1] at h
      refine .seq ?_
      refine Rw.walk ?_
      simp only [wz, wd, ws, Nat.reduceAdd, Nat.reduceSub, Nat.reduceMul, Nat.reduceLeDiff, Nat.reduceEqDiff, Nat.reduceLT, Nat.reduceBEq, reduceIte, reduceCtorEq, Int.reduceToNat, Nat.reduceShiftRight, Nat.reduceAnd, Nat.reduceBneDiff, Nat.reduceBNe, c7r8, semI.eq_10, semI.eq_11, semI.eq_3, semI.eq_5, semI.eq_7]
      repeat (refine And.intro ?_ ?_; · first | omega | (intro q; simp only [wz, wd, ws, Nat.reduceAdd, Nat.reduceSub, Nat.reduceMul, Nat.reduceLeDiff, Nat.reduceEqDiff, Nat.reduceLT, Nat.reduceBEq, reduceIte, reduceCtorEq, Int.reduceToNat, Nat.reduceShiftRight, Nat.reduceAnd, Nat.reduceBneDiff, Nat.reduceBNe, q]; done))
      obtain rfl := Option.some.inj h
      refine .ret ?_
      rw [← hR]
      simp only [wz, wd, ws, Nat.reduceAdd, Nat.reduceSub, Nat.reduceMul, Nat.reduceLeDiff, Nat.reduceEqDiff, Nat.reduceLT, Nat.reduceBEq, reduceIte, reduceCtorEq, Int.reduceToNat, Nat.reduceShiftRight, Nat.reduceAnd, Nat.reduceBneDiff, Nat.reduceBNe, rv7]
    · rw [ite_f h1] at h
      refine .skip ?_
      refine .seq ?_
      refine Rw.walk ?_
      simp only [wz, wd, ws, Nat.reduceAdd, Nat.reduceSub, Nat.reduceMul, Nat.reduceLeDiff, Nat.reduceEqDiff, Nat.reduceLT, Nat.reduceBEq, reduceIte, reduceCtorEq, Int.reduceToNat, Nat.reduceShiftRight, Nat.reduceAnd, Nat.reduceBneDiff, Nat.reduceBNe, c7r9, semI.eq_10, semI.eq_11, semI.eq_3, semI.eq_5, semI.eq_7]
      obtain ⟨t8, e9, h⟩ := Option.bind_eq_some_iff.1 h
      refine call_funG [12] rfl (by simp only [wz, wd, ws, Nat.reduceAdd, Nat.reduceSub, Nat.reduceMul, Nat.reduceLeDiff, Nat.reduceEqDiff, Nat.reduceLT, Nat.reduceBEq, reduceIte, reduceCtorEq, Int.reduceToNat, Nat.reduceShiftRight, Nat.reduceAnd, Nat.reduceBneDiff, Nat.reduceBNe]) rfl ?_ (fun q => (f_ref01_Bind_ok _ _ (gx_iff e9 (by simpa using q)))) rfl (fun i hi e he => coF_get (l := [12]) (by simp only [wz, wd, ws, Nat.reduceAdd, Nat.reduceSub, Nat.reduceMul, Nat.reduceLeDiff, Nat.reduceEqDiff, Nat.reduceLT, Nat.reduceBEq, reduceIte, reduceCtorEq, Int.reduceToNat, Nat.reduceShiftRight, Nat.reduceAnd, Nat.reduceBneDiff, Nat.reduceBNe, wi]) i e hi he) ?_
      · simp only [wz, wd, ws, Nat.reduceAdd, Nat.reduceSub, Nat.reduceMul, Nat.reduceLeDiff, Nat.reduceEqDiff, Nat.reduceLT, Nat.reduceBEq, reduceIte, reduceCtorEq, Int.reduceToNat, Nat.reduceShiftRight, Nat.reduceAnd, Nat.reduceBneDiff, Nat.reduceBNe]
      simp only [wz, wd, ws, Nat.reduceAdd, Nat.reduceSub, Nat.reduceMul, Nat.reduceLeDiff, Nat.reduceEqDiff, Nat.reduceLT, Nat.reduceBEq, reduceIte, reduceCtorEq, Int.reduceToNat, Nat.reduceShiftRight, Nat.reduceAnd, Nat.reduceBneDiff, Nat.reduceBNe, c7r9, semI.eq_10, semI.eq_11, semI.eq_3, semI.eq_5, semI.eq_7]
      repeat (refine And.intro ?_ ?_; · first | omega | (intro q; simp only [wz, wd, ws, Nat.reduceAdd, Nat.reduceSub, Nat.reduceMul, Nat.reduceLeDiff, Nat.reduceEqDiff, Nat.reduceLT, Nat.reduceBEq, reduceIte, reduceCtorEq, Int.reduceToNat, Nat.reduceShiftRight, Nat.reduceAnd, Nat.reduceBneDiff, Nat.reduceBNe, q]; done))
      obtain rfl := Option.some.inj h
      refine .ret ?_
      rw [← hR]
      simp only [wz, wd, ws, Nat.reduceAdd, Nat.reduceSub, Nat.reduceMul, Nat.reduceLeDiff, Nat.reduceEqDiff, Nat.reduceLT, Nat.reduceBEq, reduceIte, reduceCtorEq, Int.reduceToNat, Nat.reduceShiftRight, Nat.reduceAnd, Nat.reduceBneDiff, Nat.reduceBNe, rv7]
-- 8 consignor/consignorlaw01.OctetLong
def c8r0 : List Opn := [
  ⟨(some 4), none, .mv (.c (.s (.d (.bool false))))⟩]
def c8r1 : List Opn := [
  ⟨(some 13), none, .mv (.t 0)⟩, 
  ⟨(some 14), none, .call (.fn 25) [(.t 13)]⟩, 
  ⟨(some 0), none, .mv (.t 14)⟩]
def c8r2 : List Opn := [
  ⟨(some 16), none, .mv (.t 0)⟩, 
  ⟨(some 17), none, .call (.fn 26) [(.t 16)]⟩, 
  ⟨(some 15), none, .mv (.t 17)⟩, 
  ⟨(some 18), none, .ext (.t 15) 0⟩, 
  ⟨(some 19), none, .ext (.t 15) 1⟩, 
  ⟨(some 5), none, .mv (.t 18)⟩, 
  ⟨(some 6), none, .mv (.t 19)⟩]
def c8r3 : List Opn := [
  ⟨(some 20), none, .mv (.t 6)⟩, 
  ⟨(some 21), none, .bin .neq (.t 20) (.c (.s (.d (.int .i64 0))))⟩]
def c8r4 : List Opn := [
  ⟨(some 22), none, .call (.fn 30) []⟩, 
  ⟨(some 4), none, .mv (.t 22)⟩]
def c8r5 : List Opn := [
  ⟨(some 23), none, .mv (.t 1)⟩, 
  ⟨(some 24), none, .mv (.t 5)⟩, 
  ⟨(some 25), none, .len .str (.t 24)⟩, 
  ⟨(some 26), none, .bin .add (.t 25) (.c (.s (.d (.int .i64 1))))⟩, 
  ⟨(some 27), none, .bin .rem (.t 23) (.t 26)⟩, 
  ⟨(some 28), none, .mv (.t 5)⟩, 
  ⟨(some 29), none, .len .str (.t 28)⟩, 
  ⟨(some 30), none, .bin .add (.t 27) (.t 29)⟩, 
  ⟨(some 31), none, .bin .add (.t 30) (.c (.s (.d (.int .i64 1))))⟩, 
  ⟨(some 32), none, .mv (.t 5)⟩, 
  ⟨(some 33), none, .len .str (.t 32)⟩, 
  ⟨(some 34), none, .bin .add (.t 33) (.c (.s (.d (.int .i64 1))))⟩, 
  ⟨(some 35), none, .bin .rem (.t 31) (.t 34)⟩, 
  ⟨(some 1), none, .mv (.t 35)⟩]
def c8r6 : List Opn := [
  ⟨(some 36), none, .mv (.t 1)⟩, 
  ⟨(some 37), none, .bin .eql (.t 36) (.c (.s (.d (.int .i64 0))))⟩, 
  ⟨(some 7), none, .mv (.t 37)⟩, 
  ⟨(some 8), none, .mv (.c (.s (.d (.int .i64 0))))⟩]
def c8r7 : List Opn := [
  ⟨(some 38), none, .mv (.t 0)⟩, 
  ⟨(some 39), none, .len (.sl 0) (.t 38)⟩, 
  ⟨(some 40), none, .mv (.c (.s (.d (.int .i64 0))))⟩]
def c8r8 : List Opn := [
  ⟨(some 41), none, .bin .lss (.t 40) (.t 39)⟩]
def c8r9 : List Opn := [
  ⟨(some 42), none, .iadr (.sl 1) (.t 38) (.t 40)⟩, 
  ⟨(some 43), none, .load false 1 (.t 42)⟩, 
  ⟨(some 10), none, .mv (.t 43)⟩]
def c8r10 : List Opn := [
  ⟨(some 44), none, .mv (.t 8)⟩, 
  ⟨(some 45), none, .mv (.t 10)⟩, 
  ⟨(some 46), none, .len .str (.t 45)⟩, 
  ⟨(some 47), none, .bin .add (.c (.s (.d (.int .i64 2)))) (.t 46)⟩, 
  ⟨(some 48), none, .bin .add (.t 44) (.t 47)⟩, 
  ⟨(some 8), none, .mv (.t 48)⟩]
def c8r11 : List Opn := [
  ⟨(some 49), none, .mv (.t 7)⟩, 
  ⟨(some 50), none, .mv (.t 49)⟩, 
  ⟨(some 51), some (50, false), .mv (.t 8)⟩, 
  ⟨(some 52), some (50, false), .mv (.t 1)⟩, 
  ⟨(some 53), some (50, false), .bin .eql (.t 51) (.t 52)⟩, 
  ⟨(some 54), none, .pick (.t 50) (.c (.s (.d (.bool true)))) (.t 53)⟩, 
  ⟨(some 7), none, .mv (.t 54)⟩]
def c8r12 : List Opn := [
  ⟨(some 55), none, .bin .add (.t 40) (.c (.s (.d (.int .i64 1))))⟩, 
  ⟨(some 40), none, .mv (.t 55)⟩]
def c8l13 : C := .seq (.reg c8r8 none [0, 1, 5, 7, 8, 38, 39, 40, 41]) (.seq (.cond (.t 41) (.skip) (.exit 0)) (.seq (.blk 1 (.seq (.reg c8r9 none [0, 1, 5, 7, 8, 10, 38, 39, 40]) (.seq (.reg c8r10 none [0, 1, 5, 7, 8, 38, 39, 40]) (.reg c8r11 none [0, 1, 5, 7, 8, 38, 39, 40])))) (.reg c8r12 none [0, 1, 5, 7, 8, 38, 39, 40])))
def c8r13 : List Opn := [
  ⟨(some 57), none, .mv (.t 5)⟩, 
  ⟨(some 58), none, .mv (.t 1)⟩, 
  ⟨(some 59), none, .slc .str (.t 57) none (some (.t 58)) none⟩, 
  ⟨(some 60), none, .call (.fn 27) [(.t 59)]⟩, 
  ⟨(some 56), none, .mv (.t 60)⟩, 
  ⟨(some 61), none, .ext (.t 56) 0⟩, 
  ⟨(some 62), none, .ext (.t 56) 1⟩, 
  ⟨(some 11), none, .mv (.t 61)⟩, 
  ⟨(some 12), none, .mv (.t 62)⟩]
def c8r14 : List Opn := [
  ⟨(some 63), none, .call (.fn 30) []⟩, 
  ⟨(some 64), none, .mv (.t 63)⟩, 
  ⟨(some 65), some (64, true), .mv (.t 12)⟩, 
  ⟨(some 66), some (64, true), .bin .eql (.t 65) (.c (.s (.d (.int .i64 0))))⟩, 
  ⟨(some 67), some (64, true), .mv (.t 7)⟩, 
  ⟨(some 68), some (64, true), .bbo .eql (.t 66) (.t 67)⟩, 
  ⟨(some 69), none, .pick (.t 64) (.t 68) (.c (.s (.d (.bool false))))⟩, 
  ⟨(some 70), none, .mv (.t 69)⟩, 
  ⟨(some 71), some (70, true), .mv (.t 7)⟩, 
  ⟨(some 72), some (70, true), .mv (.t 71)⟩, 
  ⟨(some 73), some (72, false), .mv (.t 12)⟩, 
  ⟨(some 74), some (72, false), .bin .eql (.t 73) (.c (.s (.d (.int .i64 3))))⟩, 
  ⟨(some 75), some (70, true), .pick (.t 72) (.c (.s (.d (.bool true)))) (.t 74)⟩, 
  ⟨(some 76), none, .pick (.t 70) (.t 75) (.c (.s (.d (.bool false))))⟩, 
  ⟨(some 77), none, .mv (.t 76)⟩, 
  ⟨(some 78), some (77, true), .mv (.t 11)⟩, 
  ⟨(some 79), some (77, true), .len (.sl 0) (.t 78)⟩, 
  ⟨(some 80), some (77, true), .mv (.t 0)⟩, 
  ⟨(some 81), some (77, true), .len (.sl 0) (.t 80)⟩, 
  ⟨(some 82), some (77, true), .bin .leq (.t 79) (.t 81)⟩, 
  ⟨(some 83), none, .pick (.t 77) (.t 82) (.c (.s (.d (.bool false))))⟩, 
  ⟨(some 4), none, .mv (.t 83)⟩]
def c8 : C := .seq (.reg c8r0 none [0, 1]) (.seq (.reg c8r1 none [0, 1]) (.seq (.reg c8r2 none [0, 1, 5, 6]) (.seq (.seq (.reg c8r3 none [0, 1, 5, 21]) (.cond (.t 21) (.seq (.reg c8r4 none [4]) (.ret)) (.skip))) (.seq (.reg c8r5 none [0, 1, 5]) (.seq (.reg c8r6 none [0, 1, 5, 7, 8]) (.seq (.seq (.reg c8r7 none [0, 1, 5, 7, 8, 38, 39, 40]) (.blk 0 (.loop c8l13))) (.seq (.reg c8r13 none [0, 7, 11, 12]) (.seq (.reg c8r14 none [4]) (.ret)))))))))
def k8 : List (Nat × List Nat) := [(14, [4]), (13, [0, 7, 11, 12]), (12, [0, 1, 5, 7, 8, 38, 39, 40]), (11, [0, 1, 5, 7, 8, 38, 39, 40]), (10, [0, 1, 5, 7, 8, 38, 39, 40]), (9, [0, 1, 5, 7, 8, 10, 38, 39, 40]), (8, [0, 1, 5, 7, 8, 38, 39, 40, 41]), (7, [0, 1, 5, 7, 8, 38, 39, 40]), (6, [0, 1, 5, 7, 8]), (5, [0, 1, 5]), (4, [4]), (3, [0, 1, 5, 21]), (2, [0, 1, 5, 6]), (1, [0, 1]), (0, [0, 1])]
theorem cc8 : (Tryd.f8.body).bind (cC Tryd.prog 84 k8) = some c8 := by kernel_rfl
def rv8 : List RV := [.t 4]
theorem cr8 : cRVs Tryd.prog Tryd.f8.results.toList = some rv8 := by kernel_rfl
theorem f_law01_OctetLong_l13_ok (t : (List Str)) (t2 : Str × Int) (atv2 : Int) (y_ : Bool) (R_ : St → Prop) (hR : (Ret Tryd.prog glP [] rv8 (.b (.s (.d (.bool y_))))) = R_) : ∀ (m_ : Nat) (ends : Bool) (now : Int) (v40 : Int) (res_ : Bool × Int × Int) (h : f_law01_OctetLong_l13 t t2 atv2 m_ ends now v40 = some res_) (k_ : List It) (hx : ∀ s_ : Bool × Int × Int, res_ = s_ → W Tryd.prog glP 84 k_ ⟨lkT [(0, .b (.s (.own 14 t.length))), (1, .b (.s (.d (.int .i64 atv2)))), (5, .b (.s (.d (.str t2.1)))), (7, .b (.s (.d (.bool s_.1)))), (8, .b (.s (.d (.int .i64 s_.2.1)))), (38, .b (.s (.own 14 t.length))), (39, .b (.s (.d (.int .i64 (t.length : Int))))), (40, .b (.s (.d (.int .i64 s_.2.2))))], lkG [(14, ⟨1, er eS t, false⟩)]⟩ R_), W Tryd.prog glP 84 (.c c8l13 :: .lp c8l13 :: .blk 0 :: k_) ⟨lkT [(0, .b (.s (.own 14 t.length))), (1, .b (.s (.d (.int .i64 atv2)))), (5, .b (.s (.d (.str t2.1)))), (7, .b (.s (.d (.bool ends)))), (8, .b (.s (.d (.int .i64 now)))), (38, .b (.s (.own 14 t.length))), (39, .b (.s (.d (.int .i64 (t.length : Int))))), (40, .b (.s (.d (.int .i64 v40))))], lkG [(14, ⟨1, er eS t, false⟩)]⟩ R_ := by
  intro m_; induction m_ with
  | zero => intro ends now v40 res_ h; rw [f_law01_OctetLong_l13.eq_1] at h; cases h
  | succ m_ ih =>
    intro ends now v40 res_ h k_ hx; rw [f_law01_OctetLong_l13.eq_2] at h; refine W.cdef c8l13.eq_1 ?_
    refine .seq ?_
    refine Rw.walk ?_
    simp only [wz, wd, ws, Nat.reduceAdd, Nat.reduceSub, Nat.reduceMul, Nat.reduceLeDiff, Nat.reduceEqDiff, Nat.reduceLT, Nat.reduceBEq, reduceIte, reduceCtorEq, Int.reduceToNat, Nat.reduceShiftRight, Nat.reduceAnd, Nat.reduceBneDiff, Nat.reduceBNe, c8r8, semI.eq_10, semI.eq_11, semI.eq_3, semI.eq_5, semI.eq_7]
    refine .seq ?_
    refine .cond (p := (decide (v40 < (t.length : Int)))) (by first | rfl | simp only [wz, wd, ws, Nat.reduceAdd, Nat.reduceSub, Nat.reduceMul, Nat.reduceLeDiff, Nat.reduceEqDiff, Nat.reduceLT, Nat.reduceBEq, reduceIte, reduceCtorEq, Int.reduceToNat, Nat.reduceShiftRight, Nat.reduceAnd, Nat.reduceBneDiff, Nat.reduceBNe]) (fun h1 => ?_) (fun h1 => ?_)
    · rw [ite_t h1] at h
      refine .skip ?_
      refine .seq ?_
      refine .blk ?_
      refine .seq ?_
      refine Rw.walk ?_
      simp only [wz, wd, ws, Nat.reduceAdd, Nat.reduceSub, Nat.reduceMul, Nat.reduceLeDiff, Nat.reduceEqDiff, Nat.reduceLT, Nat.reduceBEq, reduceIte, reduceCtorEq, Int.reduceToNat, Nat.reduceShiftRight, Nat.reduceAnd, Nat.reduceBneDiff, Nat.reduceBNe, c8r9, semI.eq_10, semI.eq_11, semI.eq_3, semI.eq_5, semI.eq_7]
      obtain ⟨x, e7, h⟩ := Option.bind_eq_some_iff.1 h
      refine Go1.of (sem_iadrO (l := t) e7 (by rfl) (by rfl) (by rfl)) ?_
      simp only [wz, wd, ws, Nat.reduceAdd, Nat.reduceSub, Nat.reduceMul, Nat.reduceLeDiff, Nat.reduceEqDiff, Nat.reduceLT, Nat.reduceBEq, reduceIte, reduceCtorEq, Int.reduceToNat, Nat.reduceShiftRight, Nat.reduceAnd, Nat.reduceBneDiff, Nat.reduceBNe, c8r9, semI.eq_10, semI.eq_11, semI.eq_3, semI.eq_5, semI.eq_7, er_get e7]
      refine .seq ?_
      refine Rw.walk ?_
      simp only [wz, wd, ws, Nat.reduceAdd, Nat.reduceSub, Nat.reduceMul, Nat.reduceLeDiff, Nat.reduceEqDiff, Nat.reduceLT, Nat.reduceBEq, reduceIte, reduceCtorEq, Int.reduceToNat, Nat.reduceShiftRight, Nat.reduceAnd, Nat.reduceBneDiff, Nat.reduceBNe, c8r10, semI.eq_10, semI.eq_11, semI.eq_3, semI.eq_5, semI.eq_7, er_get e7]
      refine Rw.walk ?_
      simp only [wz, wd, ws, Nat.reduceAdd, Nat.reduceSub, Nat.reduceMul, Nat.reduceLeDiff, Nat.reduceEqDiff, Nat.reduceLT, Nat.reduceBEq, reduceIte, reduceCtorEq, Int.reduceToNat, Nat.reduceShiftRight, Nat.reduceAnd, Nat.reduceBneDiff, Nat.reduceBNe, c8r11, semI.eq_10, semI.eq_11, semI.eq_3, semI.eq_5, semI.eq_7, er_get e7]
      repeat (refine And.intro ?_ ?_; · first | omega | (intro q; simp only [wz, wd, ws, Nat.reduceAdd, Nat.reduceSub, Nat.reduceMul, Nat.reduceLeDiff, Nat.reduceEqDiff, Nat.reduceLT, Nat.reduceBEq, reduceIte, reduceCtorEq, Int.reduceToNat, Nat.reduceShiftRight, Nat.reduceAnd, Nat.reduceBneDiff, Nat.reduceBNe, q]; done))
      refine .eblk ?_
      refine Rw.walk ?_
      simp only [wz, wd, ws, Nat.reduceAdd, Nat.reduceSub, Nat.reduceMul, Nat.reduceLeDiff, Nat.reduceEqDiff, Nat.reduceLT, Nat.reduceBEq, reduceIte, reduceCtorEq, Int.reduceToNat, Nat.reduceShiftRight, Nat.reduceAnd, Nat.reduceBneDiff, Nat.reduceBNe, c8r12, semI.eq_10, semI.eq_11, semI.eq_3, semI.eq_5, semI.eq_7, er_get e7]
      refine .lp ?_
      refine .weak (Imp.co [] _ _ ?_ ?_ ?_ ?_ ?_) (ih (ends || ((IntKind.i64.wrap (now + (IntKind.i64.wrap (2 + (x.length : Int))))) == atv2)) (IntKind.i64.wrap (now + (IntKind.i64.wrap (2 + (x.length : Int))))) (IntKind.i64.wrap (v40 + 1)) _ h k_ hx) <;> simp only [wz, wd, ws, Nat.reduceAdd, Nat.reduceSub, Nat.reduceMul, Nat.reduceLeDiff, Nat.reduceEqDiff, Nat.reduceLT, Nat.reduceBEq, reduceIte, reduceCtorEq, Int.reduceToNat, Nat.reduceShiftRight, Nat.reduceAnd, Nat.reduceBneDiff, Nat.reduceBNe, wi, er_nil]
    · rw [ite_f h1] at h
      refine .exit rfl ?_
      obtain rfl := Option.some.inj h
      refine .weak (Imp.co [] _ _ ?_ ?_ ?_ ?_ ?_) (hx _ rfl) <;> simp only [wz, wd, ws, Nat.reduceAdd, Nat.reduceSub, Nat.reduceMul, Nat.reduceLeDiff, Nat.reduceEqDiff, Nat.reduceLT, Nat.reduceBEq, reduceIte, reduceCtorEq, Int.reduceToNat, Nat.reduceShiftRight, Nat.reduceAnd, Nat.reduceBneDiff, Nat.reduceBNe, wi, er_nil]
theorem f_law01_OctetLong_ok (l : (List Str)) (atv : Int) (y_ : Bool) (h : f_law01_OctetLong l atv = some y_) : Fun Tryd.prog glP 8 [.b (.s (.d (.sl (l.map eS)))), .b (.s (.d (.int .i64 atv)))] (.b (.s (.d (.bool y_)))) := by
  refine fun_walk [] Tryd.func8 Tryd.ntmps8 cc8 cr8 (by kernel_rfl) (by simp only [List.length_cons, List.length_nil]; decide) ?_
  generalize hR : Ret _ _ _ _ _ = R_
  simp only [wz, wd, ws, Nat.reduceAdd, Nat.reduceSub, Nat.reduceMul, Nat.reduceLeDiff, Nat.reduceEqDiff, Nat.reduceLT, Nat.reduceBEq, reduceIte, reduceCtorEq, Int.reduceToNat, Nat.reduceShiftRight, Nat.reduceAnd, Nat.reduceBneDiff, Nat.reduceBNe]
  unfold f_law01_OctetLong at h; unfold c8
  refine .seq ?_
  refine Rw.walk ?_
  simp only [wz, wd, ws, Nat.reduceAdd, Nat.reduceSub, Nat.reduceMul, Nat.reduceLeDiff, Nat.reduceEqDiff, Nat.reduceLT, Nat.reduceBEq, reduceIte, reduceCtorEq, Int.reduceToNat, Nat.reduceShiftRight, Nat.reduceAnd, Nat.reduceBneDiff, Nat.reduceBNe, c8r0, semI.eq_10, semI.eq_11, semI.eq_3, semI.eq_5, semI.eq_7]
  refine .seq ?_
  refine Rw.walk ?_
  simp only [wz, wd, ws, Nat.reduceAdd, Nat.reduceSub, Nat.reduceMul, Nat.reduceLeDiff, Nat.reduceEqDiff, Nat.reduceLT, Nat.reduceBEq, reduceIte, reduceCtorEq, Int.reduceToNat, Nat.reduceShiftRight, Nat.reduceAnd, Nat.reduceBneDiff, Nat.reduceBNe, c8r1, semI.eq_10, semI.eq_11, semI.eq_3, semI.eq_5, semI.eq_7]
  obtain ⟨t, e1, h⟩ := Option.bind_eq_some_iff.1 h
  refine call_funO' [] ⟨trivial, trivial, trivial⟩ rfl ?_ (f_law01_few_ok _ _ e1) rfl (.inl rfl) ?_
  · simp only [wz, wd, ws, Nat.reduceAdd, Nat.reduceSub, Nat.reduceMul, Nat.reduceLeDiff, Nat.reduceEqDiff, Nat.reduceLT, Nat.reduceBEq, reduceIte, reduceCtorEq, Int.reduceToNat, Nat.reduceShiftRight, Nat.reduceAnd, Nat.reduceBneDiff, Nat.reduceBNe]
  simp only [wz, wd, ws, Nat.reduceAdd, Nat.reduceSub, Nat.reduceMul, Nat.reduceLeDiff, Nat.reduceEqDiff, Nat.reduceLT, Nat.reduceBEq, reduceIte, reduceCtorEq, Int.reduceToNat, Nat.reduceShiftRight, Nat.reduceAnd, Nat.reduceBneDiff, Nat.reduceBNe, c8r1, semI.eq_10, semI.eq_11, semI.eq_3, semI.eq_5, semI.eq_7]
  refine .seq ?_
  refine Rw.walk ?_
  simp only [wz, wd, ws, Nat.reduceAdd, Nat.reduceSub, Nat.reduceMul, Nat.reduceLeDiff, Nat.reduceEqDiff, Nat.reduceLT, Nat.reduceBEq, reduceIte, reduceCtorEq, Int.reduceToNat, Nat.reduceShiftRight, Nat.reduceAnd, Nat.reduceBneDiff, Nat.reduceBNe, c8r2, semI.eq_10, semI.eq_11, semI.eq_3, semI.eq_5, semI.eq_7]
  obtain ⟨t2, e2, h⟩ := Option.bind_eq_some_iff.1 h
  refine call_fun [14] false ⟨trivial, trivial, trivial⟩ rfl ?_ (f_octet_Bind_ok _ _ e2) (fun _ => rfl) (fun i hi e he => coF_get (l := [14]) (by simp only [wz, wd, ws, Nat.reduceAdd, Nat.reduceSub, Nat.reduceMul, Nat.reduceLeDiff, Nat.reduceEqDiff, Nat.reduceLT, Nat.reduceBEq, reduceIte, reduceCtorEq, Int.reduceToNat, Nat.reduceShiftRight, Nat.reduceAnd, Nat.reduceBneDiff, Nat.reduceBNe, wi]) i e hi he) ?_
  · simp only [wz, wd, ws, Nat.reduceAdd, Nat.reduceSub, Nat.reduceMul, Nat.reduceLeDiff, Nat.reduceEqDiff, Nat.reduceLT, Nat.reduceBEq, reduceIte, reduceCtorEq, Int.reduceToNat, Nat.reduceShiftRight, Nat.reduceAnd, Nat.reduceBneDiff, Nat.reduceBNe]
  simp only [wz, wd, ws, Nat.reduceAdd, Nat.reduceSub, Nat.reduceMul, Nat.reduceLeDiff, Nat.reduceEqDiff, Nat.reduceLT, Nat.reduceBEq, reduceIte, reduceCtorEq, Int.reduceToNat, Nat.reduceShiftRight, Nat.reduceAnd, Nat.reduceBneDiff, Nat.reduceBNe, c8r2, semI.eq_10, semI.eq_11, semI.eq_3, semI.eq_5, semI.eq_7]
  refine .seq ?_
  refine .seq ?_
  refine Rw.walk ?_
  simp only [wz, wd, ws, Nat.reduceAdd, Nat.reduceSub, Nat.reduceMul, Nat.reduceLeDiff, Nat.reduceEqDiff, Nat.reduceLT, Nat.reduceBEq, reduceIte, reduceCtorEq, Int.reduceToNat, Nat.reduceShiftRight, Nat.reduceAnd, Nat.reduceBneDiff, Nat.reduceBNe, c8r3, semI.eq_10, semI.eq_11, semI.eq_3, semI.eq_5, semI.eq_7]
  refine .cond (p := (t2.2 != 0)) (by first | rfl | simp only [wz, wd, ws, Nat.reduceAdd, Nat.reduceSub, Nat.reduceMul, Nat.reduceLeDiff, Nat.reduceEqDiff, Nat.reduceLT, Nat.reduceBEq, reduceIte, reduceCtorEq, Int.reduceToNat, Nat.reduceShiftRight, Nat.reduceAnd, Nat.reduceBneDiff, Nat.reduceBNe]) (fun h1 => ?_) (fun h1 => ?_)
  · rw [ite_t h1] at h
    refine .seq ?_
    refine Rw.walk ?_
    simp only [wz, wd, ws, Nat.reduceAdd, Nat.reduceSub, Nat.reduceMul, Nat.reduceLeDiff, Nat.reduceEqDiff, Nat.reduceLT, Nat.reduceBEq, reduceIte, reduceCtorEq, Int.reduceToNat, Nat.reduceShiftRight, Nat.reduceAnd, Nat.reduceBneDiff, Nat.reduceBNe, c8r4, semI.eq_10, semI.eq_11, semI.eq_3, semI.eq_5, semI.eq_7]
    obtain ⟨t3, e3, h⟩ := Option.bind_eq_some_iff.1 h
    refine call_fun [] false ⟨trivial, trivial⟩ rfl ?_ (f_law01_alive_ok _ e3) (fun _ => rfl) (fun i hi => by cases hi) ?_
    · simp only [wz, wd, ws, Nat.reduceAdd, Nat.reduceSub, Nat.reduceMul, Nat.reduceLeDiff, Nat.reduceEqDiff, Nat.reduceLT, Nat.reduceBEq, reduceIte, reduceCtorEq, Int.reduceToNat, Nat.reduceShiftRight, Nat.reduceAnd, Nat.reduceBneDiff, Nat.reduceBNe]
    simp only [wz, wd, ws, Nat.reduceAdd, Nat.reduceSub, Nat.reduceMul, Nat.reduceLeDiff, Nat.reduceEqDiff, Nat.reduceLT, Nat.reduceBEq, reduceIte, reduceCtorEq, Int.reduceToNat, Nat.reduceShiftRight, Nat.reduceAnd, Nat.reduceBneDiff, Nat.reduceBNe, c8r4, semI.eq_10, semI.eq_11, semI.eq_3, semI.eq_5, semI.eq_7]
    obtain rfl := Option.some.inj h
    refine .ret ?_
    rw [← hR]
    simp only [wz, wd, ws, Nat.reduceAdd, Nat.reduceSub, Nat.reduceMul, Nat.reduceLeDiff, Nat.reduceEqDiff, Nat.reduceLT, Nat.reduceBEq, reduceIte, reduceCtorEq, Int.reduceToNat, Nat.reduceShiftRight, Nat.reduceAnd, Nat.reduceBneDiff, Nat.reduceBNe, rv8]
  · rw [ite_f h1] at h
    refine .skip ?_
    refine .seq ?_
    refine Rw.walk ?_
    obtain ⟨g4, h⟩ := gd_iff.1 h
    obtain ⟨g5, h⟩ := gd_iff.1 h
    simp only [wz, wd, ws, Nat.reduceAdd, Nat.reduceSub, Nat.reduceMul, Nat.reduceLeDiff, Nat.reduceEqDiff, Nat.reduceLT, Nat.reduceBEq, reduceIte, reduceCtorEq, Int.reduceToNat, Nat.reduceShiftRight, Nat.reduceAnd, Nat.reduceBneDiff, Nat.reduceBNe, c8r5, semI.eq_10, semI.eq_11, semI.eq_3, semI.eq_5, semI.eq_7]
    repeat (refine And.intro ?_ ?_; · first | omega | (intro q; simp only [wz, wd, ws, Nat.reduceAdd, Nat.reduceSub, Nat.reduceMul, Nat.reduceLeDiff, Nat.reduceEqDiff, Nat.reduceLT, Nat.reduceBEq, reduceIte, reduceCtorEq, Int.reduceToNat, Nat.reduceShiftRight, Nat.reduceAnd, Nat.reduceBneDiff, Nat.reduceBNe, q]; done))
    obtain ⟨atv2, e6, h⟩ := Option.bind_eq_some_iff.1 h
    replace e6 := Option.some.inj e6
    first | simp only [e6] | (simp only [wz, wd, ws, Nat.reduceAdd, Nat.reduceSub, Nat.reduceMul, Nat.reduceLeDiff, Nat.reduceEqDiff, Nat.reduceLT, Nat.reduceBEq, reduceIte, reduceCtorEq, Int.reduceToNat, Nat.reduceShiftRight, Nat.reduceAnd, Nat.reduceBneDiff, Nat.reduceBNe] at e6; simp only [e6])
    refine .seq ?_
    refine Rw.walk ?_
    simp only [wz, wd, ws, Nat.reduceAdd, Nat.reduceSub, Nat.reduceMul, Nat.reduceLeDiff, Nat.reduceEqDiff, Nat.reduceLT, Nat.reduceBEq, reduceIte, reduceCtorEq, Int.reduceToNat, Nat.reduceShiftRight, Nat.reduceAnd, Nat.reduceBneDiff, Nat.reduceBNe, c8r6, semI.eq_10, semI.eq_11, semI.eq_3, semI.eq_5, semI.eq_7]
    refine .seq ?_
    refine .seq ?_
    refine Rw.walk ?_
    simp only [wz, wd, ws, Nat.reduceAdd, Nat.reduceSub, Nat.reduceMul, Nat.reduceLeDiff, Nat.reduceEqDiff, Nat.reduceLT, Nat.reduceBEq, reduceIte, reduceCtorEq, Int.reduceToNat, Nat.reduceShiftRight, Nat.reduceAnd, Nat.reduceBneDiff, Nat.reduceBNe, c8r7, semI.eq_10, semI.eq_11, semI.eq_3, semI.eq_5, semI.eq_7]
    refine .blk ?_
    obtain ⟨s, hf, h⟩ := Option.bind_eq_some_iff.1 h
    refine .loop (.weak (Imp.co [] _ _ ?c1 ?c2 ?c3 ?c4 ?c5) (f_law01_OctetLong_l13_ok t t2 atv2 _ _ hR _ _ _ _ _ hf _ ?_))
    case c1 | c2 | c3 | c4 | c5 => simp only [wz, wd, ws, Nat.reduceAdd, Nat.reduceSub, Nat.reduceMul, Nat.reduceLeDiff, Nat.reduceEqDiff, Nat.reduceLT, Nat.reduceBEq, reduceIte, reduceCtorEq, Int.reduceToNat, Nat.reduceShiftRight, Nat.reduceAnd, Nat.reduceBneDiff, Nat.reduceBNe, wi, er_nil]
    · intro s_ hs; subst hs
      refine .seq ?_
      refine Rw.walk ?_
      obtain ⟨g8, h⟩ := gd_iff.1 h
      simp only [wz, wd, ws, Nat.reduceAdd, Nat.reduceSub, Nat.reduceMul, Nat.reduceLeDiff, Nat.reduceEqDiff, Nat.reduceLT, Nat.reduceBEq, reduceIte, reduceCtorEq, Int.reduceToNat, Nat.reduceShiftRight, Nat.reduceAnd, Nat.reduceBneDiff, Nat.reduceBNe, c8r13, semI.eq_10, semI.eq_11, semI.eq_3, semI.eq_5, semI.eq_7]
      repeat (refine And.intro ?_ ?_; · first | omega | (intro q; simp only [wz, wd, ws, Nat.reduceAdd, Nat.reduceSub, Nat.reduceMul, Nat.reduceLeDiff, Nat.reduceEqDiff, Nat.reduceLT, Nat.reduceBEq, reduceIte, reduceCtorEq, Int.reduceToNat, Nat.reduceShiftRight, Nat.reduceAnd, Nat.reduceBneDiff, Nat.reduceBNe, q]; done))
      obtain ⟨t3, e9, h⟩ := Option.bind_eq_some_iff.1 h
      refine call_fun [] true ⟨trivial, trivial, trivial⟩ rfl ?_ (f_octet_Loose_ok _ _ e9) (fun h => by cases h) (fun i hi => by cases hi) ?_
      · simp only [wz, wd, ws, Nat.reduceAdd, Nat.reduceSub, Nat.reduceMul, Nat.reduceLeDiff, Nat.reduceEqDiff, Nat.reduceLT, Nat.reduceBEq, reduceIte, reduceCtorEq, Int.reduceToNat, Nat.reduceShiftRight, Nat.reduceAnd, Nat.reduceBneDiff, Nat.reduceBNe]
      simp only [wz, wd, ws, Nat.reduceAdd, Nat.reduceSub, Nat.reduceMul, Nat.reduceLeDiff, Nat.reduceEqDiff, Nat.reduceLT, Nat.reduceBEq, reduceIte, reduceCtorEq, Int.reduceToNat, Nat.reduceShiftRight, Nat.reduceAnd, Nat.reduceBneDiff, Nat.reduceBNe, c8r13, semI.eq_10, semI.eq_11, semI.eq_3, semI.eq_5, semI.eq_7]
      refine .seq ?_
      refine Rw.walk ?_
      simp only [wz, wd, ws, Nat.reduceAdd, Nat.reduceSub, Nat.reduceMul, Nat.reduceLeDiff, Nat.reduceEqDiff, Nat.reduceLT, Nat.reduceBEq, reduceIte, reduceCtorEq, Int.reduceToNat, Nat.reduceShiftRight, Nat.reduceAnd, Nat.reduceBneDiff, Nat.reduceBNe, c8r14, semI.eq_10, semI.eq_11, semI.eq_3, semI.eq_5, semI.eq_7]
      obtain ⟨t4, e10, h⟩ := Option.bind_eq_some_iff.1 h
      refine call_fun [] false ⟨trivial, trivial⟩ rfl ?_ (f_law01_alive_ok _ e10) (fun _ => rfl) (fun i hi => by cases hi) ?_
      · simp only [wz, wd, ws, Nat.reduceAdd, Nat.reduceSub, Nat.reduceMul, Nat.reduceLeDiff, Nat.reduceEqDiff, Nat.reduceLT, Nat.reduceBEq, reduceIte, reduceCtorEq, Int.reduceToNat, Nat.reduceShiftRight, Nat.reduceAnd, Nat.reduceBneDiff, Nat.reduceBNe]
      simp only [wz, wd, ws, Nat.reduceAdd, Nat.reduceSub, Nat.reduceMul, Nat.reduceLeDiff, Nat.reduceEqDiff, Nat.reduceLT, Nat.reduceBEq, reduceIte, reduceCtorEq, Int.reduceToNat, Nat.reduceShiftRight, Nat.reduceAnd, Nat.reduceBneDiff, Nat.reduceBNe, c8r14, semI.eq_10, semI.eq_11, semI.eq_3, semI.eq_5, semI.eq_7]
      repeat (refine And.intro ?_ ?_; · first | omega | (intro q; simp only [wz, wd, ws, Nat.reduceAdd, Nat.reduceSub, Nat.reduceMul, Nat.reduceLeDiff, Nat.reduceEqDiff, Nat.reduceLT, Nat.reduceBEq, reduceIte, reduceCtorEq, Int.reduceToNat, Nat.reduceShiftRight, Nat.reduceAnd, Nat.reduceBneDiff, Nat.reduceBNe, q]; done))
      obtain rfl := Option.some.inj h
      refine .ret ?_
      rw [← hR]
      simp only [wz, wd, ws, Nat.reduceAdd, Nat.reduceSub, Nat.reduceMul, Nat.reduceLeDiff, Nat.reduceEqDiff, Nat.reduceLT, Nat.reduceBEq, reduceIte, reduceCtorEq, Int.reduceToNat, Nat.reduceShiftRight, Nat.reduceAnd, Nat.reduceBneDiff, Nat.reduceBNe, rv8]
-- 52 strings.IndexByte
def c52r0 : List Opn := [
  ⟨(some 4), none, .mv (.c (.s (.d (.int .i64 0))))⟩]
def c52r1 : List Opn := [
  ⟨(some 5), none, .mv (.t 0)⟩, 
  ⟨(some 6), none, .mv (.t 1)⟩, 
  ⟨(some 7), none, .call (.fn 67) [(.t 5), (.t 6)]⟩, 
  ⟨(some 4), none, .mv (.t 7)⟩]
def c52 : C := .seq (.reg c52r0 none [0, 1]) (.seq (.reg c52r1 none [4]) (.ret))
def k52 : List (Nat × List Nat) := [(1, [4]), (0, [0, 1])]
theorem cc52 : (Tryd.f52.body).bind (cC Tryd.prog 8 k52) = some c52 := by kernel_rfl
def rv52 : List RV := [.t 4]
theorem cr52 : cRVs Tryd.prog Tryd.f52.results.toList = some rv52 := by kernel_rfl
theorem f_strings_IndexByte_ok (s : Str) (c : Int) (y_ : Int) (h : f_strings_IndexByte s c = some y_) : Fun Tryd.prog glP 52 [.b (.s (.d (.str s))), .b (.s (.d (.int .u8 c)))] (.b (.s (.d (.int .i64 y_)))) := by
  refine fun_walk [] Tryd.func52 Tryd.ntmps52 cc52 cr52 (by kernel_rfl) (by simp only [List.length_cons, List.length_nil]; decide) ?_
  generalize hR : Ret _ _ _ _ _ = R_
  simp only [wz, wd, ws, Nat.reduceAdd, Nat.reduceSub, Nat.reduceMul, Nat.reduceLeDiff, Nat.reduceEqDiff, Nat.reduceLT, Nat.reduceBEq, reduceIte, reduceCtorEq, Int.reduceToNat, Nat.reduceShiftRight, Nat.reduceAnd, Nat.reduceBneDiff, Nat.reduceBNe]
  unfold f_strings_IndexByte at h; unfold c52
  refine .seq ?_
  refine Rw.walk ?_
  simp only [wz, wd, ws, Nat.reduceAdd, Nat.reduceSub, Nat.reduceMul, Nat.reduceLeDiff, Nat.reduceEqDiff, Nat.reduceLT, Nat.reduceBEq, reduceIte, reduceCtorEq, Int.reduceToNat, Nat.reduceShiftRight, Nat.reduceAnd, Nat.reduceBneDiff, Nat.reduceBNe, c52r0, semI.eq_10, semI.eq_11, semI.eq_3, semI.eq_5, semI.eq_7]
  refine .seq ?_
  refine Rw.walk ?_
  simp only [wz, wd, ws, Nat.reduceAdd, Nat.reduceSub, Nat.reduceMul, Nat.reduceLeDiff, Nat.reduceEqDiff, Nat.reduceLT, Nat.reduceBEq, reduceIte, reduceCtorEq, Int.reduceToNat, Nat.reduceShiftRight, Nat.reduceAnd, Nat.reduceBneDiff, Nat.reduceBNe, c52r1, semI.eq_10, semI.eq_11, semI.eq_3, semI.eq_5, semI.eq_7]
  obtain ⟨t, e1, h⟩ := Option.bind_eq_some_iff.1 h
  refine call_fun [] false ⟨trivial, trivial, trivial, trivial⟩ rfl ?_ (f_internal_stringslite_IndexByte_ok _ _ _ e1) (fun _ => rfl) (fun i hi => by cases hi) ?_
  · simp only [wz, wd, ws, Nat.reduceAdd, Nat.reduceSub, Nat.reduceMul, Nat.reduceLeDiff, Nat.reduceEqDiff, Nat.reduceLT, Nat.reduceBEq, reduceIte, reduceCtorEq, Int.reduceToNat, Nat.reduceShiftRight, Nat.reduceAnd, Nat.reduceBneDiff, Nat.reduceBNe]
  simp only [wz, wd, ws, Nat.reduceAdd, Nat.reduceSub, Nat.reduceMul, Nat.reduceLeDiff, Nat.reduceEqDiff, Nat.reduceLT, Nat.reduceBEq, reduceIte, reduceCtorEq, Int.reduceToNat, Nat.reduceShiftRight, Nat.reduceAnd, Nat.reduceBneDiff, Nat.reduceBNe, c52r1, semI.eq_10, semI.eq_11, semI.eq_3, semI.eq_5, semI.eq_7]
  obtain rfl := Option.some.inj h
  refine .ret ?_
  rw [← hR]
  simp only [wz, wd, ws, Nat.reduceAdd, Nat.reduceSub, Nat.reduceMul, Nat.reduceLeDiff, Nat.reduceEqDiff, Nat.reduceLT, Nat.reduceBEq, reduceIte, reduceCtorEq, Int.reduceToNat, Nat.reduceShiftRight, Nat.reduceAnd, Nat.reduceBneDiff, Nat.reduceBNe, rv52]
-- 33 consignor/octet.Bytes
def c33r0 : List Opn := [
  ⟨(some 2), none, .mv (.c (.s (.d (.str []))))⟩, 
  ⟨(some 3), none, .mv (.c (.s (.d (.int .i64 0))))⟩]
def c33r1 : List Opn := [
  ⟨(some 8), none, .mv (.t 0)⟩, 
  ⟨(some 9), none, .len .str (.t 8)⟩, 
  ⟨(some 10), none, .bin .rem (.t 9) (.c (.s (.d (.int .i64 2))))⟩, 
  ⟨(some 11), none, .bin .neq (.t 10) (.c (.s (.d (.int .i64 0))))⟩]
def c33r2 : List Opn := [
  ⟨(some 2), none, .mv (.c (.s (.d (.str []))))⟩, 
  ⟨(some 3), none, .mv (.c (.s (.d (.int .i64 4))))⟩]
def c33r3 : List Opn := [
  ⟨(some 12), none, .mv (.t 0)⟩, 
  ⟨(some 13), none, .len .str (.t 12)⟩, 
  ⟨(some 14), none, .bin .quo (.t 13) (.c (.s (.d (.int .i64 2))))⟩, 
  ⟨(some 15), none, .mksl 1 1 [(.d (.int .u8 0))] (.t 14) (.t 14)⟩, 
  ⟨(some 4), none, .mv (.t 15)⟩]
def c33r4 : List Opn := [
  ⟨(some 16), none, .mv (.t 4)⟩, 
  ⟨(some 17), none, .len (.sl 0) (.t 16)⟩, 
  ⟨(some 18), none, .mv (.c (.s (.d (.int .i64 0))))⟩]
def c33r5 : List Opn := [
  ⟨(some 19), none, .bin .lss (.t 18) (.t 17)⟩]
def c33r6 : List Opn := [
  ⟨(some 20), none, .mv (.t 18)⟩, 
  ⟨(some 5), none, .mv (.t 20)⟩]
def c33r7 : List Opn := [
  ⟨(some 21), none, .mv (.t 0)⟩, 
  ⟨(some 22), none, .mv (.t 5)⟩, 
  ⟨(some 23), none, .bin .mul (.c (.s (.d (.int .i64 2)))) (.t 22)⟩, 
  ⟨(some 24), none, .idx .str (.t 21) (.t 23)⟩, 
  ⟨(some 25), none, .call (.fn 52) [(.c (.s (.d (.str [48, 49, 50, 51, 52, 53, 54, 55, 56, 57, 97, 98, 99, 100, 101, 102])))), (.t 24)]⟩, 
  ⟨(some 26), none, .mv (.t 0)⟩, 
  ⟨(some 27), none, .mv (.t 5)⟩, 
  ⟨(some 28), none, .bin .mul (.c (.s (.d (.int .i64 2)))) (.t 27)⟩, 
  ⟨(some 29), none, .bin .add (.t 28) (.c (.s (.d (.int .i64 1))))⟩, 
  ⟨(some 30), none, .idx .str (.t 26) (.t 29)⟩, 
  ⟨(some 31), none, .call (.fn 52) [(.c (.s (.d (.str [48, 49, 50, 51, 52, 53, 54, 55, 56, 57, 97, 98, 99, 100, 101, 102])))), (.t 30)]⟩, 
  ⟨(some 6), none, .mv (.t 25)⟩, 
  ⟨(some 7), none, .mv (.t 31)⟩]
def c33r8 : List Opn := [
  ⟨(some 32), none, .mv (.t 6)⟩, 
  ⟨(some 33), none, .bin .lss (.t 32) (.c (.s (.d (.int .i64 0))))⟩, 
  ⟨(some 34), none, .mv (.t 33)⟩, 
  ⟨(some 35), some (34, false), .mv (.t 7)⟩, 
  ⟨(some 36), some (34, false), .bin .lss (.t 35) (.c (.s (.d (.int .i64 0))))⟩, 
  ⟨(some 37), none, .pick (.t 34) (.c (.s (.d (.bool true)))) (.t 36)⟩]
def c33r9 : List Opn := [
  ⟨(some 2), none, .mv (.c (.s (.d (.str []))))⟩, 
  ⟨(some 3), none, .mv (.c (.s (.d (.int .i64 4))))⟩]
def c33r10 : List Opn := [
  ⟨(some 38), none, .mv (.t 4)⟩, 
  ⟨(some 39), none, .mv (.t 5)⟩, 
  ⟨(some 40), none, .mv (.t 6)⟩, 
  ⟨(some 41), none, .bin .mul (.t 40) (.c (.s (.d (.int .i64 16))))⟩, 
  ⟨(some 42), none, .mv (.t 7)⟩, 
  ⟨(some 43), none, .bin .add (.t 41) (.t 42)⟩, 
  ⟨(some 44), none, .cv (.toInt .u8) (.t 43)⟩, 
  ⟨(some 45), none, .iadr (.sl 1) (.t 38) (.t 39)⟩, 
  ⟨none, none, .store 1 (.t 45) (.t 44)⟩]
def c33r11 : List Opn := [
  ⟨(some 46), none, .bin .add (.t 18) (.c (.s (.d (.int .i64 1))))⟩, 
  ⟨(some 18), none, .mv (.t 46)⟩]
def c33l12 : C := .seq (.reg c33r5 none [0, 4, 17, 18, 19]) (.seq (.cond (.t 19) (.skip) (.exit 0)) (.seq (.blk 1 (.seq (.reg c33r6 none [0, 4, 5, 17, 18]) (.seq (.reg c33r7 (some [0, 0, 2, 7, 15, 0, 0, 64, 192, 480, 1023, 2047, 4095]) [0, 4, 5, 6, 7, 17, 18]) (.seq (.seq (.reg c33r8 none [0, 4, 5, 6, 7, 17, 18, 37]) (.cond (.t 37) (.seq (.reg c33r9 none [2, 3]) (.ret)) (.skip))) (.reg c33r10 none [0, 4, 17, 18]))))) (.reg c33r11 none [0, 4, 17, 18])))
def c33r12 : List Opn := [
  ⟨(some 47), none, .mv (.t 4)⟩, 
  ⟨(some 48), none, .cv .b2s (.t 47)⟩, 
  ⟨(some 2), none, .mv (.t 48)⟩, 
  ⟨(some 3), none, .mv (.c (.s (.d (.int .i64 0))))⟩]
def c33 : C := .seq (.reg c33r0 none [0]) (.seq (.seq (.reg c33r1 none [0, 11]) (.cond (.t 11) (.seq (.reg c33r2 none [2, 3]) (.ret)) (.skip))) (.seq (.reg c33r3 none [0, 4]) (.seq (.seq (.reg c33r4 none [0, 4, 17, 18]) (.blk 0 (.loop c33l12))) (.seq (.reg c33r12 none [2, 3]) (.ret)))))
def k33 : List (Nat × List Nat) := [(12, [2, 3]), (11, [0, 4, 17, 18]), (10, [0, 4, 17, 18]), (9, [2, 3]), (8, [0, 4, 5, 6, 7, 17, 18, 37]), (7, [0, 4, 5, 6, 7, 17, 18]), (6, [0, 4, 5, 17, 18]), (5, [0, 4, 17, 18, 19]), (4, [0, 4, 17, 18]), (3, [0, 4]), (2, [2, 3]), (1, [0, 11]), (0, [0])]
theorem cc33 : (Tryd.f33.body).bind (cC Tryd.prog 49 k33) = some c33 := by kernel_rfl
def rv33 : List RV := [.t 2, .t 3]
theorem cr33 : cRVs Tryd.prog Tryd.f33.results.toList = some rv33 := by kernel_rfl
theorem f_octet_Bytes_l12_ok (s : Str) (y_ : Str × Int) (R_ : St → Prop) (hR : (Ret Tryd.prog glP [] rv33 (.tup [.s (.d (.str y_.1)), .s (.d (.int .i64 y_.2))])) = R_) : ∀ (m_ : Nat) (v18 : Int) (out : (List Int)) (res_ : (Int × (List Int)) ⊕ (Str × Int)) (h : f_octet_Bytes_l12 s m_ v18 out = some res_) (k_ : List It) (hx : ∀ s_ : Int × (List Int), res_ = .inl s_ → W Tryd.prog glP 49 k_ ⟨lkT [(0, .b (.s (.d (.str s)))), (4, .b (.s (.own 15 s_.2.length))), (17, .b (.s (.d (.int .i64 ((List.replicate (IntKind.i64.wrap ((s.length : Int).tdiv 2)).toNat 0).length : Int))))), (18, .b (.s (.d (.int .i64 s_.1))))], lkG [(15, ⟨1, er (eI .u8) s_.2, false⟩)]⟩ R_) (hr : ∀ z_ : Str × Int, res_ = .inr z_ → z_ = y_), W Tryd.prog glP 49 (.c c33l12 :: .lp c33l12 :: .blk 0 :: k_) ⟨lkT [(0, .b (.s (.d (.str s)))), (4, .b (.s (.own 15 out.length))), (17, .b (.s (.d (.int .i64 ((List.replicate (IntKind.i64.wrap ((s.length : Int).tdiv 2)).toNat 0).length : Int))))), (18, .b (.s (.d (.int .i64 v18))))], lkG [(15, ⟨1, er (eI .u8) out, false⟩)]⟩ R_ := by
  intro m_; induction m_ with
  | zero => intro v18 out res_ h; rw [f_octet_Bytes_l12.eq_1] at h; cases h
  | succ m_ ih =>
    intro v18 out res_ h k_ hx hr; rw [f_octet_Bytes_l12.eq_2] at h; refine W.cdef c33l12.eq_1 ?_
    refine .seq ?_
    refine Rw.walk ?_
    simp only [wz, wd, ws, Nat.reduceAdd, Nat.reduceSub, Nat.reduceMul, Nat.reduceLeDiff, Nat.reduceEqDiff, Nat.reduceLT, Nat.reduceBEq, reduceIte, reduceCtorEq, Int.reduceToNat, Nat.reduceShiftRight, Nat.reduceAnd, Nat.reduceBneDiff, Nat.reduceBNe, c33r5, semI.eq_10, semI.eq_11, semI.eq_3, semI.eq_5, semI.eq_7]
    refine .seq ?_
    refine .cond (p := (decide (v18 < ((List.replicate (IntKind.i64.wrap ((s.length : Int).tdiv 2)).toNat 0).length : Int)))) (by first | rfl | simp only [wz, wd, ws, Nat.reduceAdd, Nat.reduceSub, Nat.reduceMul, Nat.reduceLeDiff, Nat.reduceEqDiff, Nat.reduceLT, Nat.reduceBEq, reduceIte, reduceCtorEq, Int.reduceToNat, Nat.reduceShiftRight, Nat.reduceAnd, Nat.reduceBneDiff, Nat.reduceBNe]) (fun h1 => ?_) (fun h1 => ?_)
    · rw [ite_t h1] at h
      refine .skip ?_
      refine .seq ?_
      refine .blk ?_
      refine .seq ?_
      refine Rw.walk ?_
      simp only [wz, wd, ws, Nat.reduceAdd, Nat.reduceSub, Nat.reduceMul, Nat.reduceLeDiff, Nat.reduceEqDiff, Nat.reduceLT, Nat.reduceBEq, reduceIte, reduceCtorEq, Int.reduceToNat, Nat.reduceShiftRight, Nat.reduceAnd, Nat.reduceBneDiff, Nat.reduceBNe, c33r6, semI.eq_10, semI.eq_11, semI.eq_3, semI.eq_5, semI.eq_7]
      refine .seq ?_
      refine RwD.walk ?_
      simp only [wz, wd, ws, Nat.reduceAdd, Nat.reduceSub, Nat.reduceMul, Nat.reduceLeDiff, Nat.reduceEqDiff, Nat.reduceLT, Nat.reduceBEq, reduceIte, reduceCtorEq, Int.reduceToNat, Nat.reduceShiftRight, Nat.reduceAnd, Nat.reduceBneDiff, Nat.reduceBNe, c33r7, semI.eq_10, semI.eq_11, semI.eq_3, semI.eq_5, semI.eq_7]
      obtain ⟨c, e2, h⟩ := Option.bind_eq_some_iff.1 h
      refine GoD1.of (sem_idx e2 (by rfl) (by rfl)) ?_
      simp only [wz, wd, ws, Nat.reduceAdd, Nat.reduceSub, Nat.reduceMul, Nat.reduceLeDiff, Nat.reduceEqDiff, Nat.reduceLT, Nat.reduceBEq, reduceIte, reduceCtorEq, Int.reduceToNat, Nat.reduceShiftRight, Nat.reduceAnd, Nat.reduceBneDiff, Nat.reduceBNe, c33r7, semI.eq_10, semI.eq_11, semI.eq_3, semI.eq_5, semI.eq_7]
      obtain ⟨t, e3, h⟩ := Option.bind_eq_some_iff.1 h
      refine call_fun [] false ⟨trivial, trivial, trivial, trivial⟩ rfl ?_ (f_strings_IndexByte_ok _ _ _ e3) (fun _ => rfl) (fun i hi => by cases hi) ?_
      · simp only [wz, wd, ws, Nat.reduceAdd, Nat.reduceSub, Nat.reduceMul, Nat.reduceLeDiff, Nat.reduceEqDiff, Nat.reduceLT, Nat.reduceBEq, reduceIte, reduceCtorEq, Int.reduceToNat, Nat.reduceShiftRight, Nat.reduceAnd, Nat.reduceBneDiff, Nat.reduceBNe]
      simp only [wz, wd, ws, Nat.reduceAdd, Nat.reduceSub, Nat.reduceMul, Nat.reduceLeDiff, Nat.reduceEqDiff, Nat.reduceLT, Nat.reduceBEq, reduceIte, reduceCtorEq, Int.reduceToNat, Nat.reduceShiftRight, Nat.reduceAnd, Nat.reduceBneDiff, Nat.reduceBNe, c33r7, semI.eq_10, semI.eq_11, semI.eq_3, semI.eq_5, semI.eq_7]
      obtain ⟨c2, e4, h⟩ := Option.bind_eq_some_iff.1 h
      refine GoD1.of (sem_idx e4 (by rfl) (by rfl)) ?_
      simp only [wz, wd, ws, Nat.reduceAdd, Nat.reduceSub, Nat.reduceMul, Nat.reduceLeDiff, Nat.reduceEqDiff, Nat.reduceLT, Nat.reduceBEq, reduceIte, reduceCtorEq, Int.reduceToNat, Nat.reduceShiftRight, Nat.reduceAnd, Nat.reduceBneDiff, Nat.reduceBNe, c33r7, semI.eq_10, semI.eq_11, semI.eq_3, semI.eq_5, semI.eq_7]
      obtain ⟨t2, e5, h⟩ := Option.bind_eq_some_iff.1 h
      refine call_fun [] false ⟨trivial, trivial, trivial, trivial⟩ rfl ?_ (f_strings_IndexByte_ok _ _ _ e5) (fun _ => rfl) (fun i hi => by cases hi) ?_
      · simp only [wz, wd, ws, Nat.reduceAdd, Nat.reduceSub, Nat.reduceMul, Nat.reduceLeDiff, Nat.reduceEqDiff, Nat.reduceLT, Nat.reduceBEq, reduceIte, reduceCtorEq, Int.reduceToNat, Nat.reduceShiftRight, Nat.reduceAnd, Nat.reduceBneDiff, Nat.reduceBNe]
      simp only [wz, wd, ws, Nat.reduceAdd, Nat.reduceSub, Nat.reduceMul, Nat.reduceLeDiff, Nat.reduceEqDiff, Nat.reduceLT, Nat.reduceBEq, reduceIte, reduceCtorEq, Int.reduceToNat, Nat.reduceShiftRight, Nat.reduceAnd, Nat.reduceBneDiff, Nat.reduceBNe, c33r7, semI.eq_10, semI.eq_11, semI.eq_3, semI.eq_5, semI.eq_7]
      refine .seq ?_
      refine .seq ?_
      refine Rw.walk ?_
      simp only [wz, wd, ws, Nat.reduceAdd, Nat.reduceSub, Nat.reduceMul, Nat.reduceLeDiff, Nat.reduceEqDiff, Nat.reduceLT, Nat.reduceBEq, reduceIte, reduceCtorEq, Int.reduceToNat, Nat.reduceShiftRight, Nat.reduceAnd, Nat.reduceBneDiff, Nat.reduceBNe, c33r8, semI.eq_10, semI.eq_11, semI.eq_3, semI.eq_5, semI.eq_7]
      repeat (refine And.intro ?_ ?_; · first | omega | (intro q; simp only [wz, wd, ws, Nat.reduceAdd, Nat.reduceSub, Nat.reduceMul, Nat.reduceLeDiff, Nat.reduceEqDiff, Nat.reduceLT, Nat.reduceBEq, reduceIte, reduceCtorEq, Int.reduceToNat, Nat.reduceShiftRight, Nat.reduceAnd, Nat.reduceBneDiff, Nat.reduceBNe, q]; done))
      refine .cond (p := ((decide (t < 0)) || (decide (t2 < 0)))) (by first | rfl | simp only [wz, wd, ws, Nat.reduceAdd, Nat.reduceSub, Nat.reduceMul, Nat.reduceLeDiff, Nat.reduceEqDiff, Nat.reduceLT, Nat.reduceBEq, reduceIte, reduceCtorEq, Int.reduceToNat, Nat.reduceShiftRight, Nat.reduceAnd, Nat.reduceBneDiff, Nat.reduceBNe]) (fun h1 => ?_) (fun h1 => ?_)
      · rw [ite_t h1] at h
        refine .seq ?_
        refine Rw.walk ?_
        simp only [wz, wd, ws, Nat.reduceAdd, Nat.reduceSub, Nat.reduceMul, Nat.reduceLeDiff, Nat.reduceEqDiff, Nat.reduceLT, Nat.reduceBEq, reduceIte, reduceCtorEq, Int.reduceToNat, Nat.reduceShiftRight, Nat.reduceAnd, Nat.reduceBneDiff, Nat.reduceBNe, c33r9, semI.eq_10, semI.eq_11, semI.eq_3, semI.eq_5, semI.eq_7]
        obtain rfl := Option.some.inj h; obtain rfl := hr _ rfl
        refine .ret ?_
        rw [← hR]
        simp only [wz, wd, ws, Nat.reduceAdd, Nat.reduceSub, Nat.reduceMul, Nat.reduceLeDiff, Nat.reduceEqDiff, Nat.reduceLT, Nat.reduceBEq, reduceIte, reduceCtorEq, Int.reduceToNat, Nat.reduceShiftRight, Nat.reduceAnd, Nat.reduceBneDiff, Nat.reduceBNe, rv33]
      · rw [ite_f h1] at h
        refine .skip ?_
        refine Rw.walk ?_
        simp only [wz, wd, ws, Nat.reduceAdd, Nat.reduceSub, Nat.reduceMul, Nat.reduceLeDiff, Nat.reduceEqDiff, Nat.reduceLT, Nat.reduceBEq, reduceIte, reduceCtorEq, Int.reduceToNat, Nat.reduceShiftRight, Nat.reduceAnd, Nat.reduceBneDiff, Nat.reduceBNe, c33r10, semI.eq_3, semI.eq_5, semI.eq_7]
        obtain ⟨x, e6, h⟩ := Option.bind_eq_some_iff.1 h
        refine Go1.of (sem_iadrO (l := out) e6 (by rfl) (by rfl) (by rfl)) ?_
        simp only [wz, wd, ws, Nat.reduceAdd, Nat.reduceSub, Nat.reduceMul, Nat.reduceLeDiff, Nat.reduceEqDiff, Nat.reduceLT, Nat.reduceBEq, reduceIte, reduceCtorEq, Int.reduceToNat, Nat.reduceShiftRight, Nat.reduceAnd, Nat.reduceBneDiff, Nat.reduceBNe, c33r10, semI.eq_3, semI.eq_5, semI.eq_7, er_get e6]
        refine Go1.of (sem_store (enc := (eI .u8)) (l := out) (a := x) (a' := (IntKind.u8.wrap (IntKind.i64.wrap ((IntKind.i64.wrap (t * 16)) + t2)))) (v := .b (.s (.d (.int .u8 (IntKind.u8.wrap (IntKind.i64.wrap ((IntKind.i64.wrap (t * 16)) + t2))))))) (by rfl) (by rfl) (er_get e6) (by rfl) (by trivial) (by rfl) (Nat.le_of_ble_eq_true (by rfl)) (by rfl)) ?_
        simp only [wz, wd, ws, Nat.reduceAdd, Nat.reduceSub, Nat.reduceMul, Nat.reduceLeDiff, Nat.reduceEqDiff, Nat.reduceLT, Nat.reduceBEq, reduceIte, reduceCtorEq, Int.reduceToNat, Nat.reduceShiftRight, Nat.reduceAnd, Nat.reduceBneDiff, Nat.reduceBNe, c33r10, semI.eq_3, semI.eq_5, semI.eq_7, er_get e6]
        refine .eblk ?_
        refine Rw.walk ?_
        simp only [wz, wd, ws, Nat.reduceAdd, Nat.reduceSub, Nat.reduceMul, Nat.reduceLeDiff, Nat.reduceEqDiff, Nat.reduceLT, Nat.reduceBEq, reduceIte, reduceCtorEq, Int.reduceToNat, Nat.reduceShiftRight, Nat.reduceAnd, Nat.reduceBneDiff, Nat.reduceBNe, c33r11, semI.eq_10, semI.eq_11, semI.eq_3, semI.eq_5, semI.eq_7, er_get e6]
        refine .lp ?_
        refine .weak (Imp.co [] _ _ ?_ ?_ ?_ ?_ ?_) (ih (IntKind.i64.wrap (v18 + 1)) (out.set v18.toNat (IntKind.u8.wrap (IntKind.i64.wrap ((IntKind.i64.wrap (t * 16)) + t2)))) _ h k_ hx hr) <;> simp only [wz, wd, ws, Nat.reduceAdd, Nat.reduceSub, Nat.reduceMul, Nat.reduceLeDiff, Nat.reduceEqDiff, Nat.reduceLT, Nat.reduceBEq, reduceIte, reduceCtorEq, Int.reduceToNat, Nat.reduceShiftRight, Nat.reduceAnd, Nat.reduceBneDiff, Nat.reduceBNe, wi, er_nil]
    · rw [ite_f h1] at h
      refine .exit rfl ?_
      obtain rfl := Option.some.inj h
      refine .weak (Imp.co [] _ _ ?_ ?_ ?_ ?_ ?_) (hx _ rfl) <;> simp only [wz, wd, ws, Nat.reduceAdd, Nat.reduceSub, Nat.reduceMul, Nat.reduceLeDiff, Nat.reduceEqDiff, Nat.reduceLT, Nat.reduceBEq, reduceIte, reduceCtorEq, Int.reduceToNat, Nat.reduceShiftRight, Nat.reduceAnd, Nat.reduceBneDiff, Nat.reduceBNe, wi, er_nil]
theorem f_octet_Bytes_ok (s : Str) (y_ : Str × Int) (h : f_octet_Bytes s = some y_) : Fun Tryd.prog glP 33 [.b (.s (.d (.str s)))] (.tup [.s (.d (.str y_.1)), .s (.d (.int .i64 y_.2))]) := by
  refine fun_walk [] Tryd.func33 Tryd.ntmps33 cc33 cr33 (by kernel_rfl) (by simp only [List.length_cons, List.length_nil]; decide) ?_
  generalize hR : Ret _ _ _ _ _ = R_
  simp only [wz, wd, ws, Nat.reduceAdd, Nat.reduceSub, Nat.reduceMul, Nat.reduceLeDiff, Nat.reduceEqDiff, Nat.reduceLT, Nat.reduceBEq, reduceIte, reduceCtorEq, Int.reduceToNat, Nat.reduceShiftRight, Nat.reduceAnd, Nat.reduceBneDiff, Nat.reduceBNe]
  unfold f_octet_Bytes at h; unfold c33
  refine .seq ?_
  refine Rw.walk ?_
  simp only [wz, wd, ws, Nat.reduceAdd, Nat.reduceSub, Nat.reduceMul, Nat.reduceLeDiff, Nat.reduceEqDiff, Nat.reduceLT, Nat.reduceBEq, reduceIte, reduceCtorEq, Int.reduceToNat, Nat.reduceShiftRight, Nat.reduceAnd, Nat.reduceBneDiff, Nat.reduceBNe, c33r0, semI.eq_10, semI.eq_11, semI.eq_3, semI.eq_5, semI.eq_7]
  refine .seq ?_
  refine .seq ?_
  refine Rw.walk ?_
  simp only [wz, wd, ws, Nat.reduceAdd, Nat.reduceSub, Nat.reduceMul, Nat.reduceLeDiff, Nat.reduceEqDiff, Nat.reduceLT, Nat.reduceBEq, reduceIte, reduceCtorEq, Int.reduceToNat, Nat.reduceShiftRight, Nat.reduceAnd, Nat.reduceBneDiff, Nat.reduceBNe, c33r1, semI.eq_10, semI.eq_11, semI.eq_3, semI.eq_5, semI.eq_7]
  repeat (refine And.intro ?_ ?_; · first | omega | (intro q; simp only [wz, wd, ws, Nat.reduceAdd, Nat.reduceSub, Nat.reduceMul, Nat.reduceLeDiff, Nat.reduceEqDiff, Nat.reduceLT, Nat.reduceBEq, reduceIte, reduceCtorEq, Int.reduceToNat, Nat.reduceShiftRight, Nat.reduceAnd, Nat.reduceBneDiff, Nat.reduceBNe, q]; done))
  refine .cond (p := (((s.length : Int).tmod 2) != 0)) (by first | rfl | simp only [wz, wd, ws, Nat.reduceAdd, Nat.reduceSub, Nat.reduceMul, Nat.reduceLeDiff, Nat.reduceEqDiff, Nat.reduceLT, Nat.reduceBEq, reduceIte, reduceCtorEq, Int.reduceToNat, Nat.reduceShiftRight, Nat.reduceAnd, Nat.reduceBneDiff, Nat.reduceBNe]) (fun h1 => ?_) (fun h1 => ?_)
  · rw [ite_t h1] at h
    refine .seq ?_
    refine Rw.walk ?_
    simp only [wz, wd, ws, Nat.reduceAdd, Nat.reduceSub, Nat.reduceMul, Nat.reduceLeDiff, Nat.reduceEqDiff, Nat.reduceLT, Nat.reduceBEq, reduceIte, reduceCtorEq, Int.reduceToNat, Nat.reduceShiftRight, Nat.reduceAnd, Nat.reduceBneDiff, Nat.reduceBNe, c33r2, semI.eq_10, semI.eq_11, semI.eq_3, semI.eq_5, semI.eq_7]
    obtain rfl := Option.some.inj h
    refine .ret ?_
    rw [← hR]
    simp only [wz, wd, ws, Nat.reduceAdd, Nat.reduceSub, Nat.reduceMul, Nat.reduceLeDiff, Nat.reduceEqDiff, Nat.reduceLT, Nat.reduceBEq, reduceIte, reduceCtorEq, Int.reduceToNat, Nat.reduceShiftRight, Nat.reduceAnd, Nat.reduceBneDiff, Nat.reduceBNe, rv33]
  · rw [ite_f h1] at h
    refine .skip ?_
    refine .seq ?_
    refine Rw.walk ?_
    simp only [wz, wd, ws, Nat.reduceAdd, Nat.reduceSub, Nat.reduceMul, Nat.reduceLeDiff, Nat.reduceEqDiff, Nat.reduceLT, Nat.reduceBEq, reduceIte, reduceCtorEq, Int.reduceToNat, Nat.reduceShiftRight, Nat.reduceAnd, Nat.reduceBneDiff, Nat.reduceBNe, c33r3, semI.eq_10, semI.eq_11, semI.eq_3, semI.eq_5, semI.eq_7]
    obtain ⟨g1, h⟩ := gd_iff.1 h
    repeat (refine And.intro ?_ ?_; · first | omega | (intro q; simp only [wz, wd, ws, Nat.reduceAdd, Nat.reduceSub, Nat.reduceMul, Nat.reduceLeDiff, Nat.reduceEqDiff, Nat.reduceLT, Nat.reduceBEq, reduceIte, reduceCtorEq, Int.reduceToNat, Nat.reduceShiftRight, Nat.reduceAnd, Nat.reduceBneDiff, Nat.reduceBNe, q]; done))
    refine Go1.of (sem_mksl (enc := (eI .u8)) (z1 := 0) (p := (IntKind.i64.wrap ((s.length : Int).tdiv 2))) (q := (IntKind.i64.wrap ((s.length : Int).tdiv 2))) (by rfl) (by rfl) (by rfl) (by rfl) (by rfl)) ?_
    simp only [wz, wd, ws, Nat.reduceAdd, Nat.reduceSub, Nat.reduceMul, Nat.reduceLeDiff, Nat.reduceEqDiff, Nat.reduceLT, Nat.reduceBEq, reduceIte, reduceCtorEq, Int.reduceToNat, Nat.reduceShiftRight, Nat.reduceAnd, Nat.reduceBneDiff, Nat.reduceBNe, c33r3, semI.eq_10, semI.eq_11, semI.eq_3, semI.eq_5, semI.eq_7]
    repeat (refine And.intro ?_ ?_; · first | omega | (intro q; simp only [wz, wd, ws, Nat.reduceAdd, Nat.reduceSub, Nat.reduceMul, Nat.reduceLeDiff, Nat.reduceEqDiff, Nat.reduceLT, Nat.reduceBEq, reduceIte, reduceCtorEq, Int.reduceToNat, Nat.reduceShiftRight, Nat.reduceAnd, Nat.reduceBneDiff, Nat.reduceBNe, q]; done))
    refine .seq ?_
    refine .seq ?_
    refine Rw.walk ?_
    simp only [wz, wd, ws, Nat.reduceAdd, Nat.reduceSub, Nat.reduceMul, Nat.reduceLeDiff, Nat.reduceEqDiff, Nat.reduceLT, Nat.reduceBEq, reduceIte, reduceCtorEq, Int.reduceToNat, Nat.reduceShiftRight, Nat.reduceAnd, Nat.reduceBneDiff, Nat.reduceBNe, c33r4, semI.eq_10, semI.eq_11, semI.eq_3, semI.eq_5, semI.eq_7]
    refine .blk ?_
    obtain ⟨s2, hf, h⟩ := Option.bind_eq_some_iff.1 h
    refine .loop (.weak (Imp.co [] _ _ ?c1 ?c2 ?c3 ?c4 ?c5) (f_octet_Bytes_l12_ok s _ _ hR _ _ _ _ hf _ ?_ ?_))
    case c1 | c2 | c3 | c4 | c5 => simp only [wz, wd, ws, Nat.reduceAdd, Nat.reduceSub, Nat.reduceMul, Nat.reduceLeDiff, Nat.reduceEqDiff, Nat.reduceLT, Nat.reduceBEq, reduceIte, reduceCtorEq, Int.reduceToNat, Nat.reduceShiftRight, Nat.reduceAnd, Nat.reduceBneDiff, Nat.reduceBNe, wi, er_nil]
    · intro s3 hs; subst hs; dsimp only at h
      refine .seq ?_
      refine Rw.walk ?_
      simp only [wz, wd, ws, Nat.reduceAdd, Nat.reduceSub, Nat.reduceMul, Nat.reduceLeDiff, Nat.reduceEqDiff, Nat.reduceLT, Nat.reduceBEq, reduceIte, reduceCtorEq, Int.reduceToNat, Nat.reduceShiftRight, Nat.reduceAnd, Nat.reduceBneDiff, Nat.reduceBNe, c33r12, semI.eq_10, semI.eq_11, semI.eq_3, semI.eq_5, semI.eq_7]
      refine Go1.of (sem_b2s (n := s3.2) (rowsV_own (m := s3.2) (by rfl) (by rfl))) ?_
      simp only [wz, wd, ws, Nat.reduceAdd, Nat.reduceSub, Nat.reduceMul, Nat.reduceLeDiff, Nat.reduceEqDiff, Nat.reduceLT, Nat.reduceBEq, reduceIte, reduceCtorEq, Int.reduceToNat, Nat.reduceShiftRight, Nat.reduceAnd, Nat.reduceBneDiff, Nat.reduceBNe, c33r12, semI.eq_10, semI.eq_11, semI.eq_3, semI.eq_5, semI.eq_7]
      obtain rfl := Option.some.inj h
      refine .ret ?_
      rw [← hR]
      simp only [wz, wd, ws, Nat.reduceAdd, Nat.reduceSub, Nat.reduceMul, Nat.reduceLeDiff, Nat.reduceEqDiff, Nat.reduceLT, Nat.reduceBEq, reduceIte, reduceCtorEq, Int.reduceToNat, Nat.reduceShiftRight, Nat.reduceAnd, Nat.reduceBneDiff, Nat.reduceBNe, rv33]
    · intro z hz; subst hz; dsimp only at h
      exact Option.some.inj h
-- 9 consignor/consignorlaw01.OctetBack
def c9r0 : List Opn := [
  ⟨(some 6), none, .mv (.c (.s (.d (.bool false))))⟩]
def c9r1 : List Opn := [
  ⟨(some 18), none, .mv (.t 0)⟩, 
  ⟨(some 19), none, .mv (.t 0)⟩, 
  ⟨(some 20), none, .len .str (.t 19)⟩, 
  ⟨(some 21), none, .mm false (.t 20) (.c (.s (.d (.int .i64 300))))⟩, 
  ⟨(some 22), none, .slc .str (.t 18) none (some (.t 21)) none⟩, 
  ⟨(some 23), none, .mv (.t 2)⟩, 
  ⟨(some 24), none, .call (.fn 25) [(.t 23)]⟩, 
  ⟨(some 0), none, .mv (.t 22)⟩, 
  ⟨(some 2), none, .mv (.t 24)⟩]
def c9r2 : List Opn := [
  ⟨(some 26), none, .mv (.t 0)⟩, 
  ⟨(some 27), none, .call (.fn 34) [(.t 26)]⟩, 
  ⟨(some 28), none, .call (.fn 33) [(.t 27)]⟩, 
  ⟨(some 25), none, .mv (.t 28)⟩, 
  ⟨(some 29), none, .ext (.t 25) 0⟩, 
  ⟨(some 30), none, .ext (.t 25) 1⟩, 
  ⟨(some 7), none, .mv (.t 29)⟩, 
  ⟨(some 8), none, .mv (.t 30)⟩]
def c9r3 : List Opn := [
  ⟨(some 31), none, .mv (.t 8)⟩, 
  ⟨(some 32), none, .bin .neq (.t 31) (.c (.s (.d (.int .i64 0))))⟩, 
  ⟨(some 33), none, .mv (.t 32)⟩, 
  ⟨(some 34), some (33, false), .mv (.t 7)⟩, 
  ⟨(some 35), some (33, false), .mv (.t 0)⟩, 
  ⟨(some 36), some (33, false), .bin .neq (.t 34) (.t 35)⟩, 
  ⟨(some 37), none, .pick (.t 33) (.c (.s (.d (.bool true)))) (.t 36)⟩, 
  ⟨(some 38), none, .mv (.t 37)⟩, 
  ⟨(some 39), some (38, false), .call (.fn 30) []⟩, 
  ⟨(some 40), some (38, false), .un .not (.t 39)⟩, 
  ⟨(some 41), none, .pick (.t 38) (.c (.s (.d (.bool true)))) (.t 40)⟩]
def c9r4 : List Opn := [
  ⟨(some 6), none, .mv (.c (.s (.d (.bool false))))⟩]
def c9r5 : List Opn := [
  ⟨(some 42), none, .mv (.c (.s (.d (.int .i64 0))))⟩]
def c9r6 : List Opn := [
  ⟨(some 43), none, .bin .lss (.t 42) (.c (.s (.d (.int .i64 9))))⟩]
def c9r7 : List Opn := [
  ⟨(some 44), none, .mv (.t 42)⟩, 
  ⟨(some 9), none, .mv (.t 44)⟩]
def c9r8 : List Opn := [
  ⟨(some 46), none, .mv (.t 1)⟩, 
  ⟨(some 47), none, .mv (.t 9)⟩, 
  ⟨(some 48), none, .call (.fn 35) [(.t 46), (.t 47)]⟩, 
  ⟨(some 45), none, .mv (.t 48)⟩, 
  ⟨(some 49), none, .ext (.t 45) 0⟩, 
  ⟨(some 50), none, .ext (.t 45) 1⟩, 
  ⟨(some 10), none, .mv (.t 49)⟩, 
  ⟨(some 11), none, .mv (.t 50)⟩]
def c9r9 : List Opn := [
  ⟨(some 52), none, .mv (.t 10)⟩, 
  ⟨(some 53), none, .call (.fn 36) [(.t 52)]⟩, 
  ⟨(some 51), none, .mv (.t 53)⟩, 
  ⟨(some 54), none, .ext (.t 51) 0⟩, 
  ⟨(some 55), none, .ext (.t 51) 1⟩, 
  ⟨(some 12), none, .mv (.t 54)⟩, 
  ⟨(some 13), none, .mv (.t 55)⟩]
def c9r10 : List Opn := [
  ⟨(some 56), none, .mv (.t 11)⟩, 
  ⟨(some 57), none, .bin .eql (.t 56) (.c (.s (.d (.int .i64 0))))⟩, 
  ⟨(some 58), none, .mv (.t 57)⟩, 
  ⟨(some 59), some (58, true), .mv (.t 13)⟩, 
  ⟨(some 60), some (58, true), .bin .neq (.t 59) (.c (.s (.d (.int .i64 0))))⟩, 
  ⟨(some 61), some (58, true), .mv (.t 60)⟩, 
  ⟨(some 62), some (61, false), .mv (.t 12)⟩, 
  ⟨(some 63), some (61, false), .mv (.t 1)⟩, 
  ⟨(some 64), some (61, false), .bin .neq (.t 62) (.t 63)⟩, 
  ⟨(some 65), some (58, true), .pick (.t 61) (.c (.s (.d (.bool true)))) (.t 64)⟩, 
  ⟨(some 66), some (58, true), .mv (.t 65)⟩, 
  ⟨(some 67), some (66, false), .mv (.t 10)⟩, 
  ⟨(some 68), some (66, false), .len .str (.t 67)⟩, 
  ⟨(some 69), some (66, false), .mv (.t 9)⟩, 
  ⟨(some 70), some (66, false), .bin .neq (.t 68) (.t 69)⟩, 
  ⟨(some 71), some (58, true), .pick (.t 66) (.c (.s (.d (.bool true)))) (.t 70)⟩, 
  ⟨(some 72), none, .pick (.t 58) (.t 71) (.c (.s (.d (.bool false))))⟩, 
  ⟨(some 73), none, .mv (.t 72)⟩, 
  ⟨(some 74), some (73, false), .mv (.t 11)⟩, 
  ⟨(some 75), some (73, false), .bin .neq (.t 74) (.c (.s (.d (.int .i64 0))))⟩, 
  ⟨(some 76), some (73, false), .mv (.t 75)⟩, 
  ⟨(some 77), some (76, true), .mv (.t 9)⟩, 
  ⟨(some 78), some (76, true), .bin .eql (.t 77) (.c (.s (.d (.int .i64 8))))⟩, 
  ⟨(some 79), some (73, false), .pick (.t 76) (.t 78) (.c (.s (.d (.bool false))))⟩, 
  ⟨(some 80), none, .pick (.t 73) (.c (.s (.d (.bool true)))) (.t 79)⟩]
def c9r11 : List Opn := [
  ⟨(some 6), none, .mv (.c (.s (.d (.bool false))))⟩]
def c9r12 : List Opn := [
  ⟨(some 81), none, .bin .add (.t 42) (.c (.s (.d (.int .i64 1))))⟩, 
  ⟨(some 42), none, .mv (.t 81)⟩]
def c9l13 : C := .seq (.reg c9r6 none [1, 2, 42, 43]) (.seq (.cond (.t 43) (.skip) (.exit 0)) (.seq (.blk 1 (.seq (.reg c9r7 none [1, 2, 9, 42]) (.seq (.reg c9r8 none [1, 2, 9, 10, 11, 42]) (.seq (.reg c9r9 none [1, 2, 9, 10, 11, 12, 13, 42]) (.seq (.reg c9r10 none [1, 2, 42, 80]) (.cond (.t 80) (.seq (.reg c9r11 none [6]) (.ret)) (.skip))))))) (.reg c9r12 none [1, 2, 42])))
def c9r13 : List Opn := [
  ⟨(some 83), none, .mv (.t 2)⟩, 
  ⟨(some 84), none, .call (.fn 26) [(.t 83)]⟩, 
  ⟨(some 82), none, .mv (.t 84)⟩, 
  ⟨(some 85), none, .ext (.t 82) 0⟩, 
  ⟨(some 86), none, .ext (.t 82) 1⟩, 
  ⟨(some 14), none, .mv (.t 85)⟩, 
  ⟨(some 15), none, .mv (.t 86)⟩]
def c9r14 : List Opn := [
  ⟨(some 88), none, .mv (.t 14)⟩, 
  ⟨(some 89), none, .call (.fn 27) [(.t 88)]⟩, 
  ⟨(some 87), none, .mv (.t 89)⟩, 
  ⟨(some 90), none, .ext (.t 87) 0⟩, 
  ⟨(some 91), none, .ext (.t 87) 1⟩, 
  ⟨(some 16), none, .mv (.t 90)⟩, 
  ⟨(some 17), none, .mv (.t 91)⟩]
def c9r15 : List Opn := [
  ⟨(some 92), none, .mv (.t 15)⟩, 
  ⟨(some 93), none, .bin .neq (.t 92) (.c (.s (.d (.int .i64 0))))⟩, 
  ⟨(some 94), none, .mv (.t 93)⟩, 
  ⟨(some 95), some (94, true), .mv (.t 2)⟩, 
  ⟨(some 96), some (94, true), .call (.fn 31) [(.t 95)]⟩, 
  ⟨(some 97), some (94, true), .un .not (.t 96)⟩, 
  ⟨(some 98), none, .pick (.t 94) (.t 97) (.c (.s (.d (.bool false))))⟩, 
  ⟨(some 99), none, .mv (.t 98)⟩, 
  ⟨(some 100), some (99, false), .mv (.t 15)⟩, 
  ⟨(some 101), some (99, false), .bin .eql (.t 100) (.c (.s (.d (.int .i64 0))))⟩, 
  ⟨(some 102), some (99, false), .mv (.t 101)⟩, 
  ⟨(some 103), some (102, true), .mv (.t 17)⟩, 
  ⟨(some 104), some (102, true), .bin .eql (.t 103) (.c (.s (.d (.int .i64 0))))⟩, 
  ⟨(some 105), some (99, false), .pick (.t 102) (.t 104) (.c (.s (.d (.bool false))))⟩, 
  ⟨(some 106), some (99, false), .mv (.t 105)⟩, 
  ⟨(some 107), some (106, true), .mv (.t 16)⟩, 
  ⟨(some 108), some (106, true), .mv (.t 2)⟩, 
  ⟨(some 109), some (106, true), .call (.fn 29) [(.t 107), (.t 108)]⟩, 
  ⟨(some 110), some (99, false), .pick (.t 106) (.t 109) (.c (.s (.d (.bool false))))⟩, 
  ⟨(some 111), none, .pick (.t 99) (.c (.s (.d (.bool true)))) (.t 110)⟩, 
  ⟨(some 6), none, .mv (.t 111)⟩]
def c9 : C := .seq (.reg c9r0 none [0, 1, 2]) (.seq (.reg c9r1 (some [0, 0, 2, 6, 15, 0, 32, 127, 255]) [0, 1, 2]) (.seq (.reg c9r2 none [0, 1, 2, 7, 8]) (.seq (.seq (.reg c9r3 none [1, 2, 41]) (.cond (.t 41) (.seq (.reg c9r4 none [6]) (.ret)) (.skip))) (.seq (.seq (.reg c9r5 none [1, 2, 42]) (.blk 0 (.loop c9l13))) (.seq (.reg c9r13 none [2, 14, 15]) (.seq (.reg c9r14 none [2, 15, 16, 17]) (.seq (.reg c9r15 none [6]) (.ret))))))))
def k9 : List (Nat × List Nat) := [(15, [6]), (14, [2, 15, 16, 17]), (13, [2, 14, 15]), (12, [1, 2, 42]), (11, [6]), (10, [1, 2, 42, 80]), (9, [1, 2, 9, 10, 11, 12, 13, 42]), (8, [1, 2, 9, 10, 11, 42]), (7, [1, 2, 9, 42]), (6, [1, 2, 42, 43]), (5, [1, 2, 42]), (4, [6]), (3, [1, 2, 41]), (2, [0, 1, 2, 7, 8]), (1, [0, 1, 2]), (0, [0, 1, 2])]
theorem cc9 : (Tryd.f9.body).bind (cC Tryd.prog 112 k9) = some c9 := by kernel_rfl
def rv9 : List RV := [.t 6]
theorem cr9 : cRVs Tryd.prog Tryd.f9.results.toList = some rv9 := by kernel_rfl
theorem f_law01_OctetBack_l13_ok (s : Str) (n : Int) (t : (List Str)) (y_ : Bool) (R_ : St → Prop) (hR : (Ret Tryd.prog glP [] rv9 (.b (.s (.d (.bool y_))))) = R_) : ∀ (m_ : Nat) (v42 : Int) (res_ : (Int) ⊕ (Bool)) (h : f_law01_OctetBack_l13 s n t m_ v42 = some res_) (k_ : List It) (hx : ∀ s_ : Int, res_ = .inl s_ → W Tryd.prog glP 112 k_ ⟨lkT [(1, .b (.s (.d (.int .u64 n)))), (2, .b (.s (.own 24 t.length))), (42, .b (.s (.d (.int .i64 s_))))], lkG [(24, ⟨1, er eS t, false⟩)]⟩ R_) (hr : ∀ z_ : Bool, res_ = .inr z_ → z_ = y_), W Tryd.prog glP 112 (.c c9l13 :: .lp c9l13 :: .blk 0 :: k_) ⟨lkT [(1, .b (.s (.d (.int .u64 n)))), (2, .b (.s (.own 24 t.length))), (42, .b (.s (.d (.int .i64 v42))))], lkG [(24, ⟨1, er eS t, false⟩)]⟩ R_ := by
  intro m_; induction m_ with
  | zero => intro v42 res_ h; rw [f_law01_OctetBack_l13.eq_1] at h; cases h
  | succ m_ ih =>
    intro v42 res_ h k_ hx hr; rw [f_law01_OctetBack_l13.eq_2] at h; refine W.cdef c9l13.eq_1 ?_
    refine .seq ?_
    refine Rw.walk ?_
    simp only [wz, wd, ws, Nat.reduceAdd, Nat.reduceSub, Nat.reduceMul, Nat.reduceLeDiff, Nat.reduceEqDiff, Nat.reduceLT, Nat.reduceBEq, reduceIte, reduceCtorEq, Int.reduceToNat, Nat.reduceShiftRight, Nat.reduceAnd, Nat.reduceBneDiff, Nat.reduceBNe, c9r6, semI.eq_10, semI.eq_11, semI.eq_3, semI.eq_5, semI.eq_7]
    refine .seq ?_
    refine .cond (p := (decide (v42 < 9))) (by first | rfl | simp only [wz, wd, ws, Nat.reduceAdd, Nat.reduceSub, Nat.reduceMul, Nat.reduceLeDiff, Nat.reduceEqDiff, Nat.reduceLT, Nat.reduceBEq, reduceIte, reduceCtorEq, Int.reduceToNat, Nat.reduceShiftRight, Nat.reduceAnd, Nat.reduceBneDiff, Nat.reduceBNe]) (fun h1 => ?_) (fun h1 => ?_)
    · rw [ite_t h1] at h
      refine .skip ?_
      refine .seq ?_
      refine .blk ?_
      refine .seq ?_
      refine Rw.walk ?_
      simp only [wz, wd, ws, Nat.reduceAdd, Nat.reduceSub, Nat.reduceMul, Nat.reduceLeDiff, Nat.reduceEqDiff, Nat.reduceLT, Nat.reduceBEq, reduceIte, reduceCtorEq, Int.reduceToNat, Nat.reduceShiftRight, Nat.reduceAnd, Nat.reduceBneDiff, Nat.reduceBNe, c9r7, semI.eq_10, semI.eq_11, semI.eq_3, semI.eq_5, semI.eq_7]
      refine .seq ?_
      refine Rw.walk ?_
      simp only [wz, wd, ws, Nat.reduceAdd, Nat.reduceSub, Nat.reduceMul, Nat.reduceLeDiff, Nat.reduceEqDiff, Nat.reduceLT, Nat.reduceBEq, reduceIte, reduceCtorEq, Int.reduceToNat, Nat.reduceShiftRight, Nat.reduceAnd, Nat.reduceBneDiff, Nat.reduceBNe, c9r8, semI.eq_10, semI.eq_11, semI.eq_3, semI.eq_5, semI.eq_7]
      obtain ⟨t5, e6, h⟩ := Option.bind_eq_some_iff.1 h
      refine call_fun [] false ⟨trivial, trivial, trivial, trivial⟩ rfl ?_ (f_octet_Wide_ok _ _ _ e6) (fun _ => rfl) (fun i hi => by cases hi) ?_
      · simp only [wz, wd, ws, Nat.reduceAdd, Nat.reduceSub, Nat.reduceMul, Nat.reduceLeDiff, Nat.reduceEqDiff, Nat.reduceLT, Nat.reduceBEq, reduceIte, reduceCtorEq, Int.reduceToNat, Nat.reduceShiftRight, Nat.reduceAnd, Nat.reduceBneDiff, Nat.reduceBNe]
      simp only [wz, wd, ws, Nat.reduceAdd, Nat.reduceSub, Nat.reduceMul, Nat.reduceLeDiff, Nat.reduceEqDiff, Nat.reduceLT, Nat.reduceBEq, reduceIte, reduceCtorEq, Int.reduceToNat, Nat.reduceShiftRight, Nat.reduceAnd, Nat.reduceBneDiff, Nat.reduceBNe, c9r8, semI.eq_10, semI.eq_11, semI.eq_3, semI.eq_5, semI.eq_7]
      refine .seq ?_
      refine Rw.walk ?_
      simp only [wz, wd, ws, Nat.reduceAdd, Nat.reduceSub, Nat.reduceMul, Nat.reduceLeDiff, Nat.reduceEqDiff, Nat.reduceLT, Nat.reduceBEq, reduceIte, reduceCtorEq, Int.reduceToNat, Nat.reduceShiftRight, Nat.reduceAnd, Nat.reduceBneDiff, Nat.reduceBNe, c9r9, semI.eq_10, semI.eq_11, semI.eq_3, semI.eq_5, semI.eq_7]
      obtain ⟨t6, e7, h⟩ := Option.bind_eq_some_iff.1 h
      refine call_fun [] false ⟨trivial, trivial, trivial⟩ rfl ?_ (f_octet_Whole_ok _ _ e7) (fun _ => rfl) (fun i hi => by cases hi) ?_
      · simp only [wz, wd, ws, Nat.reduceAdd, Nat.reduceSub, Nat.reduceMul, Nat.reduceLeDiff, Nat.reduceEqDiff, Nat.reduceLT, Nat.reduceBEq, reduceIte, reduceCtorEq, Int.reduceToNat, Nat.reduceShiftRight, Nat.reduceAnd, Nat.reduceBneDiff, Nat.reduceBNe]
      simp only [wz, wd, ws, Nat.reduceAdd, Nat.reduceSub, Nat.reduceMul, Nat.reduceLeDiff, Nat.reduceEqDiff, Nat.reduceLT, Nat.reduceBEq, reduceIte, reduceCtorEq, Int.reduceToNat, Nat.reduceShiftRight, Nat.reduceAnd, Nat.reduceBneDiff, Nat.reduceBNe, c9r9, semI.eq_10, semI.eq_11, semI.eq_3, semI.eq_5, semI.eq_7]
      refine .seq ?_
      refine Rw.walk ?_
      simp only [wz, wd, ws, Nat.reduceAdd, Nat.reduceSub, Nat.reduceMul, Nat.reduceLeDiff, Nat.reduceEqDiff, Nat.reduceLT, Nat.reduceBEq, reduceIte, reduceCtorEq, Int.reduceToNat, Nat.reduceShiftRight, Nat.reduceAnd, Nat.reduceBneDiff, Nat.reduceBNe, c9r10, semI.eq_10, semI.eq_11, semI.eq_3, semI.eq_5, semI.eq_7]
      repeat (refine And.intro ?_ ?_; · first | omega | (intro q; simp only [wz, wd, ws, Nat.reduceAdd, Nat.reduceSub, Nat.reduceMul, Nat.reduceLeDiff, Nat.reduceEqDiff, Nat.reduceLT, Nat.reduceBEq, reduceIte, reduceCtorEq, Int.reduceToNat, Nat.reduceShiftRight, Nat.reduceAnd, Nat.reduceBneDiff, Nat.reduceBNe, q]; done))
      refine .cond (p := (((t5.2 == 0) && (((t6.2 != 0) || (t6.1 != n)) || ((t5.1.length : Int) != v42))) || ((t5.2 != 0) && (v42 == 8)))) (by first | rfl | simp only [wz, wd, ws, Nat.reduceAdd, Nat.reduceSub, Nat.reduceMul, Nat.reduceLeDiff, Nat.reduceEqDiff, Nat.reduceLT, Nat.reduceBEq, reduceIte, reduceCtorEq, Int.reduceToNat, Nat.reduceShiftRight, Nat.reduceAnd, Nat.reduceBneDiff, Nat.reduceBNe]) (fun h1 => ?_) (fun h1 => ?_)
      · rw [ite_t h1] at h
        refine .seq ?_
        refine Rw.walk ?_
        simp only [wz, wd, ws, Nat.reduceAdd, Nat.reduceSub, Nat.reduceMul, Nat.reduceLeDiff, Nat.reduceEqDiff, Nat.reduceLT, Nat.reduceBEq, reduceIte, reduceCtorEq, Int.reduceToNat, Nat.reduceShiftRight, Nat.reduceAnd, Nat.reduceBneDiff, Nat.reduceBNe, c9r11, semI.eq_10, semI.eq_11, semI.eq_3, semI.eq_5, semI.eq_7]
        obtain rfl := Option.some.inj h; obtain rfl := hr _ rfl
        refine .ret ?_
        rw [← hR]
        simp only [wz, wd, ws, Nat.reduceAdd, Nat.reduceSub, Nat.reduceMul, Nat.reduceLeDiff, Nat.reduceEqDiff, Nat.reduceLT, Nat.reduceBEq, reduceIte, reduceCtorEq, Int.reduceToNat, Nat.reduceShiftRight, Nat.reduceAnd, Nat.reduceBneDiff, Nat.reduceBNe, rv9]
      · rw [ite_f h1] at h
        refine .skip ?_
        refine .eblk ?_
        refine Rw.walk ?_
        simp only [wz, wd, ws, Nat.reduceAdd, Nat.reduceSub, Nat.reduceMul, Nat.reduceLeDiff, Nat.reduceEqDiff, Nat.reduceLT, Nat.reduceBEq, reduceIte, reduceCtorEq, Int.reduceToNat, Nat.reduceShiftRight, Nat.reduceAnd, Nat.reduceBneDiff, Nat.reduceBNe, c9r12, semI.eq_10, semI.eq_11, semI.eq_3, semI.eq_5, semI.eq_7]
        refine .lp ?_
        refine .weak (Imp.co [] _ _ ?_ ?_ ?_ ?_ ?_) (ih (IntKind.i64.wrap (v42 + 1)) _ h k_ hx hr) <;> simp only [wz, wd, ws, Nat.reduceAdd, Nat.reduceSub, Nat.reduceMul, Nat.reduceLeDiff, Nat.reduceEqDiff, Nat.reduceLT, Nat.reduceBEq, reduceIte, reduceCtorEq, Int.reduceToNat, Nat.reduceShiftRight, Nat.reduceAnd, Nat.reduceBneDiff, Nat.reduceBNe, wi, er_nil]
    · rw [ite_f h1] at h
      refine .exit rfl ?_
      obtain rfl := Option.some.inj h
      refine .weak (Imp.co [] _ _ ?_ ?_ ?_ ?_ ?_) (hx _ rfl) <;> simp only [wz, wd, ws, Nat.reduceAdd, Nat.reduceSub, Nat.reduceMul, Nat.reduceLeDiff, Nat.reduceEqDiff, Nat.reduceLT, Nat.reduceBEq, reduceIte, reduceCtorEq, Int.reduceToNat, Nat.reduceShiftRight, Nat.reduceAnd, Nat.reduceBneDiff, Nat.reduceBNe, wi, er_nil]
theorem f_law01_OctetBack_ok (s : Str) (n : Int) (l : (List Str)) (y_ : Bool) (h : f_law01_OctetBack s n l = some y_) : Fun Tryd.prog glP 9 [.b (.s (.d (.str s))), .b (.s (.d (.int .u64 n))), .b (.s (.d (.sl (l.map eS))))] (.b (.s (.d (.bool y_)))) := by
  refine fun_walk [] Tryd.func9 Tryd.ntmps9 cc9 cr9 (by kernel_rfl) (by simp only [List.length_cons, List.length_nil]; decide) ?_
  generalize hR : Ret _ _ _ _ _ = R_
  simp only [wz, wd, ws, Nat.reduceAdd, Nat.reduceSub, Nat.reduceMul, Nat.reduceLeDiff, Nat.reduceEqDiff, Nat.reduceLT, Nat.reduceBEq, reduceIte, reduceCtorEq, Int.reduceToNat, Nat.reduceShiftRight, Nat.reduceAnd, Nat.reduceBneDiff, Nat.reduceBNe]
  unfold f_law01_OctetBack at h; unfold c9
  refine .seq ?_
  refine Rw.walk ?_
  simp only [wz, wd, ws, Nat.reduceAdd, Nat.reduceSub, Nat.reduceMul, Nat.reduceLeDiff, Nat.reduceEqDiff, Nat.reduceLT, Nat.reduceBEq, reduceIte, reduceCtorEq, Int.reduceToNat, Nat.reduceShiftRight, Nat.reduceAnd, Nat.reduceBneDiff, Nat.reduceBNe, c9r0, semI.eq_10, semI.eq_11, semI.eq_3, semI.eq_5, semI.eq_7]
  refine .seq ?_
  refine RwD.walk ?_
  obtain ⟨g1, h⟩ := gd_iff.1 h
  simp only [wz, wd, ws, Nat.reduceAdd, Nat.reduceSub, Nat.reduceMul, Nat.reduceLeDiff, Nat.reduceEqDiff, Nat.reduceLT, Nat.reduceBEq, reduceIte, reduceCtorEq, Int.reduceToNat, Nat.reduceShiftRight, Nat.reduceAnd, Nat.reduceBneDiff, Nat.reduceBNe, c9r1, semI.eq_10, semI.eq_11, semI.eq_3, semI.eq_5, semI.eq_7]
  repeat (refine And.intro ?_ ?_; · first | omega | (intro q; simp only [wz, wd, ws, Nat.reduceAdd, Nat.reduceSub, Nat.reduceMul, Nat.reduceLeDiff, Nat.reduceEqDiff, Nat.reduceLT, Nat.reduceBEq, reduceIte, reduceCtorEq, Int.reduceToNat, Nat.reduceShiftRight, Nat.reduceAnd, Nat.reduceBneDiff, Nat.reduceBNe, q]; done))
  obtain ⟨t, e2, h⟩ := Option.bind_eq_some_iff.1 h
  refine call_funO' [] ⟨trivial, trivial, trivial⟩ rfl ?_ (f_law01_few_ok _ _ e2) rfl (.inl rfl) ?_
  · simp only [wz, wd, ws, Nat.reduceAdd, Nat.reduceSub, Nat.reduceMul, Nat.reduceLeDiff, Nat.reduceEqDiff, Nat.reduceLT, Nat.reduceBEq, reduceIte, reduceCtorEq, Int.reduceToNat, Nat.reduceShiftRight, Nat.reduceAnd, Nat.reduceBneDiff, Nat.reduceBNe]
  simp only [wz, wd, ws, Nat.reduceAdd, Nat.reduceSub, Nat.reduceMul, Nat.reduceLeDiff, Nat.reduceEqDiff, Nat.reduceLT, Nat.reduceBEq, reduceIte, reduceCtorEq, Int.reduceToNat, Nat.reduceShiftRight, Nat.reduceAnd, Nat.reduceBneDiff, Nat.reduceBNe, c9r1, semI.eq_10, semI.eq_11, semI.eq_3, semI.eq_5, semI.eq_7]
  refine .seq ?_
  refine Rw.walk ?_
  simp only [wz, wd, ws, Nat.reduceAdd, Nat.reduceSub, Nat.reduceMul, Nat.reduceLeDiff, Nat.reduceEqDiff, Nat.reduceLT, Nat.reduceBEq, reduceIte, reduceCtorEq, Int.reduceToNat, Nat.reduceShiftRight, Nat.reduceAnd, Nat.reduceBneDiff, Nat.reduceBNe, c9r2, semI.eq_10, semI.eq_11, semI.eq_3, semI.eq_5, semI.eq_7]
  obtain ⟨t2, e3, h⟩ := Option.bind_eq_some_iff.1 h
  refine call_fun [] false ⟨trivial, trivial, trivial⟩ rfl ?_ (f_octet_Hex_ok _ _ e3) (fun _ => rfl) (fun i hi => by cases hi) ?_
  · simp only [wz, wd, ws, Nat.reduceAdd, Nat.reduceSub, Nat.reduceMul, Nat.reduceLeDiff, Nat.reduceEqDiff, Nat.reduceLT, Nat.reduceBEq, reduceIte, reduceCtorEq, Int.reduceToNat, Nat.reduceShiftRight, Nat.reduceAnd, Nat.reduceBneDiff, Nat.reduceBNe]
  simp only [wz, wd, ws, Nat.reduceAdd, Nat.reduceSub, Nat.reduceMul, Nat.reduceLeDiff, Nat.reduceEqDiff, Nat.reduceLT, Nat.reduceBEq, reduceIte, reduceCtorEq, Int.reduceToNat, Nat.reduceShiftRight, Nat.reduceAnd, Nat.reduceBneDiff, Nat.reduceBNe, c9r2, semI.eq_10, semI.eq_11, semI.eq_3, semI.eq_5, semI.eq_7]
  obtain ⟨t3, e4, h⟩ := Option.bind_eq_some_iff.1 h
  refine call_fun [] false ⟨trivial, trivial, trivial⟩ rfl ?_ (f_octet_Bytes_ok _ _ e4) (fun _ => rfl) (fun i hi => by cases hi) ?_
  · simp only [wz, wd, ws, Nat.reduceAdd, Nat.reduceSub, Nat.reduceMul, Nat.reduceLeDiff, Nat.reduceEqDiff, Nat.reduceLT, Nat.reduceBEq, reduceIte, reduceCtorEq, Int.reduceToNat, Nat.reduceShiftRight, Nat.reduceAnd, Nat.reduceBneDiff, Nat.reduceBNe]
  simp only [wz, wd, ws, Nat.reduceAdd, Nat.reduceSub, Nat.reduceMul, Nat.reduceLeDiff, Nat.reduceEqDiff, Nat.reduceLT, Nat.reduceBEq, reduceIte, reduceCtorEq, Int.reduceToNat, Nat.reduceShiftRight, Nat.reduceAnd, Nat.reduceBneDiff, Nat.reduceBNe, c9r2, semI.eq_10, semI.eq_11, semI.eq_3, semI.eq_5, semI.eq_7]
  refine .seq ?_
  refine .seq ?_
  refine Rw.walk ?_
  simp only [wz, wd, ws, Nat.reduceAdd, Nat.reduceSub, Nat.reduceMul, Nat.reduceLeDiff, Nat.reduceEqDiff, Nat.reduceLT, Nat.reduceBEq, reduceIte, reduceCtorEq, Int.reduceToNat, Nat.reduceShiftRight, Nat.reduceAnd, Nat.reduceBneDiff, Nat.reduceBNe, c9r3, semI.eq_10, semI.eq_11, semI.eq_3, semI.eq_5, semI.eq_7]
  repeat (refine And.intro ?_ ?_; · first | omega | (intro q; simp only [wz, wd, ws, Nat.reduceAdd, Nat.reduceSub, Nat.reduceMul, Nat.reduceLeDiff, Nat.reduceEqDiff, Nat.reduceLT, Nat.reduceBEq, reduceIte, reduceCtorEq, Int.reduceToNat, Nat.reduceShiftRight, Nat.reduceAnd, Nat.reduceBneDiff, Nat.reduceBNe, q]; done))
  obtain ⟨t4, e5, h⟩ := Option.bind_eq_some_iff.1 h
  refine call_funG [] rfl (by simp only [wz, wd, ws, Nat.reduceAdd, Nat.reduceSub, Nat.reduceMul, Nat.reduceLeDiff, Nat.reduceEqDiff, Nat.reduceLT, Nat.reduceBEq, reduceIte, reduceCtorEq, Int.reduceToNat, Nat.reduceShiftRight, Nat.reduceAnd, Nat.reduceBneDiff, Nat.reduceBNe]) rfl ?_ (fun q => (f_law01_alive_ok _ (gx_iff e5 (by simpa using q)))) rfl (fun i hi => by cases hi) ?_
  · simp only [wz, wd, ws, Nat.reduceAdd, Nat.reduceSub, Nat.reduceMul, Nat.reduceLeDiff, Nat.reduceEqDiff, Nat.reduceLT, Nat.reduceBEq, reduceIte, reduceCtorEq, Int.reduceToNat, Nat.reduceShiftRight, Nat.reduceAnd, Nat.reduceBneDiff, Nat.reduceBNe]
  simp only [wz, wd, ws, Nat.reduceAdd, Nat.reduceSub, Nat.reduceMul, Nat.reduceLeDiff, Nat.reduceEqDiff, Nat.reduceLT, Nat.reduceBEq, reduceIte, reduceCtorEq, Int.reduceToNat, Nat.reduceShiftRight, Nat.reduceAnd, Nat.reduceBneDiff, Nat.reduceBNe, c9r3, semI.eq_10, semI.eq_11, semI.eq_3, semI.eq_5, semI.eq_7]
  repeat (refine And.intro ?_ ?_; · first | omega | (intro q; simp only [wz, wd, ws, Nat.reduceAdd, Nat.reduceSub, Nat.reduceMul, Nat.reduceLeDiff, Nat.reduceEqDiff, Nat.reduceLT, Nat.reduceBEq, reduceIte, reduceCtorEq, Int.reduceToNat, Nat.reduceShiftRight, Nat.reduceAnd, Nat.reduceBneDiff, Nat.reduceBNe, q]; done))
  refine .cond (p := (((t3.2 != 0) || (!(t3.1 == (cut s 0 (if 300 < (s.length : Int) then 300 else (s.length : Int)))))) || (!t4))) (by first | rfl | simp only [wz, wd, ws, Nat.reduceAdd, Nat.reduceSub, Nat.reduceMul, Nat.reduceLeDiff, Nat.reduceEqDiff, Nat.reduceLT, Nat.reduceBEq, reduceIte, reduceCtorEq, Int.reduceToNat, Nat.reduceShiftRight, Nat.reduceAnd, Nat.reduceBneDiff, Nat.reduceBNe]) (fun h1 => ?_) (fun h1 => ?_)
  · rw [ite_t h1] at h
    refine .seq ?_
    refine Rw.walk ?_
    simp only [wz, wd, ws, Nat.reduceAdd, Nat.reduceSub, Nat.reduceMul, Nat.reduceLeDiff, Nat.reduceEqDiff, Nat.reduceLT, Nat.reduceBEq, reduceIte, reduceCtorEq, Int.reduceToNat, Nat.reduceShiftRight, Nat.reduceAnd, Nat.reduceBneDiff, Nat.reduceBNe, c9r4, semI.eq_10, semI.eq_11, semI.eq_3, semI.eq_5, semI.eq_7]
    obtain rfl := Option.some.inj h
    refine .ret ?_
    rw [← hR]
    simp only [wz, wd, ws, Nat.reduceAdd, Nat.reduceSub, Nat.reduceMul, Nat.reduceLeDiff, Nat.reduceEqDiff, Nat.reduceLT, Nat.reduceBEq, reduceIte, reduceCtorEq, Int.reduceToNat, Nat.reduceShiftRight, Nat.reduceAnd, Nat.reduceBneDiff, Nat.reduceBNe, rv9]
  · rw [ite_f h1] at h
    refine .skip ?_
    refine .seq ?_
    refine .seq ?_
    refine Rw.walk ?_
    simp only [wz, wd, ws, Nat.reduceAdd, Nat.reduceSub, Nat.reduceMul, Nat.reduceLeDiff, Nat.reduceEqDiff, Nat.reduceLT, Nat.reduceBEq, reduceIte, reduceCtorEq, Int.reduceToNat, Nat.reduceShiftRight, Nat.reduceAnd, Nat.reduceBneDiff, Nat.reduceBNe, c9r5, semI.eq_10, semI.eq_11, semI.eq_3, semI.eq_5, semI.eq_7]
    refine .blk ?_
    obtain ⟨s2, hf, h⟩ := Option.bind_eq_some_iff.1 h
    refine .loop (.weak (Imp.co [] _ _ ?c1 ?c2 ?c3 ?c4 ?c5) (f_law01_OctetBack_l13_ok s n t _ _ hR _ _ _ hf _ ?_ ?_))
    case c1 | c2 | c3 | c4 | c5 => simp only [wz, wd, ws, Nat.reduceAdd, Nat.reduceSub, Nat.reduceMul, Nat.reduceLeDiff, Nat.reduceEqDiff, Nat.reduceLT, Nat.reduceBEq, reduceIte, reduceCtorEq, Int.reduceToNat, Nat.reduceShiftRight, Nat.reduceAnd, Nat.reduceBneDiff, Nat.reduceBNe, wi, er_nil]
    · intro s3 hs; subst hs; dsimp only at h
      refine .seq ?_
      refine Rw.walk ?_
      simp only [wz, wd, ws, Nat.reduceAdd, Nat.reduceSub, Nat.reduceMul, Nat.reduceLeDiff, Nat.reduceEqDiff, Nat.reduceLT, Nat.reduceBEq, reduceIte, reduceCtorEq, Int.reduceToNat, Nat.reduceShiftRight, Nat.reduceAnd, Nat.reduceBneDiff, Nat.reduceBNe, c9r13, semI.eq_10, semI.eq_11, semI.eq_3, semI.eq_5, semI.eq_7]
      obtain ⟨t5, e8, h⟩ := Option.bind_eq_some_iff.1 h
      refine call_fun [24] false ⟨trivial, trivial, trivial⟩ rfl ?_ (f_octet_Bind_ok _ _ e8) (fun _ => rfl) (fun i hi e he => coF_get (l := [24]) (by simp only [wz, wd, ws, Nat.reduceAdd, Nat.reduceSub, Nat.reduceMul, Nat.reduceLeDiff, Nat.reduceEqDiff, Nat.reduceLT, Nat.reduceBEq, reduceIte, reduceCtorEq, Int.reduceToNat, Nat.reduceShiftRight, Nat.reduceAnd, Nat.reduceBneDiff, Nat.reduceBNe, wi]) i e hi he) ?_
      · simp only [wz, wd, ws, Nat.reduceAdd, Nat.reduceSub, Nat.reduceMul, Nat.reduceLeDiff, Nat.reduceEqDiff, Nat.reduceLT, Nat.reduceBEq, reduceIte, reduceCtorEq, Int.reduceToNat, Nat.reduceShiftRight, Nat.reduceAnd, Nat.reduceBneDiff, Nat.reduceBNe]
      simp only [wz, wd, ws, Nat.reduceAdd, Nat.reduceSub, Nat.reduceMul, Nat.reduceLeDiff, Nat.reduceEqDiff, Nat.reduceLT, Nat.reduceBEq, reduceIte, reduceCtorEq, Int.reduceToNat, Nat.reduceShiftRight, Nat.reduceAnd, Nat.reduceBneDiff, Nat.reduceBNe, c9r13, semI.eq_10, semI.eq_11, semI.eq_3, semI.eq_5, semI.eq_7]
      refine .seq ?_
      refine Rw.walk ?_
      simp only [wz, wd, ws, Nat.reduceAdd, Nat.reduceSub, Nat.reduceMul, Nat.reduceLeDiff, Nat.reduceEqDiff, Nat.reduceLT, Nat.reduceBEq, reduceIte, reduceCtorEq, Int.reduceToNat, Nat.reduceShiftRight, Nat.reduceAnd, Nat.reduceBneDiff, Nat.reduceBNe, c9r14, semI.eq_10, semI.eq_11, semI.eq_3, semI.eq_5, semI.eq_7]
      obtain ⟨t6, e9, h⟩ := Option.bind_eq_some_iff.1 h
      refine call_fun [] true ⟨trivial, trivial, trivial⟩ rfl ?_ (f_octet_Loose_ok _ _ e9) (fun h => by cases h) (fun i hi => by cases hi) ?_
      · simp only [wz, wd, ws, Nat.reduceAdd, Nat.reduceSub, Nat.reduceMul, Nat.reduceLeDiff, Nat.reduceEqDiff, Nat.reduceLT, Nat.reduceBEq, reduceIte, reduceCtorEq, Int.reduceToNat, Nat.reduceShiftRight, Nat.reduceAnd, Nat.reduceBneDiff, Nat.reduceBNe]
      simp only [wz, wd, ws, Nat.reduceAdd, Nat.reduceSub, Nat.reduceMul, Nat.reduceLeDiff, Nat.reduceEqDiff, Nat.reduceLT, Nat.reduceBEq, reduceIte, reduceCtorEq, Int.reduceToNat, Nat.reduceShiftRight, Nat.reduceAnd, Nat.reduceBneDiff, Nat.reduceBNe, c9r14, semI.eq_10, semI.eq_11, semI.eq_3, semI.eq_5, semI.eq_7]
      refine .seq ?_
      refine Rw.walk ?_
      simp only [wz, wd, ws, Nat.reduceAdd, Nat.reduceSub, Nat.reduceMul, Nat.reduceLeDiff, Nat.reduceEqDiff, Nat.reduceLT, Nat.reduceBEq, reduceIte, reduceCtorEq, Int.reduceToNat, Nat.reduceShiftRight, Nat.reduceAnd, Nat.reduceBneDiff, Nat.reduceBNe, c9r15, semI.eq_10, semI.eq_11, semI.eq_3, semI.eq_5, semI.eq_7]
      obtain ⟨t7, e10, h⟩ := Option.bind_eq_some_iff.1 h
      refine call_funG [24] rfl (by simp only [wz, wd, ws, Nat.reduceAdd, Nat.reduceSub, Nat.reduceMul, Nat.reduceLeDiff, Nat.reduceEqDiff, Nat.reduceLT, Nat.reduceBEq, reduceIte, reduceCtorEq, Int.reduceToNat, Nat.reduceShiftRight, Nat.reduceAnd, Nat.reduceBneDiff, Nat.reduceBNe]) rfl ?_ (fun q => (f_ref01_May_ok _ _ (gx_iff e10 (by simpa using q)))) rfl (fun i hi e he => coF_get (l := [24]) (by simp only [wz, wd, ws, Nat.reduceAdd, Nat.reduceSub, Nat.reduceMul, Nat.reduceLeDiff, Nat.reduceEqDiff, Nat.reduceLT, Nat.reduceBEq, reduceIte, reduceCtorEq, Int.reduceToNat, Nat.reduceShiftRight, Nat.reduceAnd, Nat.reduceBneDiff, Nat.reduceBNe, wi]) i e hi he) ?_
      · simp only [wz, wd, ws, Nat.reduceAdd, Nat.reduceSub, Nat.reduceMul, Nat.reduceLeDiff, Nat.reduceEqDiff, Nat.reduceLT, Nat.reduceBEq, reduceIte, reduceCtorEq, Int.reduceToNat, Nat.reduceShiftRight, Nat.reduceAnd, Nat.reduceBneDiff, Nat.reduceBNe]
      simp only [wz, wd, ws, Nat.reduceAdd, Nat.reduceSub, Nat.reduceMul, Nat.reduceLeDiff, Nat.reduceEqDiff, Nat.reduceLT, Nat.reduceBEq, reduceIte, reduceCtorEq, Int.reduceToNat, Nat.reduceShiftRight, Nat.reduceAnd, Nat.reduceBneDiff, Nat.reduceBNe, c9r15, semI.eq_10, semI.eq_11, semI.eq_3, semI.eq_5, semI.eq_7]
      repeat (refine And.intro ?_ ?_; · first | omega | (intro q; simp only [wz, wd, ws, Nat.reduceAdd, Nat.reduceSub, Nat.reduceMul, Nat.reduceLeDiff, Nat.reduceEqDiff, Nat.reduceLT, Nat.reduceBEq, reduceIte, reduceCtorEq, Int.reduceToNat, Nat.reduceShiftRight, Nat.reduceAnd, Nat.reduceBneDiff, Nat.reduceBNe, q]; done))
      obtain ⟨t8, e11, h⟩ := Option.bind_eq_some_iff.1 h
      refine call_funG [24] rfl (by simp only [wz, wd, ws, Nat.reduceAdd, Nat.reduceSub, Nat.reduceMul, Nat.reduceLeDiff, Nat.reduceEqDiff, Nat.reduceLT, Nat.reduceBEq, reduceIte, reduceCtorEq, Int.reduceToNat, Nat.reduceShiftRight, Nat.reduceAnd, Nat.reduceBneDiff, Nat.reduceBNe]) rfl ?_ (fun q => (f_ref01_Same_ok _ _ _ (gx_iff e11 (by simpa using q)))) rfl (fun i hi e he => coF_get (l := [24]) (by simp only [wz, wd, ws, Nat.reduceAdd, Nat.reduceSub, Nat.reduceMul, Nat.reduceLeDiff, Nat.reduceEqDiff, Nat.reduceLT, Nat.reduceBEq, reduceIte, reduceCtorEq, Int.reduceToNat, Nat.reduceShiftRight, Nat.reduceAnd, Nat.reduceBneDiff, Nat.reduceBNe, wi]) i e hi he) ?_
      · simp only [wz, wd, ws, Nat.reduceAdd, Nat.reduceSub, Nat.reduceMul, Nat.reduceLeDiff, Nat.reduceEqDiff, Nat.reduceLT, Nat.reduceBEq, reduceIte, reduceCtorEq, Int.reduceToNat, Nat.reduceShiftRight, Nat.reduceAnd, Nat.reduceBneDiff, Nat.reduceBNe]
      simp only [wz, wd, ws, Nat.reduceAdd, Nat.reduceSub, Nat.reduceMul, Nat.reduceLeDiff, Nat.reduceEqDiff, Nat.reduceLT, Nat.reduceBEq, reduceIte, reduceCtorEq, Int.reduceToNat, Nat.reduceShiftRight, Nat.reduceAnd, Nat.reduceBneDiff, Nat.reduceBNe, c9r15, semI.eq_10, semI.eq_11, semI.eq_3, semI.eq_5, semI.eq_7]
      repeat (refine And.intro ?_ ?_; · first | omega | (intro q; simp only [wz, wd, ws, Nat.reduceAdd, Nat.reduceSub, Nat.reduceMul, Nat.reduceLeDiff, Nat.reduceEqDiff, Nat.reduceLT, Nat.reduceBEq, reduceIte, reduceCtorEq, Int.reduceToNat, Nat.reduceShiftRight, Nat.reduceAnd, Nat.reduceBneDiff, Nat.reduceBNe, q]; done))
      obtain rfl := Option.some.inj h
      refine .ret ?_
      rw [← hR]
      simp only [wz, wd, ws, Nat.reduceAdd, Nat.reduceSub, Nat.reduceMul, Nat.reduceLeDiff, Nat.reduceEqDiff, Nat.reduceLT, Nat.reduceBEq, reduceIte, reduceCtorEq, Int.reduceToNat, Nat.reduceShiftRight, Nat.reduceAnd, Nat.reduceBneDiff, Nat.reduceBNe, rv9]
    · intro z hz; subst hz; dsimp only at h
      exact Option.some.inj h
end Go.Proofs.YtjhgkcbhllomaaaDoor.V
end

section
/- Plain laws: numbers, rows and words of 32 bits. -/
namespace Go.Proofs.YtjhgkcbhllomaaaDoor.V.M
set_option linter.unusedVariables false
set_option linter.unusedSimpArgs false
open Go Go.RowKit
theorem w_i64 {n : Int} (h : -9223372036854775808 ≤ n) (h2 : n < 9223372036854775808) : IntKind.i64.wrap n = n := by
  simp only [IntKind.wrap, IntKind.bits, IntKind.signed]; simp; omega
theorem bounds_i64 {a : Int} (h : (Lit.int .i64 a).wf = true) : -9223372036854775808 ≤ a ∧ a ≤ 9223372036854775807 := by
  have e := (Bool.and_eq_true_iff.mp h); exact ⟨of_decide_eq_true e.1, of_decide_eq_true e.2⟩
theorem bounds_u8 {a : Int} (h : (Lit.int .u8 a).wf = true) : 0 ≤ a ∧ a ≤ 255 := by
  have e := (Bool.and_eq_true_iff.mp h); exact ⟨of_decide_eq_true e.1, of_decide_eq_true e.2⟩
theorem w_u64 {n : Int} (h : 0 ≤ n) (h2 : n < 18446744073709551616) : IntKind.u64.wrap n = n := by
  simp only [IntKind.wrap, IntKind.bits, IntKind.signed]; simp; omega
theorem w_u32 (n : Int) : IntKind.u32.wrap n = n % 4294967296 := by simp [IntKind.wrap, IntKind.bits, IntKind.signed]
theorem w_u8 (n : Int) : IntKind.u8.wrap n = n % 256 := by simp [IntKind.wrap, IntKind.bits, IntKind.signed]
theorem gd_t {α : Type} {p : Prop} [Decidable p] (k : Option α) (h : p) : gd p k = k := by unfold gd; rw [if_pos h]
theorem ix_nat {α : Type} (l : List α) (n : Nat) : ix l (n : Int) = l[n]? := by unfold ix; rw [if_pos (by omega)]; rfl
theorem ix_lt {α : Type} (l : List α) (d : α) (n : Nat) (h : n < l.length) : ix l (n : Int) = some (l.getD n d) := by
  rw [ix_nat, List.getElem?_eq_getElem h, List.getD_eq_getElem?_getD, List.getElem?_eq_getElem h]; rfl
theorem cut_all {α : Type} (l : List α) (n : Nat) : cut l (n : Int) (l.length : Int) = l.drop n := by unfold cut; simp
theorem cut_zero {α : Type} (l : List α) (n : Nat) : cut l 0 (n : Int) = l.take n := by unfold cut; simp
/-- A word of 32 bits, as the program's number. -/
def B (x : BitVec 32) : Int := (x.toNat : Int)
theorem B_lt (x : BitVec 32) : 0 ≤ B x ∧ B x < 4294967296 := ⟨by unfold B; omega, by unfold B; have := x.isLt; omega⟩
theorem B_of (n : Int) : BitVec.ofInt 32 n = BitVec.ofInt 32 n := rfl
theorem B_ofInt (n : Int) : IntKind.u32.wrap n = B (BitVec.ofInt 32 n) := by
  rw [w_u32]; unfold B; rw [BitVec.toNat_ofInt]; omega
theorem of_B (x : BitVec 32) : BitVec.ofInt 32 (B x) = x := by unfold B; simp
theorem of_B' (x : BitVec 32) : BitVec.ofInt IntKind.u32.bits (B x) = x := of_B x
theorem wrap_B (x : BitVec 32) : IntKind.u32.wrap (B x) = B x := by rw [B_ofInt, of_B]
theorem wrap_N (x : BitVec 32) : IntKind.u32.wrap ((x.toNat : Nat) : Int) = B x := wrap_B x
theorem add_B (x y : BitVec 32) : IntKind.u32.wrap (B x + B y) = B (x + y) := by
  rw [B_ofInt, BitVec.ofInt_add, of_B, of_B]
theorem B_mod (n : Nat) : (n : Int) % 4294967296 = B (BitVec.ofNat 32 n) := by unfold B; simp
theorem not_B (x : BitVec 32) : IntKind.u32.wrap (4294967295 - B x) = B (~~~ x) := by
  have := B_lt x
  rw [w_u32]; unfold B at *; rw [BitVec.toNat_not]; omega
theorem not_B2 (x : BitVec 32) : IntKind.u32.wrap (BitVec.ofInt IntKind.u32.bits (if IntKind.u32.signed then -1 else IntKind.u32.max) ^^^ BitVec.ofInt IntKind.u32.bits (B x)).toNat = B (~~~ x) := by
  have e : (BitVec.ofInt IntKind.u32.bits (if IntKind.u32.signed then -1 else IntKind.u32.max) ^^^ BitVec.ofInt IntKind.u32.bits (B x)) = ~~~ x := by
    show BitVec.ofInt 32 4294967295 ^^^ BitVec.ofInt 32 (B x) = _
    rw [of_B, show BitVec.ofInt 32 4294967295 = BitVec.allOnes 32 from by decide, BitVec.allOnes_xor]
  rw [e]; exact wrap_N _
theorem xor_B (x y : BitVec 32) : IntKind.u32.wrap (BitVec.ofInt IntKind.u32.bits (B x) ^^^ BitVec.ofInt IntKind.u32.bits (B y)).toNat = B (x ^^^ y) := by
  have e : (BitVec.ofInt IntKind.u32.bits (B x) ^^^ BitVec.ofInt IntKind.u32.bits (B y)) = x ^^^ y := by
    show BitVec.ofInt 32 (B x) ^^^ BitVec.ofInt 32 (B y) = _
    rw [of_B, of_B]
  rw [e]; exact wrap_N _
theorem and_B (x y : BitVec 32) : IntKind.u32.wrap (BitVec.ofInt IntKind.u32.bits (B x) &&& BitVec.ofInt IntKind.u32.bits (B y)).toNat = B (x &&& y) := by
  have e : (BitVec.ofInt IntKind.u32.bits (B x) &&& BitVec.ofInt IntKind.u32.bits (B y)) = x &&& y := by
    show BitVec.ofInt 32 (B x) &&& BitVec.ofInt 32 (B y) = _
    rw [of_B, of_B]
  rw [e]; exact wrap_N _
theorem or_B (x y : BitVec 32) : IntKind.u32.wrap (BitVec.ofInt IntKind.u32.bits (B x) ||| BitVec.ofInt IntKind.u32.bits (B y)).toNat = B (x ||| y) := by
  have e : (BitVec.ofInt IntKind.u32.bits (B x) ||| BitVec.ofInt IntKind.u32.bits (B y)) = x ||| y := by
    show BitVec.ofInt 32 (B x) ||| BitVec.ofInt 32 (B y) = _
    rw [of_B, of_B]
  rw [e]; exact wrap_N _
/-- The turn to the right. -/
def rot (n : Nat) (x : BitVec 32) : BitVec 32 := (x <<< (32 - n)) ||| (x >>> n)
theorem rot_add (n : Nat) (h0 : 0 < n) (h : n < 32) (x : BitVec 32) : rot n x = (x <<< (32 - n)) + (x >>> n) := by
  unfold rot; symm; apply BitVec.add_eq_or_of_and_eq_zero
  ext i hi
  simp only [BitVec.getElem_and, BitVec.getElem_shiftLeft, BitVec.getElem_ushiftRight, BitVec.getElem_zero]
  by_cases c : i < 32 - n
  · simp [c]
  · simp [c]; intro _; exact BitVec.getLsbD_of_ge _ _ (by omega)
theorem B_def (x : BitVec 32) : B x = (x.toNat : Int) := rfl
theorem shr_B (x : BitVec 32) (n : Nat) : (B x).fdiv (2 ^ n) = B (x >>> n) := by
  have h : (2 : Int) ^ n = ((2 ^ n : Nat) : Int) := by rw [Int.natCast_pow]; rfl
  rw [B_def, B_def, BitVec.toNat_ushiftRight, Nat.shiftRight_eq_div_pow, h, Int.fdiv_eq_ediv_of_nonneg _ (Int.natCast_nonneg _)]; rfl
theorem shl_B (x : BitVec 32) (n : Nat) : IntKind.u32.wrap (B x * 2 ^ n) = B (x <<< n) := by
  have h : (2 : Int) ^ n = ((2 ^ n : Nat) : Int) := by rw [Int.natCast_pow]; rfl
  rw [w_u32, B_def, B_def, BitVec.toNat_shiftLeft, Nat.shiftLeft_eq, h, ← Int.natCast_mul]; rfl
theorem divB (x : BitVec 32) (n : Nat) (p : Int) (h : p = ((2 ^ n : Nat) : Int)) : IntKind.u32.wrap ((B x).tdiv p) = B (x >>> n) := by
  subst h
  rw [B_def, Int.tdiv_eq_ediv_of_nonneg (Int.natCast_nonneg _), show ((x.toNat : Int) / ((2 ^ n : Nat) : Int)) = ((x >>> n).toNat : Int) by
    rw [BitVec.toNat_ushiftRight, Nat.shiftRight_eq_div_pow]; rfl]
  exact wrap_N _
theorem modB (x : BitVec 32) (n : Nat) (hn : n ≤ 32) (p q : Int) (h : p = ((2 ^ n : Nat) : Int)) (h2 : q = ((2 ^ (32 - n) : Nat) : Int)) : IntKind.u32.wrap ((B x).tmod p * q) = B (x <<< (32 - n)) := by
  subst h; subst h2
  rw [B_def, Int.tmod_eq_emod_of_nonneg (Int.natCast_nonneg _), w_u32, B_def, BitVec.toNat_shiftLeft, Nat.shiftLeft_eq]
  have e : (x.toNat % 2 ^ n) * 2 ^ (32 - n) = x.toNat * 2 ^ (32 - n) % 2 ^ 32 := by
    rw [← Nat.mul_mod_mul_right]; congr 1; rw [← Nat.pow_add]; congr 1; omega
  rw [← e, ← Int.natCast_emod, ← Int.natCast_mul, e]
  have := Nat.mod_lt (x.toNat * 2 ^ (32 - n)) (show 2 ^ 32 > 0 by decide)
  omega
end Go.Proofs.YtjhgkcbhllomaaaDoor.V.M
end

section
/- The two ways to turn a word agree; mixed, step and block over words. -/
namespace Go.Proofs.YtjhgkcbhllomaaaDoor.V.M
set_option linter.unusedVariables false
set_option linter.unusedSimpArgs false
open Go Go.RowKit
def sg0 (x : BitVec 32) := rot 7 x ^^^ rot 18 x ^^^ (x >>> 3)
def sg1 (x : BitVec 32) := rot 17 x ^^^ rot 19 x ^^^ (x >>> 10)
def bg0 (x : BitVec 32) := rot 2 x ^^^ rot 13 x ^^^ rot 22 x
def bg1 (x : BitVec 32) := rot 6 x ^^^ rot 11 x ^^^ rot 25 x
def Cb (c : UInt8) : BitVec 32 := BitVec.ofNat 32 c.toNat
theorem bn_B (c : UInt8) : IntKind.u32.wrap (bn c) = B (Cb c) := by
  rw [w_u32]; unfold bn Cb; exact B_mod _
def wd (a b c d : UInt8) : BitVec 32 := Cb a <<< 24 ||| Cb b <<< 16 ||| Cb c <<< 8 ||| Cb d
theorem mn24 : min 24 IntKind.u32.bits = 24 := rfl
theorem mn16 : min 16 IntKind.u32.bits = 16 := rfl
theorem mn8 : min 8 IntKind.u32.bits = 8 := rfl
theorem wd_eq (a b c d : UInt8) : 256#32 * (256#32 * (256#32 * (256#32 * 0#32 + Cb a) + Cb b) + Cb c) + Cb d = wd a b c d := by
  apply BitVec.eq_of_toNat_eq
  unfold wd Cb
  have ha := a.toNat_lt; have hb := b.toNat_lt; have hc := c.toNat_lt; have hd := d.toNat_lt
  simp only [BitVec.toNat_add, BitVec.toNat_mul, BitVec.toNat_or, BitVec.toNat_shiftLeft, BitVec.toNat_ofNat, Nat.shiftLeft_eq]
  rw [Nat.or_assoc, Nat.or_assoc, Nat.mod_eq_of_lt (show d.toNat < 2 ^ 32 by omega), Nat.mod_eq_of_lt (show c.toNat < 2 ^ 32 by omega), Nat.mod_eq_of_lt (show b.toNat < 2 ^ 32 by omega), Nat.mod_eq_of_lt (show a.toNat < 2 ^ 32 by omega),
    Nat.mod_eq_of_lt (show c.toNat * 2 ^ 8 < 2 ^ 32 by omega), Nat.mod_eq_of_lt (show b.toNat * 2 ^ 16 < 2 ^ 32 by omega), Nat.mod_eq_of_lt (show a.toNat * 2 ^ 24 < 2 ^ 32 by omega),
    Nat.mul_comm c.toNat, Nat.mul_comm b.toNat, Nat.mul_comm a.toNat, ← Nat.two_pow_add_eq_or_of_lt (show d.toNat < 2 ^ 8 by omega),
    ← Nat.two_pow_add_eq_or_of_lt (show 2 ^ 8 * c.toNat + d.toNat < 2 ^ 16 by omega), ← Nat.two_pow_add_eq_or_of_lt (show 2 ^ 16 * b.toNat + (2 ^ 8 * c.toNat + d.toNat) < 2 ^ 24 by omega)]
  omega
end Go.Proofs.YtjhgkcbhllomaaaDoor.V.M
end

section
/- The words of a block, and a block, computed in both ways. -/
namespace Go.Proofs.YtjhgkcbhllomaaaDoor.V.M
set_option linter.unusedVariables false
set_option linter.unusedSimpArgs false
open Go Go.RowKit
def wr (s : Str) (i : Nat) : BitVec 32 := wd (s.getD (4 * i) 0) (s.getD (4 * i + 1) 0) (s.getD (4 * i + 2) 0) (s.getD (4 * i + 3) 0)
def nxWord (s : Str) (i : Nat) (l : List (BitVec 32)) : BitVec 32 :=
  if i < 16 then wr s i else sg1 (l.getD (i - 2) 0#32) + l.getD (i - 7) 0#32 + sg0 (l.getD (i - 15) 0#32) + l.getD (i - 16) 0#32
def sch (s : Str) : Nat → List (BitVec 32)
  | 0 => []
  | i + 1 => sch s i ++ [nxWord s i (sch s i)]
theorem sch_len (s : Str) (i : Nat) : (sch s i).length = i := by
  induction i with
  | zero => rfl
  | succ i ih => simp [sch, ih]
def W0 (s : Str) (i : Nat) : List Int := (sch s i).map B ++ List.replicate (64 - i) 0
theorem ix_sch (s : Str) (i j : Nat) (h : j < i) (r : List Int) : ix ((sch s i).map B ++ r) (j : Int) = some (B ((sch s i).getD j 0#32)) := by
  rw [ix_nat, List.getElem?_append_left (by simpa [sch_len] using h), List.getElem?_map, List.getElem?_eq_getElem (by simpa [sch_len] using h), List.getD_eq_getElem?_getD, List.getElem?_eq_getElem (by simpa [sch_len] using h)]; rfl
theorem ix_W0 (s : Str) (i j : Nat) (h : j < i) : ix (W0 s i) (j : Int) = some (B ((sch s i).getD j 0#32)) := ix_sch s i j h _
theorem ix_V0 (s : Str) (i j : Nat) (h : j < i) : ix ((sch s i).map B) (j : Int) = some (B ((sch s i).getD j 0#32)) := by
  have := ix_sch s i j h []; rwa [List.append_nil] at this
theorem W0_len (s : Str) (i : Nat) (h : i ≤ 64) : (W0 s i).length = 64 := by simp [W0, sch_len]; omega
theorem W0_set (s : Str) (i : Nat) (h : i < 64) (y : Int) (hy : y = B (nxWord s i (sch s i))) : (W0 s i).set i y = W0 s (i + 1) := by
  subst hy
  unfold W0
  rw [show 64 - i = (64 - (i + 1)) + 1 from by omega, List.replicate_succ, List.set_append_right _ _ (by simp [sch_len])]
  simp [sch_len, sch]
end Go.Proofs.YtjhgkcbhllomaaaDoor.V.M
end

section
/- A block, computed in both ways. -/
namespace Go.Proofs.YtjhgkcbhllomaaaDoor.V.M
set_option linter.unusedVariables false
set_option linter.unusedSimpArgs false
open Go Go.RowKit
theorem ix_map (l : List (BitVec 32)) (j : Nat) (h : j < l.length) : ix (l.map B) (j : Int) = some (B (l.getD j 0#32)) := by
  rw [ix_nat, List.getElem?_map, List.getElem?_eq_getElem h, List.getD_eq_getElem?_getD, List.getElem?_eq_getElem h]; rfl
def rnd (k w : BitVec 32) : List (BitVec 32) → List (BitVec 32)
  | [a, b, c, d, e, f, g, h] =>
    [h + bg1 e + (e &&& f ^^^ (~~~ e) &&& g) + k + w + (bg0 a + (a &&& b ^^^ a &&& c ^^^ b &&& c)), a, b, c, d + (h + bg1 e + (e &&& f ^^^ (~~~ e) &&& g) + k + w), e, f, g]
  | v => v
theorem len8 {α : Type} (l : List α) (h : l.length = 8) : ∃ a b c d e f g i, l = [a, b, c, d, e, f, g, i] := by
  match l, h with
  | [a, b, c, d, e, f, g, i], _ => exact ⟨a, b, c, d, e, f, g, i, rfl⟩
theorem rnd_len (k w : BitVec 32) (v : List (BitVec 32)) (h : v.length = 8) : (rnd k w v).length = 8 := by
  obtain ⟨a, b, c, d, e, f, g, i, rfl⟩ := len8 v h; rfl
theorem bsn {α β : Type} (a : α) (f : α → Option β) : (some a).bind f = f a := Eq.trans (Option.bind_some a f) rfl
theorem gdc0 (a : BitVec 32) (l : List (BitVec 32)) : (a :: l).getD 0 0#32 = a := Eq.trans List.getD_cons_zero rfl
theorem gdc1 (a : BitVec 32) (l : List (BitVec 32)) (n : Nat) : (a :: l).getD (n + 1) 0#32 = l.getD n 0#32 := Eq.trans List.getD_cons_succ rfl
theorem ix8 (a b c d e f g i : BitVec 32) : ix ([a, b, c, d, e, f, g, i].map B) 0 = some (B a) ∧ ix ([a, b, c, d, e, f, g, i].map B) 1 = some (B b) ∧ ix ([a, b, c, d, e, f, g, i].map B) 2 = some (B c) ∧ ix ([a, b, c, d, e, f, g, i].map B) 3 = some (B d) ∧ ix ([a, b, c, d, e, f, g, i].map B) 4 = some (B e) ∧ ix ([a, b, c, d, e, f, g, i].map B) 5 = some (B f) ∧ ix ([a, b, c, d, e, f, g, i].map B) 6 = some (B g) ∧ ix ([a, b, c, d, e, f, g, i].map B) 7 = some (B i) := ⟨rfl, rfl, rfl, rfl, rfl, rfl, rfl, rfl⟩
theorem nx_take (s : Str) (i : Nat) (l : List (BitVec 32)) : nxWord (s.take 64) i l = nxWord s i l := by
  have e : ∀ j, j < 64 → (s.take 64).getD j 0 = s.getD j 0 := by
    intro j hj; rw [List.getD_eq_getElem?_getD, List.getD_eq_getElem?_getD, List.getElem?_take_of_lt hj]
  unfold nxWord
  by_cases c : i < 16
  · rw [if_pos c, if_pos c]; unfold wr; rw [e _ (by omega), e _ (by omega), e _ (by omega), e _ (by omega)]
  · rw [if_neg c, if_neg c]
theorem sch_take (s : Str) (i : Nat) : sch (s.take 64) i = sch s i := by
  induction i with
  | zero => rfl
  | succ i ih => rw [sch, sch, ih, nx_take]
end Go.Proofs.YtjhgkcbhllomaaaDoor.V.M
end

section
/- The sum of a text, computed in both ways. -/
namespace Go.Proofs.YtjhgkcbhllomaaaDoor.V.M
set_option linter.unusedVariables false
set_option linter.unusedSimpArgs false
open Go Go.RowKit
def padS (s : Str) : Str := s ++ List.replicate ((120 - s.length % 64) % 64) 0
theorem padS_next (s : Str) (h : s.length % 64 ≠ 56) : padS (s ++ [0]) = padS s := by
  unfold padS
  rw [List.length_append, List.append_assoc, show ([0] : Str) = List.replicate 1 0 from rfl, List.replicate_append_replicate, List.length_replicate]
  congr 2; omega
theorem padS_end (s : Str) (h : s.length % 64 = 56) : padS s = s := by
  unfold padS; rw [h]; simp
theorem padS_len (s : Str) : (padS s).length % 64 = 56 ∧ (padS s).length ≤ s.length + 63 ∧ s.length ≤ (padS s).length := by
  unfold padS; rw [List.length_append, List.length_replicate]; omega
theorem tm64 (n : Nat) : ((((n : Int).tmod 64) != 56) = true) ↔ n % 64 ≠ 56 := by
  rw [Int.tmod_eq_emod_of_nonneg (Int.natCast_nonneg _)]; simp; omega
theorem map_bn0 (s : Str) : s.map bn ++ ([0] : List Int) = (s ++ [0]).map bn := by rw [List.map_append]; rfl
def byt (T j : Nat) : UInt8 := UInt8.ofNat (T / 2 ^ (8 * j))
def lbs (T : Nat) : Str := [byt T 7, byt T 6, byt T 5, byt T 4, byt T 3, byt T 2, byt T 1, byt T 0]
def Tb (n : Nat) : Nat := n * 8 % 18446744073709551616
theorem T_ok (n : Nat) (h : n ≤ 140737488355328) : IntKind.u64.wrap ((IntKind.u64.wrap (n : Int)) * 8) = (Tb n : Int) := by
  rw [w_u64 (n := (n : Int)) (by omega) (by omega), w_u64 (by omega) (by omega)]; unfold Tb; omega
theorem pow_c (n : Nat) : (2 : Int) ^ n = ((2 ^ n : Nat) : Int) := by rw [Int.natCast_pow]; rfl
theorem nb_mod (n : Nat) : nb (((n % 256 : Nat)) : Int) = UInt8.ofNat n := by
  unfold nb; rw [Int.toNat_natCast]; apply UInt8.toNat_inj.mp; rw [UInt8.toNat_ofNat', UInt8.toNat_ofNat', Nat.mod_mod]
theorem byt_f (T j : Nat) (hj : j < 8) : nb (IntKind.u8.wrap ((T : Int).fdiv (2 ^ (min (IntKind.i64.wrap (8 * (j : Int))).toNat IntKind.u64.bits)))) = byt T j := by
  rw [w_i64 (by omega) (by omega), show min (8 * (j : Int)).toNat IntKind.u64.bits = 8 * j from by show min _ 64 = _; omega, pow_c, Int.fdiv_eq_ediv_of_nonneg _ (Int.natCast_nonneg _), w_u8, ← Int.natCast_ediv]
  exact nb_mod _
theorem byt_t (T j : Nat) (hT : T < 18446744073709551616) : IntKind.u8.wrap ((IntKind.u64.wrap ((T : Int).tdiv ((2 ^ (8 * j) : Nat) : Int))).tmod 256) = bn (byt T j) := by
  rw [Int.tdiv_eq_ediv_of_nonneg (Int.natCast_nonneg _), ← Int.natCast_ediv, w_u64 (Int.natCast_nonneg _) (by have := Nat.div_le_self T (2 ^ (8 * j)); omega), Int.tmod_eq_emod_of_nonneg (Int.natCast_nonneg _), w_u8]
  unfold bn byt; rw [UInt8.toNat_ofNat']; omega
end Go.Proofs.YtjhgkcbhllomaaaDoor.V.M
end

section
/- The sum of a text, computed in both ways: the blocks, and what is handed back. -/
namespace Go.Proofs.YtjhgkcbhllomaaaDoor.V.M
set_option linter.unusedVariables false
set_option linter.unusedSimpArgs false
open Go Go.RowKit
theorem nb_bn (s : Str) : (s.map bn).map nb = s := by
  rw [List.map_map]
  have : nb ∘ bn = id := by funext c; simp [nb, bn]
  rw [this, List.map_id]
def o4 (x : Int) : List Int := [(IntKind.u8.wrap (x.fdiv (2 ^ (min 24 IntKind.u32.bits)))), (IntKind.u8.wrap (x.fdiv (2 ^ (min 16 IntKind.u32.bits)))), (IntKind.u8.wrap (x.fdiv (2 ^ (min 8 IntKind.u32.bits)))), (IntKind.u8.wrap x)]
def p4 (x : Int) : List Int := [(IntKind.u8.wrap (IntKind.u32.wrap (x.tdiv 16777216))), (IntKind.u8.wrap ((IntKind.u32.wrap (x.tdiv 65536)).tmod 256)), (IntKind.u8.wrap ((IntKind.u32.wrap (x.tdiv 256)).tmod 256)), (IntKind.u8.wrap (x.tmod 256))]
theorem m8 (y : BitVec 32) : IntKind.u8.wrap ((B y).tmod 256) = IntKind.u8.wrap (B y) := by
  have := B_lt y
  rw [Int.tmod_eq_emod_of_nonneg this.1, w_u8, w_u8]; omega
theorem p4_eq (x : BitVec 32) : p4 (B x) = o4 (B x) := by
  unfold p4 o4
  rw [divB x 24 16777216 rfl, divB x 16 65536 rfl, divB x 8 256 rfl, m8, m8, m8, mn24, mn16, mn8, shr_B, shr_B, shr_B]
def firstB : List (BitVec 32) := [1779033703#32, 3144134277#32, 1013904242#32, 2773480762#32, 1359893119#32, 2600822924#32, 528734635#32, 1541459225#32]
def full (s : Str) : Str := padS (s ++ [128]) ++ lbs (Tb s.length)
theorem full_len (s : Str) : (full s).length = 64 * ((full s).length / 64) ∧ (full s).length ≤ s.length + 72 ∧ (full s).length = (padS (s ++ [128])).length + 8 := by
  have := padS_len (s ++ [128])
  unfold full
  rw [List.length_append] at *
  have e : (lbs (Tb s.length)).length = 8 := rfl
  simp only [List.length_cons, List.length_nil] at *
  omega
end Go.Proofs.YtjhgkcbhllomaaaDoor.V.M
end

section
/- Hex, read and written, in both ways. -/
namespace Go.Proofs.YtjhgkcbhllomaaaDoor.V.M
set_option linter.unusedVariables false
set_option linter.unusedSimpArgs false
open Go Go.RowKit
theorem bn_dig (n : Nat) (h : n < 16) : bn (dig n) = if n < 10 then 48 + (n : Int) else 97 + (n : Int) - 10 := by
  have : ∀ n : Fin 16, bn (dig n.val) = if n.val < 10 then 48 + (n.val : Int) else 97 + (n.val : Int) - 10 := by decide
  exact this ⟨n, h⟩
end Go.Proofs.YtjhgkcbhllomaaaDoor.V.M
end

section
/- Hex read back, in both ways; digests parsed in both ways. -/
namespace Go.Proofs.YtjhgkcbhllomaaaDoor.V.M
set_option linter.unusedVariables false
set_option linter.unusedSimpArgs false
open Go Go.RowKit
def hx (c : UInt8) : Nat := if 48 ≤ c.toNat ∧ c.toNat ≤ 57 then c.toNat - 48 else if 97 ≤ c.toNat ∧ c.toNat ≤ 102 then c.toNat - 87 else 16
def un : Str → Option Str
  | [] => some []
  | [_] => none
  | a :: b :: r => if hx a < 16 ∧ hx b < 16 then (un r).map (UInt8.ofNat (16 * hx a + hx b) :: ·) else none
theorem u8_all {P : UInt8 → Prop} [DecidablePred P] (h : (List.range 256).all (fun n => decide (P (UInt8.ofNat n))) = true) (c : UInt8) : P c := by
  have := (List.all_eq_true.mp h) c.toNat (List.mem_range.mpr c.toNat_lt)
  simpa using this
abbrev dgs : Str := [48, 49, 50, 51, 52, 53, 54, 55, 56, 57, 97, 98, 99, 100, 101, 102]
theorem ib_ok (c : UInt8) : f_strings_IndexByte dgs (bn c) = some (if hx c < 16 then (hx c : Int) else -1) :=
  u8_all (P := fun c => f_strings_IndexByte dgs (bn c) = some (if hx c < 16 then (hx c : Int) else -1)) (by kernel_rfl) c
theorem hx_le (c : UInt8) : hx c ≤ 16 := by unfold hx; split <;> (try split) <;> omega
theorem hx_dig (n : Nat) (h : n < 16) : hx (dig n) = n := by
  have : ∀ n : Fin 16, hx (dig n.val) = n.val := by decide
  exact this ⟨n, h⟩
theorem un_hexl (x : Str) : un (hexl x) = some x := by
  induction x with
  | nil => rfl
  | cons c x ih =>
    have hc := c.toNat_lt
    show un (dig (c.toNat / 16) :: dig (c.toNat % 16) :: hexl x) = _
    rw [un, hx_dig _ (by omega), hx_dig _ (by omega), if_pos (by omega), ih, show 16 * (c.toNat / 16) + c.toNat % 16 = c.toNat by omega]; simp
theorem un_len : ∀ (n : Nat) (s x : Str), s.length ≤ n → un s = some x → s.length = 2 * x.length := by
  intro n
  induction n with
  | zero => intro s x h e; obtain rfl : s = [] := List.length_eq_zero_iff.mp (by omega); cases e; rfl
  | succ n ih =>
    intro s x h e
    match s, e with
    | [], e => cases e; rfl
    | [_], e => cases e
    | a :: b :: r, e =>
      rw [un] at e
      split at e
      · obtain ⟨y, hy, rfl⟩ := Option.map_eq_some_iff.mp e
        have := ih r y (by simp only [List.length_cons] at h; omega) hy
        simp only [List.length_cons]; omega
      · cases e
theorem w8h (a b : UInt8) (ha : hx a < 16) (hb : hx b < 16) : IntKind.u8.wrap (IntKind.i64.wrap ((IntKind.i64.wrap ((hx a : Int) * 16)) + (hx b : Int))) = bn (UInt8.ofNat (16 * hx a + hx b)) := by
  rw [w_i64 (n := (hx a : Int) * 16) (by omega) (by omega), w_i64 (by omega) (by omega), w_u8]; unfold bn; rw [UInt8.toNat_ofNat']; omega
theorem drop2 (s : Str) (v : Nat) (h : 2 * v + 1 < s.length) : s.drop (2 * v) = s.getD (2 * v) 0 :: s.getD (2 * v + 1) 0 :: s.drop (2 * (v + 1)) := by
  rw [List.drop_eq_getElem_cons (by omega), List.drop_eq_getElem_cons (i := 2 * v + 1) (by omega), List.getD_eq_getElem?_getD, List.getD_eq_getElem?_getD, List.getElem?_eq_getElem (by omega), List.getElem?_eq_getElem (by omega)]; rfl
theorem b12o (s : Str) (m : Nat) (hs : s.length = 2 * m) (hb : s.length < 9223372036854775807) (k : Nat) : ∀ (v : Nat) (pre : Str), v + k = m → pre.length = v →
    f_octet_Bytes_l12 s (k + 1) (v : Int) (pre.map bn ++ List.replicate k 0) = match un (s.drop (2 * v)) with | some x => some (.inl ((m : Int), (pre ++ x).map bn)) | none => some (.inr ([], 4)) := by
  have L : (((List.replicate (IntKind.i64.wrap ((s.length : Int).tdiv 2)).toNat (0 : Nat)).length : Nat) : Int) = (m : Int) := by
    rw [List.length_replicate, Int.tdiv_eq_ediv_of_nonneg (Int.natCast_nonneg _), w_i64 (by omega) (by omega)]; omega
  induction k with
  | zero =>
    intro v pre hv hp
    rw [f_octet_Bytes_l12, if_neg (by rw [L]; simp; omega), List.drop_of_length_le (by omega)]
    simp only [un, List.append_nil, List.replicate_zero]
    rw [show v = m by omega]
  | succ k ih =>
    intro v pre hv hp
    have e1 : IntKind.i64.wrap (2 * (v : Int)) = ((2 * v : Nat) : Int) := by rw [w_i64 (by omega) (by omega)]; omega
    have e2 : IntKind.i64.wrap (((2 * v : Nat) : Int) + 1) = ((2 * v + 1 : Nat) : Int) := by rw [w_i64 (by omega) (by omega)]; omega
    have e3 : IntKind.i64.wrap ((v : Int) + 1) = ((v + 1 : Nat) : Int) := by rw [w_i64 (by omega) (by omega)]; omega
    rw [f_octet_Bytes_l12, if_pos (by rw [L]; simp; omega), e1, e2, e3, ix_lt s 0 _ (by omega), Option.bind_some, ib_ok, Option.bind_some, ix_lt s 0 _ (by omega), Option.bind_some, ib_ok, Option.bind_some, drop2 s v (by omega), un]
    generalize s.getD (2 * v) 0 = a
    generalize s.getD (2 * v + 1) 0 = b
    by_cases c : hx a < 16 ∧ hx b < 16
    · rw [if_pos c.1, if_pos c.2, if_neg (by simp), if_pos c, ix_nat, List.getElem?_append_right (by simp; omega)]
      rw [show (List.replicate (k + 1) (0 : Int))[v - (pre.map bn).length]? = some 0 by rw [List.length_map, hp, Nat.sub_self]; rfl, Option.bind_some, w8h a b c.1 c.2, Int.toNat_natCast, List.set_append_right _ _ (by simp; omega), List.length_map, hp, Nat.sub_self, List.replicate_succ, List.set_cons_zero]
      have := ih (v + 1) (pre ++ [UInt8.ofNat (16 * hx a + hx b)]) (by omega) (by simp; omega)
      rw [List.map_append, List.append_assoc] at this
      rw [show (pre.map bn ++ bn (UInt8.ofNat (16 * hx a + hx b)) :: List.replicate k 0) = pre.map bn ++ (List.map bn [UInt8.ofNat (16 * hx a + hx b)] ++ List.replicate k 0) from rfl, this]
      cases un (s.drop (2 * (v + 1))) <;> simp
    · rw [if_neg c, if_pos]
      by_cases d : hx a < 16
      · rw [if_neg (show ¬ hx b < 16 by omega)]; simp
      · rw [if_neg d]; simp
theorem octBytes_ok (s : Str) (hb : s.length ≤ 140737488355328) : f_octet_Bytes s = some (match un s with | some x => (x, 0) | none => ([], 4)) := by
  unfold f_octet_Bytes
  by_cases c : s.length % 2 = 0
  · obtain ⟨m, hm⟩ : ∃ m, s.length = 2 * m := ⟨s.length / 2, by omega⟩
    have t : (s.length : Int).tdiv 2 = (m : Int) := by rw [Int.tdiv_eq_ediv_of_nonneg (Int.natCast_nonneg _)]; omega
    have q := b12o s m hm (by omega) m 0 [] (by omega) rfl
    rw [if_neg (by rw [Int.tmod_eq_emod_of_nonneg (Int.natCast_nonneg _)]; simp; omega)]
    rw [t, w_i64 (n := (m : Int)) (by omega) (by omega), gd_t _ (by omega), List.length_replicate, Int.toNat_natCast, show ((((m : Int)) - 0).toNat + 1) = m + 1 by omega]
    rw [show ((0 : Nat) : Int) = 0 from rfl, List.map_nil, List.nil_append, show 2 * 0 = 0 from rfl, List.drop_zero] at q
    rw [q]
    cases un s with
    | none => rfl
    | some x => simp only [Option.bind_some, List.nil_append, nb_bn]
  · rw [if_pos (by rw [Int.tmod_eq_emod_of_nonneg (Int.natCast_nonneg _)]; simp; omega)]
    have : un s = none := by
      cases e : un s with
      | none => rfl
      | some x => have := un_len s.length s x (Nat.le_refl _) e; omega
    rw [this]
abbrev pfx : Str := [115, 104, 97, 50, 53, 54, 58]
def parseS (s : Str) : Str × Int := if s.take 7 = pfx then (match un (s.drop 7) with | some x => if x.length = 32 then (x, 0) else ([], 6) | none => ([], 6)) else ([], 6)
end Go.Proofs.YtjhgkcbhllomaaaDoor.V.M
end

section
/- Octet: numbers in bytes, read and written; the loose reader; what is bound. -/
namespace Go.Proofs.YtjhgkcbhllomaaaDoor.V.M
set_option linter.unusedVariables false
set_option linter.unusedSimpArgs false
open Go Go.RowKit
theorem cut_take {α : Type} (l : List α) (k : Nat) : cut l 0 (if (k : Int) < (l.length : Int) then (k : Int) else (l.length : Int)) = l.take k := by
  by_cases c : k < l.length
  · rw [if_pos (by omega)]; exact cut_zero l k
  · rw [if_neg (by omega), cut_zero, List.take_of_length_le (by omega), List.take_of_length_le (by omega)]
theorem cut_gd {α : Type} (l : List α) (k : Nat) : 0 ≤ (if (k : Int) < (l.length : Int) then (k : Int) else (l.length : Int)) ∧ (if (k : Int) < (l.length : Int) then (k : Int) else (l.length : Int)) ≤ (l.length : Int) := by
  split <;> omega
theorem cut_gdI {α : Type} (l : List α) (k : Int) (hk : 0 ≤ k) : 0 ≤ (if k < (l.length : Int) then k else (l.length : Int)) ∧ (if k < (l.length : Int) then k else (l.length : Int)) ≤ (l.length : Int) := by
  split <;> omega
theorem oalive_ok : f_law01_alive = some true := by kernel_rfl
def fewL (l : List Str) : List Str := (l.take 66).map (·.take 4100)
theorem fewL_len (l : List Str) : (fewL l).length ≤ 66 := by unfold fewL; rw [List.length_map, List.length_take]; omega
theorem fewl7_ok (l t : List Str) (ht : t.length ≤ 66) (he : ([] : List Str) ++ (cut l 0 (if 66 < (l.length : Int) then 66 else (l.length : Int))) = t) (suf : List Str) : ∀ (pre : List Str) (m : Nat), pre.length + suf.length = t.length → suf.length < m →
    f_law01_few_l7 l m (pre.length : Int) (pre ++ suf) = some ((t.length : Int), pre ++ suf.map (·.take 4100)) := by
  induction suf with
  | nil =>
    intro pre m hl hm
    obtain ⟨m, rfl⟩ : ∃ k, m = k + 1 := ⟨m - 1, by omega⟩
    simp only [List.length_nil] at hl
    rw [f_law01_few_l7, he, if_neg (by simp; omega), List.map_nil, show t.length = pre.length by omega]
  | cons x r ih =>
    intro pre m hl hm
    obtain ⟨m, rfl⟩ : ∃ k, m = k + 1 := ⟨m - 1, by omega⟩
    simp only [List.length_cons] at hl hm
    rw [f_law01_few_l7, he, if_pos (by simp; omega), ix_nat, List.getElem?_append_right (Nat.le_refl _), Nat.sub_self, List.getElem?_cons_zero, Option.bind_some, Option.bind_some, gd_t _ (cut_gdI x 4100 (by decide)), show cut x 0 (if 4100 < (x.length : Int) then 4100 else (x.length : Int)) = x.take 4100 from cut_take x 4100, w_i64 (by omega) (by omega), Int.toNat_natCast, List.set_append_right _ _ (Nat.le_refl _), Nat.sub_self, List.set_cons_zero]
    have q := ih (pre ++ [x.take 4100]) m (by simp; omega) (by omega)
    rw [List.length_append, List.length_singleton] at q
    rw [show ((pre.length : Int) + 1) = ((pre.length + 1 : Nat) : Int) by omega]
    rw [show pre ++ x.take 4100 :: r = pre ++ [x.take 4100] ++ r by simp, q]; simp
theorem few_ok (l : List Str) : f_law01_few l = some (fewL l) := by
  unfold f_law01_few
  have e : ([] : List Str) ++ (cut l 0 (if 66 < (l.length : Int) then 66 else (l.length : Int))) = l.take 66 := cut_take l 66
  rw [gd_t _ (cut_gdI l 66 (by decide)), show cut l 0 (if 66 < (l.length : Int) then 66 else (l.length : Int)) = l.take 66 from cut_take l 66, gd_t _ (by rw [List.length_take]; omega), List.nil_append]
  have q := fewl7_ok l (l.take 66) (by rw [List.length_take]; omega) e (l.take 66) [] ((((l.take 66).length : Int) - 0).toNat + 1) (by simp) (by omega)
  rw [List.nil_append] at q
  rw [show ((([] : List Str).length : Nat) : Int) = 0 from rfl] at q
  rw [q]; rfl
/-- What a text's bytes say, the lowest one first. -/
def wholeN : Str → Nat
  | [] => 0
  | c :: l => c.toNat + 256 * wholeN l
theorem wholeN_lt : ∀ l : Str, wholeN l < 2 ^ (8 * l.length)
  | [] => by decide
  | c :: l => by
    have := wholeN_lt l
    have hc := c.toNat_lt
    rw [wholeN, List.length_cons, show 8 * (l.length + 1) = 8 * l.length + 8 by omega, Nat.pow_add]
    omega
theorem wholeN_snoc (l : Str) (c : UInt8) : wholeN (l ++ [c]) = wholeN l + c.toNat * 2 ^ (8 * l.length) := by
  induction l with
  | nil => simp [wholeN]
  | cons a l ih => rw [List.cons_append, wholeN, wholeN, ih, List.length_cons, show 8 * (l.length + 1) = 8 * l.length + 8 by omega, Nat.pow_add, Nat.mul_add, ← Nat.mul_assoc, show 2 ^ (8 * l.length) * 2 ^ 8 = 256 * 2 ^ (8 * l.length) by omega, ← Nat.mul_assoc, Nat.mul_comm 256 c.toNat]; omega
theorem w_u64n {n : Nat} (h : n < 18446744073709551616) : IntKind.u64.wrap (n : Int) = (n : Int) := w_u64 (by omega) (by omega)
theorem or_step (n : Nat) (c : UInt8) (k : Nat) (hk : k < 8) (hn : n < 2 ^ (8 * k)) :
    IntKind.u64.wrap ((BitVec.ofInt IntKind.u64.bits (n : Int) ||| BitVec.ofInt IntKind.u64.bits (IntKind.u64.wrap ((IntKind.u64.wrap (bn c)) * 2 ^ (min (IntKind.i64.wrap (8 * (k : Int))).toNat IntKind.u64.bits)))).toNat) = ((n + c.toNat * 2 ^ (8 * k) : Nat) : Int) := by
  have hc := c.toNat_lt
  have hp : 2 ^ (8 * k) ≤ 2 ^ 56 := Nat.pow_le_pow_right (by decide) (by omega)
  have hm : c.toNat * 2 ^ (8 * k) ≤ 255 * 2 ^ 56 := Nat.mul_le_mul (by omega) hp
  have hs : n + c.toNat * 2 ^ (8 * k) < 18446744073709551616 := by
    have : c.toNat * 2 ^ (8 * k) + 2 ^ (8 * k) ≤ 256 * 2 ^ 56 := by
      have : (c.toNat + 1) * 2 ^ (8 * k) ≤ 256 * 2 ^ 56 := Nat.mul_le_mul (by omega) hp
      rw [Nat.add_mul] at this; omega
    omega
  rw [show bn c = ((c.toNat : Nat) : Int) from rfl, w_u64n (n := c.toNat) (by omega), w_i64 (by omega) (by omega), show (8 * (k : Int)).toNat = 8 * k by omega, show min (8 * k) IntKind.u64.bits = 8 * k by show min (8 * k) 64 = _; omega,
    show ((c.toNat : Int) * 2 ^ (8 * k)) = ((c.toNat * 2 ^ (8 * k) : Nat) : Int) by rw [Int.natCast_mul, Int.natCast_pow]; rfl, w_u64n (n := c.toNat * 2 ^ (8 * k)) (by omega), BitVec.toNat_or, BitVec.toNat_ofInt, BitVec.toNat_ofInt]
  show IntKind.u64.wrap (((((n : Int) % (18446744073709551616 : Int)).toNat ||| (((c.toNat * 2 ^ (8 * k) : Nat) : Int) % (18446744073709551616 : Int)).toNat : Nat)) : Int) = _
  rw [show ((n : Int) % (18446744073709551616 : Int)).toNat = n by omega, show (((c.toNat * 2 ^ (8 * k) : Nat) : Int) % (18446744073709551616 : Int)).toNat = c.toNat * 2 ^ (8 * k) by omega]
  have e := Nat.shiftLeft_add_eq_or_of_lt hn c.toNat
  rw [Nat.shiftLeft_eq] at e
  rw [Nat.or_comm, ← e, Nat.add_comm, w_u64n hs]
theorem w9_ok (s : Str) (hs : s.length ≤ 8) (suf : Str) : ∀ (pre : Str) (m : Nat), s = pre ++ suf → suf.length < m → f_octet_Whole_l9 s m ((wholeN pre : Nat) : Int) (pre.length : Int) = some (((wholeN s : Nat) : Int), (s.length : Int)) := by
  induction suf with
  | nil =>
    intro pre m h hm
    obtain ⟨m, rfl⟩ : ∃ k, m = k + 1 := ⟨m - 1, by omega⟩
    rw [List.append_nil] at h; subst h
    rw [f_octet_Whole_l9, if_neg (by simp)]
  | cons c r ih =>
    intro pre m h hm
    obtain ⟨m, rfl⟩ : ∃ k, m = k + 1 := ⟨m - 1, by omega⟩
    have hl : s.length = pre.length + 1 + r.length := by rw [h]; simp; omega
    simp only [List.length_cons] at hm
    rw [f_octet_Whole_l9, if_pos (by simp; omega)]
    have e1 : ix s (pre.length : Int) = some c := by rw [h, ix_nat]; simp
    rw [e1, Option.bind_some, gd_t _ (by rw [w_i64 (by omega) (by omega)]; omega), or_step _ _ _ (by omega) (wholeN_lt pre), Option.bind_some, w_i64 (by omega) (by omega), ← wholeN_snoc]
    have q := ih (pre ++ [c]) m (by simp [h]) (by omega)
    rw [List.length_append, List.length_singleton] at q
    exact q
theorem whole_ok (s : Str) (hs : s.length ≤ 8) : f_octet_Whole s = some (((wholeN s : Nat) : Int), 0) := by
  unfold f_octet_Whole
  rw [if_neg (by simp; omega)]
  have q := w9_ok s hs s [] ((((s.length : Int) : Int) - 0).toNat + 1) rfl (by omega)
  rw [show ((wholeN [] : Nat) : Int) = 0 from rfl, show (([] : Str).length : Int) = 0 from rfl] at q
  rw [q]; rfl
theorem w6_ok (s : Str) (hs : s.length ≤ 8) (k : Nat) : ∀ m : Nat, k ≤ s.length → k < m → f_ref01_Whole_l6 s m ((wholeN (s.drop k) : Nat) : Int) ((k : Int) - 1) = some (((wholeN s : Nat) : Int), -1) := by
  induction k with
  | zero =>
    intro m hk hm
    obtain ⟨m, rfl⟩ : ∃ k, m = k + 1 := ⟨m - 1, by omega⟩
    rw [f_ref01_Whole_l6, if_neg (by simp)]; rfl
  | succ k ih =>
    intro m hk hm
    obtain ⟨m, rfl⟩ : ∃ k, m = k + 1 := ⟨m - 1, by omega⟩
    have e : s.drop k = s[k] :: s.drop (k + 1) := List.drop_eq_getElem_cons (by omega)
    have b : wholeN (s.drop k) < 2 ^ 64 := Nat.lt_of_lt_of_le (wholeN_lt _) (Nat.pow_le_pow_right (by decide) (by rw [List.length_drop]; omega))
    rw [e, wholeN] at b
    have hc := s[k].toNat_lt
    rw [f_ref01_Whole_l6, show (((k + 1 : Nat) : Int) - 1) = (k : Int) by omega, if_pos (by simp), ix_nat, List.getElem?_eq_getElem (by omega), Option.bind_some,
      show (256 * ((wholeN (s.drop (k + 1)) : Nat) : Int)) = ((256 * wholeN (s.drop (k + 1)) : Nat) : Int) by omega, w_u64n (by omega), show bn s[k] = ((s[k].toNat : Nat) : Int) from rfl, w_u64n (by omega), ← Int.natCast_add, w_u64n (by omega), w_i64 (by omega) (by omega)]
    have q := ih m (by omega) (by omega)
    rw [e, wholeN, Nat.add_comm] at q
    exact q
theorem rwhole_ok (s : Str) (hs : s.length ≤ 8) : f_ref01_Whole s = some ((wholeN s : Nat) : Int) := by
  unfold f_ref01_Whole
  have q := w6_ok s hs s.length ((((IntKind.i64.wrap ((s.length : Int) - 1)) : Int) - 0).toNat + 2) (Nat.le_refl _) (by rw [w_i64 (by omega) (by omega)]; omega)
  rw [List.drop_length, show ((wholeN [] : Nat) : Int) = 0 from rfl] at q
  rw [w_i64 (n := (s.length : Int) - 1) (by omega) (by omega)] at q ⊢
  rw [q]; rfl
/-- The loose reader. -/
def looseG : Nat → Str → List Str → List Str × Int
  | 0, _, _ => ([], 0)
  | m + 1, s, out =>
    if s = [] then (out, 0)
    else if s.length < 2 then ([], 3)
    else if 4096 < wholeN (s.take 2) ∨ out.length = 64 then ([], 2)
    else if (s.drop 2).length < wholeN (s.take 2) then ([], 3)
    else looseG m ((s.drop 2).drop (wholeN (s.take 2))) (out ++ [(s.drop 2).take (wholeN (s.take 2))])
def looseS (s : Str) : List Str × Int := looseG (s.length + 1) s []
theorem take_ok (s : Str) (n : Nat) (hn : n ≤ 64) (hs : s.length ≤ 1000000) (h2 : s ≠ []) : f_octet_take s (IntKind.i64.wrap ((n : Int) + 1)) =
    some (if s.length < 2 then ([], [], .ifc 91 true [(.int .i64 ((n : Int) + 1)), .ifc 93 true [(.int .i64 3)]]) else if 4096 < wholeN (s.take 2) ∨ n = 64 then ([], [], .ifc 91 true [(.int .i64 ((n : Int) + 1)), .ifc 93 true [(.int .i64 2)]])
      else if (s.drop 2).length < wholeN (s.take 2) then ([], [], .ifc 91 true [(.int .i64 ((n : Int) + 1)), .ifc 93 true [(.int .i64 3)]]) else ((s.drop 2).take (wholeN (s.take 2)), (s.drop 2).drop (wholeN (s.take 2)), .z .nilIface)) := by
  rw [w_i64 (by omega) (by omega)]
  unfold f_octet_take f_octet_short
  by_cases c : s.length < 2
  · rw [if_pos (by simp; omega), if_pos c]; rfl
  · rw [if_neg (by simp; omega), if_neg c, gd_t _ (by omega), show cut s 0 2 = s.take 2 from cut_zero s 2, whole_ok _ (by rw [List.length_take]; omega), Option.bind_some, gd_t _ (by omega), show cut s 2 (s.length : Int) = s.drop 2 from cut_all s 2]
    have hw := wholeN_lt (s.take 2)
    have l2 : (s.take 2).length = 2 := by rw [List.length_take]; omega
    rw [l2] at hw
    generalize wholeN (s.take 2) = v at hw ⊢
    have ld : (s.drop 2).length = s.length - 2 := List.length_drop
    generalize s.drop 2 = r at ld ⊢
    by_cases d : 4096 < v ∨ n = 64
    · rw [if_pos (by simp; omega), if_pos d]
    · rw [if_neg (by simp; omega), if_neg d, w_u64n (by omega)]
      by_cases e : r.length < v
      · rw [if_pos (by simp; omega), if_pos e]; rfl
      · rw [if_neg (by simp; omega), if_neg e, gd_t _ (by omega), gd_t _ (by omega), cut_zero, cut_all]
def sumG (p : List Str × Int) : (Str × (List Str)) ⊕ ((List Str) × Int) := if p.2 = 0 then .inl ([], p.1) else .inr p
theorem lg_nil (m : Nat) (out : List Str) : looseG (m + 1) [] out = (out, 0) := by rw [looseG, if_pos rfl]
theorem lg_one (m : Nat) (s : Str) (out : List Str) (c : s ≠ []) (c1 : s.length < 2) : looseG (m + 1) s out = ([], 3) := by rw [looseG, if_neg c, if_pos c1]
theorem lg_big (m : Nat) (s : Str) (out : List Str) (c : s ≠ []) (c1 : ¬ s.length < 2) (c2 : 4096 < wholeN (s.take 2) ∨ out.length = 64) : looseG (m + 1) s out = ([], 2) := by rw [looseG, if_neg c, if_neg c1, if_pos c2]
theorem lg_short (m : Nat) (s : Str) (out : List Str) (c : s ≠ []) (c1 : ¬ s.length < 2) (c2 : ¬ (4096 < wholeN (s.take 2) ∨ out.length = 64)) (c3 : (s.drop 2).length < wholeN (s.take 2)) : looseG (m + 1) s out = ([], 3) := by rw [looseG, if_neg c, if_neg c1, if_neg c2, if_pos c3]
theorem lg_step (m : Nat) (s : Str) (out : List Str) (c : s ≠ []) (c1 : ¬ s.length < 2) (c2 : ¬ (4096 < wholeN (s.take 2) ∨ out.length = 64)) (c3 : ¬ (s.drop 2).length < wholeN (s.take 2)) : looseG (m + 1) s out = looseG m ((s.drop 2).drop (wholeN (s.take 2))) (out ++ [(s.drop 2).take (wholeN (s.take 2))]) := by rw [looseG, if_neg c, if_neg c1, if_neg c2, if_neg c3]
theorem loose7_ok (s0 : Str) (m : Nat) : ∀ (s : Str) (out : List Str), s.length ≤ 1000000 → s.length < m → out.length ≤ 64 → f_octet_Loose_l7 s0 m s out = some (sumG (looseG m s out)) := by
  induction m with
  | zero => intro s out _ h _; omega
  | succ m ih =>
    intro s out hs hm ho
    rw [f_octet_Loose_l7]
    by_cases c : s = []
    · subst c; rw [if_neg (by decide), lg_nil]; rfl
    · rw [if_pos (by simp [c]), take_ok s _ ho hs c, Option.bind_some]
      by_cases c1 : s.length < 2
      · rw [if_pos c1, lg_one _ _ _ c c1]; rfl
      · rw [if_neg c1]
        by_cases c2 : 4096 < wholeN (s.take 2) ∨ out.length = 64
        · rw [if_pos c2, lg_big _ _ _ c c1 c2]; rfl
        · rw [if_neg c2]
          by_cases c3 : (s.drop 2).length < wholeN (s.take 2)
          · rw [if_pos c3, lg_short _ _ _ c c1 c2 c3]; rfl
          · rw [if_neg c3, lg_step _ _ _ c c1 c2 c3]
            dsimp only
            rw [gd_t _ (show isIf (Sc.z Zk.nilIface) = true from rfl), if_neg (show ¬ (!nilI (Sc.z Zk.nilIface)) = true by decide), gd_t _ (by omega)]
            exact ih _ _ (by simp only [List.length_drop]; omega) (by simp only [List.length_drop]; omega) (by simp; omega)
theorem loose_ok (s : Str) (hs : s.length ≤ 1000000) : f_octet_Loose s = some (looseS s) := by
  unfold f_octet_Loose
  rw [loose7_ok s (s.length + 1) s [] hs (by omega) (by simp), Option.bind_some]
  show _ = some (looseG (s.length + 1) s [])
  unfold sumG
  generalize looseG (s.length + 1) s [] = p
  obtain ⟨a, b⟩ := p
  by_cases h : b = 0
  · subst h; rfl
  · rw [if_neg h]
theorem rloose13_ok (s0 : Str) (m : Nat) : ∀ (s : Str) (out : List Str), s.length ≤ 1000000 → s.length < m → out.length ≤ 64 → f_ref01_Loose_l13 s0 m s out = some (sumG (looseG m s out)) := by
  induction m with
  | zero => intro s out _ h _; omega
  | succ m ih =>
    intro s out hs hm ho
    rw [f_ref01_Loose_l13]
    by_cases c : s = []
    · subst c; rw [if_neg (by decide), lg_nil]; rfl
    · have hz : 0 < s.length := List.length_pos_iff.mpr c
      rw [if_pos (by simp; omega)]
      by_cases c1 : s.length < 2
      · rw [if_pos (by simp; omega), lg_one _ _ _ c c1]; rfl
      · rw [if_neg (by simp; omega), gd_t _ (by omega), show cut s 0 2 = s.take 2 from cut_zero s 2, rwhole_ok _ (by rw [List.length_take]; omega), Option.bind_some, gd_t _ (by omega), show cut s 2 (s.length : Int) = s.drop 2 from cut_all s 2]
        have hw := wholeN_lt (s.take 2)
        have l2 : (s.take 2).length = 2 := by rw [List.length_take]; omega
        rw [l2] at hw
        have ld : (s.drop 2).length = s.length - 2 := List.length_drop
        rw [w_i64 (n := ((wholeN (s.take 2) : Nat) : Int)) (by omega) (by omega)]
        by_cases c2 : 4096 < wholeN (s.take 2) ∨ out.length = 64
        · rw [if_pos (by simp; omega), lg_big _ _ _ c c1 c2]; rfl
        · rw [if_neg (by simp; omega)]
          by_cases c3 : (s.drop 2).length < wholeN (s.take 2)
          · rw [if_pos (by simp; omega), lg_short _ _ _ c c1 c2 c3]; rfl
          · rw [if_neg (by simp; omega), gd_t _ (by omega), gd_t _ (by omega), gd_t _ (by omega), Option.bind_some, cut_all, cut_zero, lg_step _ _ _ c c1 c2 c3]
            exact ih _ _ (by simp only [List.length_drop]; omega) (by simp only [List.length_drop]; omega) (by simp; omega)
theorem rloose_ok (s : Str) (hs : s.length ≤ 1000000) : f_ref01_Loose s = some (looseS s) := by
  unfold f_ref01_Loose
  rw [show ((((s.length : Int) : Int) - 0).toNat + 1) = s.length + 1 by omega, rloose13_ok s (s.length + 1) s [] hs (by omega) (by simp), Option.bind_some]
  show _ = some (looseG (s.length + 1) s [])
  unfold sumG
  generalize looseG (s.length + 1) s [] = p
  obtain ⟨a, b⟩ := p
  by_cases h : b = 0
  · subst h; rfl
  · rw [if_neg h]
end Go.Proofs.YtjhgkcbhllomaaaDoor.V.M
end

section
/- Octet: the laws OctetBinds, OctetLong, OctetBack. -/
namespace Go.Proofs.YtjhgkcbhllomaaaDoor.V.M
set_option linter.unusedVariables false
set_option linter.unusedSimpArgs false
open Go Go.RowKit
theorem same9_ok (a b : List Str) (hl : a.length = b.length) (hb : a.length < 9000000000000000000) (k : Nat) : ∀ (i m : Nat), i + k = a.length → k < m →
    f_ref01_Same_l9 a b m (i : Int) = some (if a.drop i = b.drop i then .inl (a.length : Int) else .inr false) := by
  induction k with
  | zero =>
    intro i m hi hm
    obtain ⟨m, rfl⟩ : ∃ k, m = k + 1 := ⟨m - 1, by omega⟩
    rw [f_ref01_Same_l9, if_neg (by simp; omega), List.drop_eq_nil_of_le (by omega), List.drop_eq_nil_of_le (by omega), if_pos rfl, show i = a.length by omega]
  | succ k ih =>
    intro i m hi hm
    obtain ⟨m, rfl⟩ : ∃ k, m = k + 1 := ⟨m - 1, by omega⟩
    rw [f_ref01_Same_l9, if_pos (by simp; omega), ix_nat, List.getElem?_eq_getElem (by omega), Option.bind_some, ix_nat, List.getElem?_eq_getElem (by omega), Option.bind_some, List.drop_eq_getElem_cons (show i < a.length by omega), List.drop_eq_getElem_cons (show i < b.length by omega)]
    by_cases c : a[i]'(by omega) = b[i]'(by omega)
    · rw [if_neg (by simp [c]), w_i64 (by omega) (by omega), show ((i : Int) + 1) = ((i + 1 : Nat) : Int) by omega, ih (i + 1) m (by omega) (by omega), c]
      congr 1
      by_cases d : a.drop (i + 1) = b.drop (i + 1)
      · rw [if_pos d, if_pos (by rw [d])]
      · rw [if_neg d, if_neg (fun h => d (List.cons.inj h).2)]
    · rw [if_pos (by simp [c]), if_neg (fun h => c (List.cons.inj h).1)]
theorem same_ok (a b : List Str) (hb : a.length < 9000000000000000000) : f_ref01_Same a b = some (decide (a = b)) := by
  unfold f_ref01_Same
  by_cases c : a.length = b.length
  · have q := same9_ok a b c hb a.length 0 ((((a.length : Int) : Int) - 0).toNat + 1) (by omega) (by omega)
    rw [show ((0 : Nat) : Int) = 0 from rfl, List.drop_zero, List.drop_zero] at q
    rw [if_neg (by simp; omega), q, Option.bind_some]
    by_cases e : a = b
    · rw [if_pos e]; simp [e]
    · rw [if_neg e]; simp [e]
  · rw [if_pos (by simp; omega)]
    have : ¬ a = b := fun h => c (by rw [h])
    simp [this]
theorem may7_ok (l : List Str) (hb : l.length < 9000000000000000000) (k : Nat) : ∀ (i m : Nat), i + k = l.length → k < m →
    f_ref01_May_l7 l m (i : Int) = some (if ∀ x ∈ l.drop i, x.length ≤ 4096 then .inl (l.length : Int) else .inr false) := by
  induction k with
  | zero =>
    intro i m hi hm
    obtain ⟨m, rfl⟩ : ∃ k, m = k + 1 := ⟨m - 1, by omega⟩
    rw [f_ref01_May_l7, if_neg (by simp; omega), List.drop_eq_nil_of_le (by omega), if_pos (by intro x hx; cases hx), show i = l.length by omega]
  | succ k ih =>
    intro i m hi hm
    obtain ⟨m, rfl⟩ : ∃ k, m = k + 1 := ⟨m - 1, by omega⟩
    rw [f_ref01_May_l7, if_pos (by simp; omega), ix_nat, List.getElem?_eq_getElem (by omega), Option.bind_some, List.drop_eq_getElem_cons (show i < l.length by omega)]
    by_cases c : (l[i]'(by omega)).length ≤ 4096
    · rw [if_neg (by simp; omega), w_i64 (by omega) (by omega), show ((i : Int) + 1) = ((i + 1 : Nat) : Int) by omega, ih (i + 1) m (by omega) (by omega)]
      congr 1
      by_cases d : ∀ x ∈ l.drop (i + 1), x.length ≤ 4096
      · rw [if_pos d, if_pos (by intro x hx; rcases List.mem_cons.mp hx with rfl | hx; exact c; exact d x hx)]
      · rw [if_neg d, if_neg (fun h => d (fun x hx => h x (List.mem_cons_of_mem _ hx)))]
    · rw [if_pos (by simp; omega), if_neg (fun h => c (h _ (List.mem_cons_self ..)))]
theorem may_ok (l : List Str) (hb : l.length < 9000000000000000000) : f_ref01_May l = some (decide (mayP l)) := by
  unfold f_ref01_May
  have q := may7_ok l hb l.length 0 ((((l.length : Int) : Int) - 0).toNat + 1) (by omega) (by omega)
  rw [show ((0 : Nat) : Int) = 0 from rfl, List.drop_zero] at q
  rw [q, Option.bind_some]
  by_cases c : ∀ x ∈ l, x.length ≤ 4096
  · rw [if_pos c]
    show some (decide _) = some (decide _)
    congr 1
    rw [decide_eq_decide]
    exact ⟨fun h => ⟨by omega, c⟩, fun h => by have := h.1; omega⟩
  · rw [if_neg c]
    have : ¬ mayP l := fun h => c h.2
    simp [this]
theorem rwide2_ok (n : Nat) (hn : n ≤ 4100) : f_ref01_Wide (IntKind.u64.wrap (n : Int)) 2 = some (two n) := by
  rw [w_u64n (by omega)]
  unfold f_ref01_Wide
  show (f_ref01_Wide_l7 2 3 (n : Int) 0 []).bind _ = _
  rw [f_ref01_Wide_l7, if_pos (by decide), gd_t _ (by simp), f_ref01_Wide_l7, if_pos (by decide), gd_t _ (by simp), f_ref01_Wide_l7, if_neg (by decide), Option.bind_some]
  have d1 : IntKind.u64.wrap ((n : Int).tdiv 256) = (n : Int) / 256 := by rw [Int.tdiv_eq_ediv_of_nonneg (by omega), w_u64 (by omega) (by omega)]
  rw [d1, Int.tmod_eq_emod_of_nonneg (by omega), Int.tmod_eq_emod_of_nonneg (by omega), w_u8, w_u8]
  show some [nb _, nb _] = some [_, _]
  have h1 : nb ((n : Int) % 256 % 256) = UInt8.ofNat n := by unfold nb; apply UInt8.toNat_inj.mp; rw [UInt8.toNat_ofNat', UInt8.toNat_ofNat']; omega
  have h2 : nb ((n : Int) / 256 % 256 % 256) = UInt8.ofNat (n / 256) := by unfold nb; apply UInt8.toNat_inj.mp; rw [UInt8.toNat_ofNat', UInt8.toNat_ofNat']; omega
  rw [h1, h2]
theorem bindP_cons (x : Str) (l : List Str) : bindP (x :: l) = two x.length ++ (x ++ bindP l) := by simp [bindP]
theorem two_len (n : Nat) : (two n).length = 2 := rfl
theorem rbind7_ok (l : List Str) (h1 : l.length ≤ 66) (h2 : ∀ x ∈ l, x.length ≤ 4096) (suf : List Str) : ∀ (pre : List Str) (m : Nat), l = pre ++ suf → suf.length < m →
    f_ref01_Bind_l7 l m (bindP pre) (pre.length : Int) = some (bindP l, (l.length : Int)) := by
  induction suf with
  | nil =>
    intro pre m h hm
    obtain ⟨m, rfl⟩ : ∃ k, m = k + 1 := ⟨m - 1, by omega⟩
    rw [List.append_nil] at h; subst h
    rw [f_ref01_Bind_l7, if_neg (by simp)]
  | cons x r ih =>
    intro pre m h hm
    obtain ⟨m, rfl⟩ : ∃ k, m = k + 1 := ⟨m - 1, by omega⟩
    have hl : l.length = pre.length + 1 + r.length := by rw [h]; simp; omega
    simp only [List.length_cons] at hm
    have hx : x.length ≤ 4096 := h2 x (by rw [h]; simp)
    have hp := bindP_le pre (fun y hy => h2 y (by rw [h]; simp [hy]))
    rw [f_ref01_Bind_l7, if_pos (by simp; omega)]
    have e1 : ix l (pre.length : Int) = some x := by rw [h, ix_nat]; simp
    rw [e1, Option.bind_some, rwide2_ok _ (by omega), Option.bind_some, gd_t _ (by rw [two_len]; omega), gd_t _ (by rw [List.length_append, two_len]; omega), w_i64 (by omega) (by omega)]
    have q := ih (pre ++ [x]) m (by simp [h]) (by omega)
    rw [List.length_append, List.length_singleton, bindP_app, bindP_cons, show bindP [] = [] from rfl, List.append_nil, ← List.append_assoc] at q
    exact q
theorem rbind_ok (l : List Str) (h1 : l.length ≤ 66) (h2 : ∀ x ∈ l, x.length ≤ 4096) : f_ref01_Bind l = some (bindP l) := by
  unfold f_ref01_Bind
  have q := rbind7_ok l h1 h2 l [] ((((l.length : Int) : Int) - 0).toNat + 1) rfl (by omega)
  rw [show bindP [] = ([] : Str) from rfl, show (([] : List Str).length : Int) = 0 from rfl] at q
  rw [q]; rfl
theorem wholeN_two (n : Nat) (h : n < 65536) : wholeN (two n) = n := by
  show (UInt8.ofNat n).toNat + 256 * ((UInt8.ofNat (n / 256)).toNat + 256 * 0) = n
  rw [UInt8.toNat_ofNat', UInt8.toNat_ofNat']; omega
/-- The parts that lie whole in the first k bytes, if the cut falls between two. -/
def cutAt : List Str → Nat → Option (List Str)
  | [], _ => some []
  | x :: t, k => if k = 0 then some [] else if 2 + x.length ≤ k then (cutAt t (k - (2 + x.length))).map (x :: ·) else none
theorem cutAt_len : ∀ (t : List Str) (k : Nat) (p : List Str), cutAt t k = some p → p.length ≤ t.length
  | [], k, p, h => by cases h; simp
  | x :: t, k, p, h => by
    rw [cutAt] at h
    split at h
    · cases h; simp
    · split at h
      · obtain ⟨q, hq, rfl⟩ := Option.map_eq_some_iff.mp h
        have := cutAt_len t _ q hq
        simp; omega
      · cases h
theorem cutAt_all : ∀ (t : List Str), cutAt t (bindP t).length = some t
  | [] => rfl
  | x :: t => by
    have hl : (bindP (x :: t)).length = 2 + x.length + (bindP t).length := by rw [bindP_cons, List.length_append, List.length_append, two_len]; omega
    rw [cutAt, if_neg (by omega), if_pos (by omega), hl, show 2 + x.length + (bindP t).length - (2 + x.length) = (bindP t).length by omega, cutAt_all t]; rfl
def endG (o : Option (List Str)) (out : List Str) : List Str × Int := match o with | some p => (out ++ p, 0) | none => ([], 3)
theorem lg_bind (t : List Str) : ∀ (m k : Nat) (out : List Str), (∀ x ∈ t, x.length ≤ 4096) → out.length + t.length ≤ 64 → k ≤ (bindP t).length → k < m → looseG m ((bindP t).take k) out = endG (cutAt t k) out := by
  induction t with
  | nil =>
    intro m k out _ _ hk hm
    obtain ⟨m, rfl⟩ : ∃ k, m = k + 1 := ⟨m - 1, by omega⟩
    rw [show (bindP []).take k = ([] : Str) by simp [bindP], lg_nil]; simp [cutAt, endG]
  | cons x t ih =>
    intro m k out h1 h2 hk hm
    obtain ⟨m, rfl⟩ : ∃ k, m = k + 1 := ⟨m - 1, by omega⟩
    have hl : (bindP (x :: t)).length = 2 + x.length + (bindP t).length := by rw [bindP_cons, List.length_append, List.length_append, two_len]; omega
    have hx := h1 x (List.mem_cons_self ..)
    simp only [List.length_cons] at h2
    rw [cutAt]
    by_cases c : k = 0
    · subst c; rw [if_pos rfl, List.take_zero, lg_nil]; simp [endG]
    · rw [if_neg c]
      have hne : (bindP (x :: t)).take k ≠ [] := by
        intro h; have := congrArg List.length h; rw [List.length_take, hl] at this; simp at this; omega
      by_cases c1 : k < 2
      · rw [lg_one _ _ _ hne (by rw [List.length_take]; omega), if_neg (by omega)]; rfl
      · have hs : (bindP (x :: t)).take k = two x.length ++ (x ++ bindP t).take (k - 2) := by
          rw [bindP_cons, List.take_append, List.take_of_length_le (by rw [two_len]; omega), two_len]
        have ht : ((bindP (x :: t)).take k).take 2 = two x.length := by rw [hs]; exact List.take_left' rfl
        have hd : ((bindP (x :: t)).take k).drop 2 = (x ++ bindP t).take (k - 2) := by rw [hs]; exact List.drop_left' rfl
        have hw : wholeN (((bindP (x :: t)).take k).take 2) = x.length := by rw [ht]; exact wholeN_two _ (by omega)
        by_cases c2 : 2 + x.length ≤ k
        · rw [lg_step _ _ _ hne (by rw [List.length_take]; omega) (by rw [hw]; omega) (by rw [hw, hd, List.length_take, List.length_append]; omega), hw, hd, if_pos c2, List.take_take, List.drop_take, List.drop_left' rfl, show min x.length (k - 2) = x.length by omega, List.take_left' rfl]
          rw [show k - 2 - x.length = k - (2 + x.length) by omega, ih m (k - (2 + x.length)) (out ++ [x]) (fun y hy => h1 y (List.mem_cons_of_mem _ hy)) (by simp; omega) (by omega) (by omega)]
          cases cutAt t (k - (2 + x.length)) with
          | none => rfl
          | some p => simp [endG]
        · rw [lg_short _ _ _ hne (by rw [List.length_take]; omega) (by rw [hw]; omega) (by rw [hw, hd, List.length_take, List.length_append]; omega), if_neg c2]; rfl
theorem loose_bind (t : List Str) (h : mayP t) (k : Nat) (hk : k ≤ (bindP t).length) : looseS ((bindP t).take k) = endG (cutAt t k) [] := by
  unfold looseS
  rw [List.length_take]
  exact lg_bind t _ k [] h.2 (by have := h.1; simp; omega) hk (by omega)
def anyEnd : List Str → Nat → Nat → Bool
  | [], _, _ => false
  | x :: r, now, k => (now + (2 + x.length) == k) || anyEnd r (now + (2 + x.length)) k
theorem anyEnd_big : ∀ (t : List Str) (now k : Nat), k < now → anyEnd t now k = false
  | [], _, _, _ => rfl
  | x :: r, now, k, h => by
    rw [anyEnd, anyEnd_big r _ _ (by omega)]
    simp; omega
theorem cutAt_some : ∀ (t : List Str) (k now : Nat), k ≤ (bindP t).length → (cutAt t k).isSome = ((k == 0) || anyEnd t now (now + k))
  | [], k, now, h => by
    obtain rfl : k = 0 := by simpa [bindP] using h
    rfl
  | x :: t, k, now, h => by
    have hl : (bindP (x :: t)).length = 2 + x.length + (bindP t).length := by rw [bindP_cons, List.length_append, List.length_append, two_len]; omega
    rw [cutAt, anyEnd]
    by_cases c : k = 0
    · subst c; simp
    · rw [if_neg c]
      by_cases c2 : 2 + x.length ≤ k
      · rw [if_pos c2, Option.isSome_map, cutAt_some t (k - (2 + x.length)) (now + (2 + x.length)) (by omega), show now + (2 + x.length) + (k - (2 + x.length)) = now + k by omega]
        have e1 : (k == 0) = false := by simpa using c
        have e2 : (k - (2 + x.length) == 0) = (now + (2 + x.length) == now + k) := by rw [Bool.eq_iff_iff]; simp; omega
        rw [e1, e2]; rfl
      · rw [if_neg c2, anyEnd_big t _ _ (by omega)]
        have e1 : (k == 0) = false := by simpa using c
        have e2 : (now + (2 + x.length) == now + k) = false := by simp; omega
        rw [e1, e2]; rfl
theorem ends13_ok (t : List Str) (t2 : Str × Int) (k : Nat) (h1 : t.length ≤ 66) (h2 : ∀ x ∈ t, x.length ≤ 4100) (suf : List Str) : ∀ (pre : List Str) (m now : Nat) (e : Bool), t = pre ++ suf → suf.length < m → now ≤ 5000 * pre.length →
    ∃ now' : Int, f_law01_OctetLong_l13 t t2 (k : Int) m e (now : Int) (pre.length : Int) = some (e || anyEnd suf now k, now', (t.length : Int)) := by
  induction suf with
  | nil =>
    intro pre m now e h hm hn
    obtain ⟨m, rfl⟩ : ∃ k, m = k + 1 := ⟨m - 1, by omega⟩
    rw [List.append_nil] at h; subst h
    rw [f_law01_OctetLong_l13, if_neg (by simp)]
    exact ⟨(now : Int), by simp [anyEnd]⟩
  | cons x r ih =>
    intro pre m now e h hm hn
    obtain ⟨m, rfl⟩ : ∃ k, m = k + 1 := ⟨m - 1, by omega⟩
    have hl : t.length = pre.length + 1 + r.length := by rw [h]; simp; omega
    simp only [List.length_cons] at hm
    have hx : x.length ≤ 4100 := h2 x (by rw [h]; simp)
    rw [f_law01_OctetLong_l13, if_pos (by simp; omega)]
    have e1 : ix t (pre.length : Int) = some x := by rw [h, ix_nat]; simp
    rw [e1, Option.bind_some, w_i64 (n := 2 + (x.length : Int)) (by omega) (by omega), w_i64 (n := (now : Int) + (2 + (x.length : Int))) (by omega) (by omega), w_i64 (by omega) (by omega), show ((now : Int) + (2 + (x.length : Int))) = ((now + (2 + x.length) : Nat) : Int) by omega]
    obtain ⟨now', q⟩ := ih (pre ++ [x]) m (now + (2 + x.length)) (e || (((now + (2 + x.length) : Nat) : Int) == (k : Int))) (by simp [h]) (by omega) (by simp; omega)
    rw [List.length_append, List.length_singleton] at q
    refine ⟨now', q.trans ?_⟩
    have e2 : (((now + (2 + x.length) : Nat) : Int) == (k : Int)) = (now + (2 + x.length) == k) := by rw [Bool.eq_iff_iff, beq_iff_eq, beq_iff_eq]; omega
    rw [e2, anyEnd, Bool.or_assoc]
theorem fewL_le (l : List Str) : ∀ x ∈ fewL l, x.length ≤ 4100 := by
  intro x hx
  obtain ⟨y, _, rfl⟩ := List.mem_map.mp hx
  rw [List.length_take]; omega
theorem bind_ok (t : List Str) (h : t.length ≤ 66) : f_octet_Bind t = some (bindR t) := by unfold f_octet_Bind; rw [gd_t _ (by omega)]
theorem bindR_may {t : List Str} (h : mayP t) : bindR t = (bindP t, 0) := by unfold bindR; rw [if_pos h]
theorem bindR_not {t : List Str} (h : ¬ mayP t) : bindR t = ([], 2) := by unfold bindR; rw [if_neg h]
theorem octetBinds_true (l : List Str) (s : Str) : f_law01_OctetBinds l s = some true := by
  unfold f_law01_OctetBinds
  have ht := fewL_len l
  rw [few_ok, Option.bind_some]
  generalize fewL l = t at ht
  rw [gd_t _ (cut_gdI s 9000 (by decide)), bind_ok _ ht, Option.bind_some, show cut s 0 (if 9000 < (s.length : Int) then 9000 else (s.length : Int)) = s.take 9000 from cut_take s 9000, loose_ok _ (by rw [List.length_take]; omega), Option.bind_some, rloose_ok _ (by rw [List.length_take]; omega), Option.bind_some]
  have hg : ∀ (m : Nat) (s : Str) (out : List Str), out.length ≤ 64 → (looseG m s out).1.length ≤ 64 := by
    intro m
    induction m with
    | zero => intro s out _; simp [looseG]
    | succ m ih =>
      intro s out ho
      rw [looseG]
      split
      · exact ho
      · split
        · simp
        · split
          · simp
          · split
            · simp
            · exact ih _ _ (by simp; omega)
  have hg2 := hg ((s.take 9000).length + 1) (s.take 9000) [] (by simp)
  change (looseS (s.take 9000)).1.length ≤ 64 at hg2
  generalize looseS (s.take 9000) = p at hg2
  rw [same_ok _ _ (by omega), oalive_ok]
  have e1 : (p.2 != p.2) = false := by simp
  simp only [e1, Bool.not_false, gx, if_true, Option.bind_some, decide_true, Bool.not_true, Bool.or_false, Bool.false_eq_true, if_false]
  rw [may_ok _ (by omega), Option.bind_some]
  by_cases h : mayP t
  · rw [if_neg (by simp [h]), bindR_may h, rbind_ok t ht h.2]; simp
  · rw [if_pos (by simp [h]), bindR_not h]; rfl
theorem octetLong_true (l : List Str) (a : Int) (ha : (Lit.int .i64 a).wf = true) : f_law01_OctetLong l a = some true := by
  have ha1 := bounds_i64 ha
  unfold f_law01_OctetLong
  have ht := fewL_len l
  have ht2 := fewL_le l
  rw [few_ok, Option.bind_some]
  generalize fewL l = t at ht ht2
  rw [bind_ok _ ht, Option.bind_some]
  by_cases h : mayP t
  · have hle := bindP_le t h.2
    have h64 := h.1
    rw [bindR_may h, if_neg (by simp)]
    dsimp only
    generalize hb : bindP t = b at hle
    obtain ⟨k, hk, ek⟩ : ∃ k : Nat, k ≤ b.length ∧ (IntKind.i64.wrap ((IntKind.i64.wrap ((a.tmod (IntKind.i64.wrap ((b.length : Int) + 1))) + (b.length : Int))) + 1)).tmod (IntKind.i64.wrap ((b.length : Int) + 1)) = (k : Int) := by
      rw [w_i64 (n := (b.length : Int) + 1) (by omega) (by omega)]
      have h1 := Int.lt_tmod_of_pos a (b := (b.length : Int) + 1) (by omega)
      have h2 := Int.tmod_lt_of_pos a (b := (b.length : Int) + 1) (by omega)
      generalize a.tmod ((b.length : Int) + 1) = x at h1 h2
      rw [w_i64 (n := x + (b.length : Int)) (by omega) (by omega), w_i64 (by omega) (by omega), Int.tmod_eq_emod_of_nonneg (by omega)]
      have h3 := Int.emod_nonneg (x + (b.length : Int) + 1) (b := (b.length : Int) + 1) (by omega)
      have h4 := Int.emod_lt_of_pos (x + (b.length : Int) + 1) (b := (b.length : Int) + 1) (by omega)
      exact ⟨((x + (b.length : Int) + 1) % ((b.length : Int) + 1)).toNat, by omega, by omega⟩
    rw [gd_t _ (by rw [w_i64 (by omega) (by omega)]; omega), gd_t _ (by rw [w_i64 (by omega) (by omega)]; omega), Option.bind_some, ek]
    obtain ⟨now', q⟩ := ends13_ok t (b, 0) k (by omega) ht2 t [] ((((t.length : Int) : Int) - 0).toNat + 1) 0 ((k : Int) == 0) rfl (by omega) (by omega)
    rw [show (([] : List Str).length : Int) = 0 from rfl, show ((0 : Nat) : Int) = 0 from rfl] at q
    rw [q, Option.bind_some, gd_t _ (by omega), cut_zero, loose_ok _ (by rw [List.length_take]; omega), Option.bind_some, oalive_ok, Option.bind_some, ← hb, loose_bind t h k (by rw [hb]; exact hk)]
    have e := cutAt_some t k 0 (by rw [hb]; exact hk)
    rw [show ((k : Int) == 0) = (k == 0) by rw [Bool.eq_iff_iff]; simp, ← (by rw [Nat.zero_add] at e; exact e : (cutAt t k).isSome = ((k == 0) || anyEnd t 0 k))]
    cases e2 : cutAt t k with
    | none => simp [endG]
    | some p =>
      have := cutAt_len t k p e2
      simp [endG]; omega
  · rw [bindR_not h, if_pos (by decide), oalive_ok]; rfl
theorem bounds_u64 {a : Int} (h : (Lit.int .u64 a).wf = true) : 0 ≤ a ∧ a ≤ 18446744073709551615 := by
  have e := (Bool.and_eq_true_iff.mp h); exact ⟨of_decide_eq_true e.1, of_decide_eq_true e.2⟩
def wideP (n : Nat) (k : Nat) : Str := (List.range k).map fun i => UInt8.ofNat (n / 2 ^ (8 * i))
theorem wideP_len (n k : Nat) : (wideP n k).length = k := by simp [wideP]
theorem wideP_succ (n k : Nat) : wideP n (k + 1) = wideP n k ++ [UInt8.ofNat (n / 2 ^ (8 * k))] := by simp [wideP, List.range_succ]
theorem wholeN_wide (n : Nat) : ∀ k, wholeN (wideP n k) = n % 2 ^ (8 * k)
  | 0 => by simp [wideP, wholeN]; omega
  | k + 1 => by
    rw [wideP_succ, wholeN_snoc, wholeN_wide n k, wideP_len, UInt8.toNat_ofNat', show 8 * (k + 1) = 8 * k + 8 by omega, Nat.pow_add, Nat.mod_mul, Nat.mul_comm (2 ^ (8 * k)) (n / 2 ^ (8 * k) % 2 ^ 8)]
theorem wide11_ok (n size : Nat) (hn : n < 2 ^ 64) (hs : size ≤ 8) (k : Nat) : ∀ (i m : Nat), i + k = size → k < m →
    f_octet_Wide_l11 (n : Int) (size : Int) m (i : Int) ((wideP n i).map bn ++ List.replicate k 0) = some ((size : Int), (wideP n size).map bn) := by
  induction k with
  | zero =>
    intro i m hi hm
    obtain ⟨m, rfl⟩ : ∃ k, m = k + 1 := ⟨m - 1, by omega⟩
    rw [f_octet_Wide_l11, if_neg (by simp; omega), show i = size by omega]; simp
  | succ k ih =>
    intro i m hi hm
    obtain ⟨m, rfl⟩ : ∃ k, m = k + 1 := ⟨m - 1, by omega⟩
    have e8 : IntKind.i64.wrap (8 * (i : Int)) = ((8 * i : Nat) : Int) := by rw [w_i64 (by omega) (by omega)]; omega
    rw [f_octet_Wide_l11, if_pos (by simp; omega), e8, gd_t _ (by omega), ix_nat, List.getElem?_append_right (by rw [List.length_map, wideP_len]; omega), List.length_map, wideP_len, Nat.sub_self, show (List.replicate (k + 1) (0 : Int))[0]? = some 0 from rfl, Option.bind_some, w_i64 (by omega) (by omega), Int.toNat_natCast, Int.toNat_natCast, show min (8 * i) IntKind.u64.bits = 8 * i by show min (8 * i) 64 = _; omega,
      List.set_append_right _ _ (by rw [List.length_map, wideP_len]; omega), List.length_map, wideP_len, Nat.sub_self, List.replicate_succ, List.set_cons_zero]
    have ev : IntKind.u8.wrap ((n : Int).fdiv (2 ^ (8 * i))) = bn (UInt8.ofNat (n / 2 ^ (8 * i))) := by
      rw [w_u8, show ((2 : Int) ^ (8 * i)) = ((2 ^ (8 * i) : Nat) : Int) by rw [Int.natCast_pow]; rfl, Int.fdiv_eq_ediv_of_nonneg _ (Int.natCast_nonneg _), ← Int.natCast_ediv]
      unfold bn; rw [UInt8.toNat_ofNat']; generalize n / 2 ^ (8 * i) = z; omega
    rw [ev]
    have q := ih (i + 1) m (by omega) (by omega)
    rw [wideP_succ, List.map_append, List.append_assoc] at q
    exact q
theorem wideN_ok (n size : Nat) (hn : n < 2 ^ 64) (hs : size ≤ 8) : f_octet_Wide (n : Int) (size : Int) = some (if size < 8 ∧ n / 2 ^ (8 * size) ≠ 0 then ([], 2) else (wideP n size, 0)) := by
  unfold f_octet_Wide
  have e8 : IntKind.i64.wrap (8 * (size : Int)) = ((8 * size : Nat) : Int) := by rw [w_i64 (by omega) (by omega)]; omega
  rw [if_neg (by simp; omega), e8, gd_t _ (fun _ => by omega), Int.toNat_natCast, show min (8 * size) IntKind.u64.bits = 8 * size by show min (8 * size) 64 = _; omega, show ((2 : Int) ^ (8 * size)) = ((2 ^ (8 * size) : Nat) : Int) by rw [Int.natCast_pow]; rfl, Int.fdiv_eq_ediv_of_nonneg _ (Int.natCast_nonneg _), ← Int.natCast_ediv]
  by_cases c : size < 8 ∧ n / 2 ^ (8 * size) ≠ 0
  · have h1 : (decide ((size : Int) < 8)) = true := decide_eq_true (by omega)
    have h2 : (((n / 2 ^ (8 * size) : Nat) : Int) != 0) = true := by rw [bne_iff_ne]; have := c.2; omega
    rw [if_pos c, h1, h2]; rfl
  · have h2 : ((decide ((size : Int) < 8)) && (((n / 2 ^ (8 * size) : Nat) : Int) != 0)) = false := by
      rw [Bool.and_eq_false_iff]
      by_cases d : size < 8
      · right; have : n / 2 ^ (8 * size) = 0 := Decidable.not_not.mp (fun h2 => c ⟨d, h2⟩); rw [this]; rfl
      · left; exact decide_eq_false (by omega)
    rw [if_neg c, if_neg (by rw [h2]; decide), gd_t _ (by omega), Int.toNat_natCast]
    have q := wide11_ok n size hn hs size 0 ((((size : Int) : Int) - 0).toNat + 1) (by omega) (by omega)
    rw [show ((0 : Nat) : Int) = 0 from rfl, show (wideP n 0).map bn = [] from rfl, List.nil_append] at q
    rw [q, Option.bind_some, nb_bn]
theorem back13_ok (s : Str) (n : Nat) (hn : n < 2 ^ 64) (t : List Str) (k : Nat) : ∀ (i m : Nat), i + k = 9 → k < m → f_law01_OctetBack_l13 s (n : Int) t m (i : Int) = some (.inl 9) := by
  induction k with
  | zero =>
    intro i m hi hm
    obtain ⟨m, rfl⟩ : ∃ k, m = k + 1 := ⟨m - 1, by omega⟩
    obtain rfl : i = 9 := by omega
    rw [f_law01_OctetBack_l13, if_neg (by decide)]; rfl
  | succ k ih =>
    intro i m hi hm
    obtain ⟨m, rfl⟩ : ∃ k, m = k + 1 := ⟨m - 1, by omega⟩
    rw [f_law01_OctetBack_l13, if_pos (by simp; omega), wideN_ok n i hn (by omega), Option.bind_some, w_i64 (by omega) (by omega)]
    have q := ih (i + 1) m (by omega) (by omega)
    by_cases c : i < 8 ∧ n / 2 ^ (8 * i) ≠ 0
    · rw [if_pos c, whole_ok _ (by simp), Option.bind_some, if_neg (by simp; omega)]
      exact q
    · have e : n % 2 ^ (8 * i) = n := by
        apply Nat.mod_eq_of_lt
        by_cases h : i < 8
        · have h0 : n / 2 ^ (8 * i) = 0 := Decidable.not_not.mp (fun h2 => c ⟨h, h2⟩)
          have hp : 0 < 2 ^ (8 * i) := Nat.pow_pos (by decide)
          rcases Nat.div_eq_zero_iff.mp h0 with h1 | h1
          · omega
          · exact h1
        · obtain rfl : i = 8 := by omega
          exact hn
      rw [if_neg c, whole_ok _ (by rw [wideP_len]; omega), Option.bind_some, wholeN_wide, e, wideP_len, if_neg (by simp)]
      exact q
theorem octetBack_true (s : Str) (n : Int) (l : List Str) (hn : (Lit.int .u64 n).wf = true) : f_law01_OctetBack s n l = some true := by
  have hn1 := bounds_u64 hn
  obtain ⟨N, rfl⟩ : ∃ N : Nat, n = (N : Int) := ⟨n.toNat, by omega⟩
  unfold f_law01_OctetBack
  have ht := fewL_len l
  rw [few_ok, Option.bind_some]
  generalize fewL l = t at ht
  have l3 : (s.take 300).length ≤ 300 := by rw [List.length_take]; omega
  rw [gd_t _ (cut_gdI s 300 (by decide)), show cut s 0 (if 300 < (s.length : Int) then 300 else (s.length : Int)) = s.take 300 from cut_take s 300]
  generalize s.take 300 = u at l3
  have eh : f_octet_Hex u = some (hexl u) := by unfold f_octet_Hex; rw [gd_t _ (by omega)]
  rw [eh, Option.bind_some, octBytes_ok _ (by rw [hexl_length]; omega), Option.bind_some, un_hexl]
  dsimp only
  rw [oalive_ok]
  have e1 : (u == u) = true := by simp
  simp only [e1, bne_self_eq_false, Bool.not_true, Bool.or_self, Bool.not_false, gx, if_true, Option.bind_some, Bool.false_eq_true, if_false]
  have q := back13_ok s N (by omega) t 9 0 (((9 : Int) - 0).toNat + 1) (by omega) (by omega)
  rw [show ((0 : Nat) : Int) = 0 from rfl] at q
  rw [q, Option.bind_some]
  dsimp only
  rw [bind_ok _ ht, Option.bind_some]
  by_cases h : mayP t
  · have hle := bindP_le t h.2
    have h64 := h.1
    have q2 := loose_bind t h (bindP t).length (Nat.le_refl _)
    rw [List.take_length, cutAt_all] at q2
    rw [bindR_may h]
    dsimp only
    rw [loose_ok _ (by omega), Option.bind_some, q2]
    simp [endG, same_ok t t (by omega)]
  · rw [bindR_not h, loose_ok _ (by simp), Option.bind_some, may_ok _ (by omega)]
    have : looseS [] = ([], 0) := rfl
    simp [h, this]
end Go.Proofs.YtjhgkcbhllomaaaDoor.V.M
end

section
/- The functions' proofs and the plain laws, side by side. -/
namespace Go.Proofs.YtjhgkcbhllomaaaDoor.V
set_option linter.unusedVariables false
set_option linter.unusedSimpArgs false
theorem octetBinds_true (l : List Str) (s : Str) : f_law01_OctetBinds l s = some true := M.octetBinds_true l s
theorem octetLong_true (l : List Str) (a : Int) (ha : (Lit.int .i64 a).wf = true) : f_law01_OctetLong l a = some true := M.octetLong_true l a ha
theorem octetBack_true (s : Str) (n : Int) (l : List Str) (hn : (Lit.int .u64 n).wf = true) : f_law01_OctetBack s n l = some true := M.octetBack_true s n l hn
end Go.Proofs.YtjhgkcbhllomaaaDoor.V
end

section
/- Rows: what a row lays of type handles. -/
namespace Go.Proofs.YtjhgkcbhllomaaaDoor.V
open Go Go.RowKit
set_option linter.unusedVariables false
set_option linter.unusedSimpArgs false
theorem glrep_h {w : World} {g u b o : Nat} (h : w.cell? ⟨g, 0, none⟩ = some (.iface u (.agg #[.pointer (some ⟨b, o, none⟩)]))) : RepD w (fun k => k < w.heap.size) (.ref [.ifc u true [.z (.hnd b o)]] 0) (.pointer (some ⟨g, 0, none⟩)) := by
  refine .ref _ 0 g 0 (fun _ => .iface u (.agg #[.pointer (some ⟨b, o, none⟩)])) (cell?_lt h) (fun j sc hj => ?_) (fun j sc hj => ?_)
  · match j, hj with
    | 0, hj => exact h
  · match j, hj with
    | 0, hj =>
      obtain rfl := Option.some.inj hj
      refine .ifa u _ _ rfl fun j sc hj => ?_
      match j, hj with
      | 0, hj => obtain rfl := Option.some.inj hj; exact .z (.hnd b o)
theorem handle_met {P : Program} {laid : List (String × DataW Unit)} {W : World} {v : String} {d : DataW Unit} {g u b o n : Nat} {ty : TypeId} {name : List UInt8} (h : handlesMet P laid W) (hm : (v, d) ∈ laid) (hf : d.funcsIn? = none)
    (hn : d.handleName? = some name) (hg : P.globalNamed v = some g) (hu : (P.cutTypes.find? (·.1 == "internal/reflectlite.rtype")).map (·.2) = some u) (hsz : P.types.size = n)
    (hone : ((List.range n).filter fun t => P.rowNamed t name) = [ty]) (hh : typeHandle P ty = .pointer (some ⟨b, o, none⟩)) : W.cell? ⟨g, 0, none⟩ = some (.iface u (.agg #[.pointer (some ⟨b, o, none⟩)])) := by
  have h1 := h _ hm
  simp only [hf] at h1
  obtain ⟨name', u', ty', e1, e2, e3, e4, e5⟩ := h1
  obtain rfl := Option.some.inj (hn.symm.trans e1)
  obtain rfl := Option.some.inj (hu.symm.trans e2)
  have hm : ty' ∈ (List.range n).filter fun t => P.rowNamed t name := List.mem_filter.2 ⟨List.mem_range.2 (by rw [← hsz]; exact e3), e4⟩
  rw [hone] at hm
  obtain rfl := List.mem_singleton.1 hm
  rw [hh] at e5
  simpa using World.var?_cell hg e5 0
theorem laid_split {P : Program} {laid : List (String × DataW Unit)} {W : World} (h : laidMetH P laid W) (hne : (laid.filter fun x => x.2.handleName?.isSome).isEmpty = false) : laidMet P (laid.filter fun x => x.2.handleName?.isNone) W ∧ handlesMet P (laid.filter fun x => x.2.handleName?.isSome) W := by
  unfold laidMetH at h
  generalize (laid.filter fun x => x.2.handleName?.isSome) = hs at h hne
  match hs, h, hne with
  | a :: r, h, _ => exact h
end Go.Proofs.YtjhgkcbhllomaaaDoor.V
end

section
/- The row of the law OctetBack: for every input that the row speaks of the law returns true; each argument reads behind the call as it read before. -/
namespace Go.Proofs.YtjhgkcbhllomaaaDoor.octetBack
open Go.ChangeShapes Go.WideShapes Go.ChangeAt Go.RowKit Go.Proofs.YtjhgkcbhllomaaaDoor.V Go.Proofs.YtjhgkcbhllomaaaDoorW.PrintWords
set_option linter.unusedVariables false
theorem own : ownKnob Tryd.prog.godebug = none := by kernel_rfl
theorem laidOut : laidOutB Tryd.prog = true := by kernel_rfl
theorem gn0 : Tryd.prog.globalNamed "errors.errorType" = some 1 := by kernel_rfl
theorem gt0 : (Tryd.prog.globals[1]?).map (·.type) = some 101 := by kernel_rfl
noncomputable def doorW (os : Os) : World := (let w0 := World.doorLaid Tryd.prog 400 os; { w0 with heap := w0.heap.modify 1 fun | .cells _ t fz => .cells #[.iface 114 (.agg #[.pointer (some ⟨3, 69, none⟩)])] t fz | o => o })
theorem door_met (os : Os) (args : Array Value) : laidMetH Tryd.prog Rows.octetBackRow.laid ((doorW os).forCall (fun _ _ => 0) ⟨#[], args, []⟩).memory :=
  laidMetH_of_parts3 (fuel := 8) (laidMet_nil _ _) (by kernel_rfl) (by kernel_rfl)
theorem gl_ok {W : World} (h : laidMetH Tryd.prog Rows.octetBackRow.laid W) : GlOk glP W (fun k => k < W.heap.size) := by
  obtain ⟨hdt, hh⟩ := laid_split h (by kernel_rfl)
  have r0 := glrep_h (handle_met (v := "errors.errorType") (d := Rows.laid_errors_errorType) (u := 114) (b := 3) (o := 69) (ty := 69) (n := 155) hh (show _ ∈ [("errors.errorType", Rows.laid_errors_errorType)] from .head _) rfl rfl gn0 (by kernel_rfl) (by kernel_rfl) (by kernel_rfl) (by kernel_rfl))
  intro g cs hg
  unfold glP at hg
  split at hg
  · rename_i hgi
    subst hgi
    cases hg
    first | exact r0
  · cases hg
set_option maxRecDepth 100000 in
theorem lifted (os : Os) (started : os.Started) (H : Type) (enc : TypeId × Value → H) :
    ReturnsInHanded {} Tryd.checked os 9 .any (fun w args => (Rows.octetBackSpec.pre enc Tryd.prog Tryd.f9 [] false w args ∧ laidMetH Tryd.prog Rows.octetBackRow.laid w) ∧ sizedMet enc Tryd.prog Tryd.f9 (OpenSpec.ofChange Rows.octetBackSpec) false w args) (Rows.octetBackSpec.post enc Tryd.prog Tryd.f9 false true false false) := by
  refine returnsInHanded_of_change_and (C := Tryd.checked) (X := fun w _ => laidMetH Tryd.prog Rows.octetBackRow.laid w) (fun _ _ _ hh h => h.of_heap hh) own started (by kernel_rfl) Tryd.func9
    (ChangeSpec.witness_shaped (enc := enc) (C := Tryd.checked) (os := os) (X := fun w _ => laidMetH Tryd.prog Rows.octetBackRow.laid w) false (doorW os) #[.string ByteArray.empty, .int .u64 0, .slice none 0 0] 8 rfl (World.shaped_of_RefB (by kernel_rfl) (by kernel_rfl)) (by kernel_rfl) (by kernel_rfl) (by kernel_rfl) (door_met os _)) ?_
  intro W base args ds gs before hval0 hW hcnd hsz0 hL _
  have hsz : (DataW.weightsEach Tryd.prog (Tryd.f9.params.toList ++ Rows.octetBackSpec.plain.varTypes Tryd.prog) (ds ++ gs)).all (· ≤ reachBytes) = true := hsz0
  have hval : ∀ (j : Nat) t v, Tryd.f9.params[j]? = some t → args[j]? = some v → Value.okWide Tryd.prog W .any base t v := hval0
  have hW' := hW
  obtain ⟨p, q, hA0, hV, rfl, hfz, hnd⟩ := hW
  have hA : DataW.TrodAll enc Tryd.prog W 0 (fun _ => true) true Tryd.f9.params.toList args.toList ds p := hA0
  rw [Tryd.params9] at hA hval hsz
  obtain ⟨v0, vs0, d0, ds0, p0, q0, hargs, rfl, rfl, h0, r0⟩ := trodAll_cons hA
  obtain ⟨v1, vs1, d1, ds1, p1, q1, rfl, rfl, rfl, h1, r1⟩ := trodAll_cons r0
  obtain ⟨v2, vs2, d2, ds2, p2, q2, rfl, rfl, rfl, h2, r2⟩ := trodAll_cons r1
  obtain ⟨rfl, rfl, rfl⟩ := trodAll_nil r2
  obtain rfl : args = #[v0, v1, v2] := by cases args; simp_all
  obtain ⟨rfl, rfl⟩ := trodVars_none hV
  have k0 := h0
  have lt0 : ∀ x ∈ p0, x.block < W.heap.size := by obtain ⟨m, hm⟩ := k0; exact DataW.trod_lt m _ _ _ hm
  obtain ⟨a0, e0, rfl, z0⟩ := arg_str Tryd.underlying9 (hval 0 9 v0 rfl rfl) h0
  have w0 : a0.length ≤ 140737488351232 := sized_string hsz (j := 0) (t := 9) rfl rfl
  have k1 := h1
  have lt1 : ∀ x ∈ p1, x.block < W.heap.size := by obtain ⟨m, hm⟩ := k1; exact DataW.trod_lt m _ _ _ hm
  obtain ⟨a1, e1, w1⟩ := arg_int Tryd.underlying49 (hval 1 49 v1 rfl rfl) h1
  have k2 := h2
  have lt2 : ∀ x ∈ p2, x.block < W.heap.size := by obtain ⟨m, hm⟩ := k2; exact DataW.trod_lt m _ _ _ hm
  obtain ⟨a2, e2, w2⟩ := arg_slice Tryd.underlying36 (ops_slice (e := 9) (by kernel_rfl) (by kernel_rfl) (by decide) (ops_str (by kernel_rfl))) (hval 2 36 v2 rfl rfl) h2
  refine (Fun.lawG (xs := [_, _, _]) (vs := [v0, v1, v2]) (w := W) (f_law01_OctetBack_ok a0 a1 a2 true (by first | exact octetBack_true a0 a1 a2 w0 w1 w2 | exact octetBack_true a0 a1 a2 | (apply octetBack_true <;> assumption))) (gl_ok hL) ⟨e0, e1, e2, trivial⟩).mono fun e W' ⟨he, bel⟩ => ?_
  subst he
  exact ⟨_, rfl, _, _, _, [], _, [], hW', trodAll_mk1 (shut_bool Tryd.underlying4 _), (trodAll_cons_mk (Below.trod laidOut (by kernel_rfl) (of_decide_eq_true (by kernel_rfl)) k0 bel lt0) (trodAll_cons_mk (Below.trod laidOut (by kernel_rfl) (of_decide_eq_true (by kernel_rfl)) k1 bel lt1) (trodAll_cons_mk (Below.trod laidOut (by kernel_rfl) (of_decide_eq_true (by kernel_rfl)) k2 bel lt2) trodAll_mk0))), rfl, bel.frame _, fun h => by cases h⟩
theorem over : Rows.octetBackRow.holds Tryd.pinned (OpenSpec.ofChange Rows.octetBackSpec) :=
  OpenClaim.holds_of_wide 9 Tryd.f9 rfl rfl rfl rfl rfl rfl rfl ⟨rfl, rfl, rfl, rfl, rfl⟩ rfl rfl rfl rfl rfl (by kernel_rfl) Tryd.func9 (by kernel_rfl)
    (of_decide_eq_true (by kernel_rfl)) (by unfold Func.isWrapper; first | (rw [if_pos (by decide +kernel)]; kernel_rfl) | (rw [if_neg (by decide +kernel)]; exact ⟨rfl, rfl⟩))
    (fun os started H enc _ => lifted os started H enc)
theorem proved : Rows.OctetBackSaid := over
end Go.Proofs.YtjhgkcbhllomaaaDoor.octetBack
namespace Go.Proofs.YtjhgkcbhllomaaaDoor
/-- The statement, under a short name, for the claim. -/
theorem octetBack_holds : Rows.OctetBackCardSaid :=
  Claim7.holds_tied_plain_at .later [] [.handle] true (true, "cb983233ca39e7e5f5d2dea36e9c57c2fb3ccb1295660e3fea98415589665de9") true
    octetBack.proved (fun _ h => by cases h) (by kernel_rfl) (fun _ h => by cases h) octetBack_row_tie rfl ⟨rfl, rfl⟩ (by kernel_rfl) rfl
    (fun f fn hf hfn => by
      obtain rfl : f = 9 := Option.some.inj ((show Tryd.prog.funcNamed "consignor/consignorlaw01.OctetBack" = some 9 by kernel_rfl).symm.trans hf) |>.symm
      obtain rfl : fn = Tryd.f9 := (Option.some.inj (Tryd.func9.symm.trans hfn)).symm
      exact ⟨by kernel_rfl, fun j t ht => by
        rw [Tryd.params9] at ht
        have hm : t ∈ [9, 49, 36] := by simpa using Array.mem_of_getElem? ht
        have hall : ([9, 49, 36].all fun u => !Tryd.prog.wantsStandIn u) = true := by kernel_rfl
        exact (show Tryd.prog.wantsStandIn t = false by simpa using List.all_eq_true.1 hall t hm)⟩)
    (by kernel_rfl)
#print axioms octetBack_holds
end Go.Proofs.YtjhgkcbhllomaaaDoor
end
