/- The row of the law DigestSums: for every input that the row speaks of the law returns true; each argument reads behind the call as it read before. -/
import Derived.Test.YtjhgkcbhllomaaaDoorProg
import Derived.Test.YtjhgkcbhllomaaaDoorQDigestSumsB
import Derived.Test.YtjhgkcbhllomaaaDoorQDigestSumsC
import Derived.Test.YtjhgkcbhllomaaaDoorQDigestSumsE
import Derived.KernelRfl
import Derived.Below
import Derived.OwnWalk
import Derived.Orders
import Derived.WalkKit
import Derived.Laws.Slices
import Derived.OpenShut
import Derived.FnData
import Derived.LaidMore
import Derived.MakeChecks
import Derived.Test.YtjhgkcbhllomaaaDoorRows
import Derived.Test.YtjhgkcbhllomaaaDoorTie
import Derived.Test.YtjhgkcbhllomaaaDoorCards
import Derived.ProofKit
import Derived.ShutString
import Derived.ChangeOld
import Derived.SizedLaws
import Derived.SliceStrings
import Derived.Carry
import Derived.Stop.Joined
import Derived.SevenTiedAt
import Derived.Test.YtjhgkcbhllomaaaDoorWSized
section
/- Go functions compute what Lean functions do. -/
namespace Go.Proofs.YtjhgkcbhllomaaaDoor.V
open Go Go.RowKit
set_option linter.unusedVariables false
set_option linter.unusedSimpArgs false
set_option maxHeartbeats 1000000
-- 4 consignor/consignorlaw02.DigestParses
def c4r0 : List Opn := [
  ⟨(some 4), none, .mv (.c (.s (.d (.bool false))))⟩]
def c4r1 : List Opn := [
  ⟨(some 10), none, .mv (.t 0)⟩, 
  ⟨(some 11), none, .call (.fn 10) [(.t 10)]⟩, 
  ⟨(some 12), none, .mv (.t 1)⟩, 
  ⟨(some 13), none, .call (.fn 10) [(.t 12)]⟩, 
  ⟨(some 0), none, .mv (.t 11)⟩, 
  ⟨(some 1), none, .mv (.t 13)⟩]
def c4r2 : List Opn := [
  ⟨(some 15), none, .mv (.t 0)⟩, 
  ⟨(some 16), none, .call (.fn 21) [(.t 15)]⟩, 
  ⟨(some 14), none, .mv (.t 16)⟩, 
  ⟨(some 17), none, .ext (.t 14) 0⟩, 
  ⟨(some 18), none, .ext (.t 14) 1⟩, 
  ⟨(some 5), none, .mv (.t 17)⟩, 
  ⟨(some 6), none, .mv (.t 18)⟩]
def c4r3 : List Opn := [
  ⟨(some 19), none, .mv (.t 0)⟩, 
  ⟨(some 20), none, .mv (.t 1)⟩, 
  ⟨(some 21), none, .call (.fn 22) [(.t 19), (.t 20)]⟩, 
  ⟨(some 7), none, .mv (.t 21)⟩]
def c4r4 : List Opn := [
  ⟨(some 23), none, .mv (.t 0)⟩, 
  ⟨(some 24), none, .call (.fn 23) [(.t 23)]⟩, 
  ⟨(some 22), none, .mv (.t 24)⟩, 
  ⟨(some 25), none, .ext (.t 22) 0⟩, 
  ⟨(some 26), none, .ext (.t 22) 1⟩, 
  ⟨(some 8), none, .mv (.t 25)⟩, 
  ⟨(some 9), none, .mv (.t 26)⟩]
def c4r5 : List Opn := [
  ⟨(some 27), none, .mv (.t 9)⟩, 
  ⟨(some 28), none, .un .not (.t 27)⟩]
def c4r6 : List Opn := [
  ⟨(some 29), none, .call (.fn 11) []⟩, 
  ⟨(some 30), none, .mv (.t 29)⟩, 
  ⟨(some 31), some (30, true), .mv (.t 6)⟩, 
  ⟨(some 32), some (30, true), .bin .eql (.t 31) (.c (.s (.d (.int .i64 6))))⟩, 
  ⟨(some 33), none, .pick (.t 30) (.t 32) (.c (.s (.d (.bool false))))⟩, 
  ⟨(some 34), none, .mv (.t 33)⟩, 
  ⟨(some 35), some (34, true), .mv (.t 7)⟩, 
  ⟨(some 36), some (34, true), .bin .eql (.t 35) (.c (.s (.d (.int .i64 6))))⟩, 
  ⟨(some 37), none, .pick (.t 34) (.t 36) (.c (.s (.d (.bool false))))⟩, 
  ⟨(some 38), none, .mv (.t 37)⟩, 
  ⟨(some 39), some (38, true), .mv (.t 5)⟩, 
  ⟨(some 40), some (38, true), .bin .eql (.t 39) (.c (.s (.d (.str []))))⟩, 
  ⟨(some 41), none, .pick (.t 38) (.t 40) (.c (.s (.d (.bool false))))⟩, 
  ⟨(some 4), none, .mv (.t 41)⟩]
def c4r7 : List Opn := [
  ⟨(some 42), none, .mv (.t 6)⟩, 
  ⟨(some 43), none, .bin .neq (.t 42) (.c (.s (.d (.int .i64 0))))⟩, 
  ⟨(some 44), none, .mv (.t 43)⟩, 
  ⟨(some 45), some (44, false), .mv (.t 5)⟩, 
  ⟨(some 46), some (44, false), .mv (.t 8)⟩, 
  ⟨(some 47), some (44, false), .bin .neq (.t 45) (.t 46)⟩, 
  ⟨(some 48), none, .pick (.t 44) (.c (.s (.d (.bool true)))) (.t 47)⟩, 
  ⟨(some 49), none, .mv (.t 48)⟩, 
  ⟨(some 50), some (49, false), .call (.fn 11) []⟩, 
  ⟨(some 51), some (49, false), .un .not (.t 50)⟩, 
  ⟨(some 52), none, .pick (.t 49) (.c (.s (.d (.bool true)))) (.t 51)⟩]
def c4r8 : List Opn := [
  ⟨(some 4), none, .mv (.c (.s (.d (.bool false))))⟩]
def c4r9 : List Opn := [
  ⟨(some 53), none, .mv (.t 1)⟩, 
  ⟨(some 54), none, .call (.fn 13) [(.t 53)]⟩, 
  ⟨(some 55), none, .mv (.t 8)⟩, 
  ⟨(some 56), none, .bin .neq (.t 54) (.t 55)⟩]
def c4r10 : List Opn := [
  ⟨(some 57), none, .mv (.t 7)⟩, 
  ⟨(some 58), none, .bin .eql (.t 57) (.c (.s (.d (.int .i64 10))))⟩, 
  ⟨(some 4), none, .mv (.t 58)⟩]
def c4r11 : List Opn := [
  ⟨(some 59), none, .mv (.t 7)⟩, 
  ⟨(some 60), none, .bin .eql (.t 59) (.c (.s (.d (.int .i64 0))))⟩, 
  ⟨(some 4), none, .mv (.t 60)⟩]
def c4 : C := .seq (.reg c4r0 none [0, 1]) (.seq (.reg c4r1 none [0, 1]) (.seq (.reg c4r2 none [0, 1, 5, 6]) (.seq (.reg c4r3 none [0, 1, 5, 6, 7]) (.seq (.reg c4r4 none [1, 5, 6, 7, 8, 9]) (.seq (.seq (.reg c4r5 none [1, 5, 6, 7, 8, 28]) (.cond (.t 28) (.seq (.reg c4r6 none [4]) (.ret)) (.skip))) (.seq (.seq (.reg c4r7 none [1, 7, 8, 52]) (.cond (.t 52) (.seq (.reg c4r8 none [4]) (.ret)) (.skip))) (.seq (.seq (.reg c4r9 none [7, 56]) (.cond (.t 56) (.seq (.reg c4r10 none [4]) (.ret)) (.skip))) (.seq (.reg c4r11 none [4]) (.ret)))))))))
def k4 : List (Nat × List Nat) := [(11, [4]), (10, [4]), (9, [7, 56]), (8, [4]), (7, [1, 7, 8, 52]), (6, [4]), (5, [1, 5, 6, 7, 8, 28]), (4, [1, 5, 6, 7, 8, 9]), (3, [0, 1, 5, 6, 7]), (2, [0, 1, 5, 6]), (1, [0, 1]), (0, [0, 1])]
theorem cc4 : (Tryd.f4.body).bind (cC Tryd.prog 61 k4) = some c4 := by kernel_rfl
def rv4 : List RV := [.t 4]
theorem cr4 : cRVs Tryd.prog Tryd.f4.results.toList = some rv4 := by kernel_rfl
theorem f_law02_DigestParses_ok (s : Str) (data : Str) (y_ : Bool) (h : f_law02_DigestParses s data = some y_) : Fun Tryd.prog glP 4 [.b (.s (.d (.str s))), .b (.s (.d (.str data)))] (.b (.s (.d (.bool y_)))) := by
  refine fun_walk [] Tryd.func4 Tryd.ntmps4 cc4 cr4 (by kernel_rfl) (by simp only [List.length_cons, List.length_nil]; decide) ?_
  generalize hR : Ret _ _ _ _ _ = R_
  simp only [wz, wd, ws, Nat.reduceAdd, Nat.reduceSub, Nat.reduceMul, Nat.reduceLeDiff, Nat.reduceEqDiff, Nat.reduceLT, Nat.reduceBEq, reduceIte, reduceCtorEq, Int.reduceToNat, Nat.reduceShiftRight, Nat.reduceAnd, Nat.reduceBneDiff, Nat.reduceBNe]
  unfold f_law02_DigestParses at h; unfold c4
  refine .seq ?_
  refine Rw.walk ?_
  simp only [wz, wd, ws, Nat.reduceAdd, Nat.reduceSub, Nat.reduceMul, Nat.reduceLeDiff, Nat.reduceEqDiff, Nat.reduceLT, Nat.reduceBEq, reduceIte, reduceCtorEq, Int.reduceToNat, Nat.reduceShiftRight, Nat.reduceAnd, Nat.reduceBneDiff, Nat.reduceBNe, c4r0, semI.eq_10, semI.eq_11, semI.eq_3, semI.eq_5, semI.eq_7]
  refine .seq ?_
  refine Rw.walk ?_
  simp only [wz, wd, ws, Nat.reduceAdd, Nat.reduceSub, Nat.reduceMul, Nat.reduceLeDiff, Nat.reduceEqDiff, Nat.reduceLT, Nat.reduceBEq, reduceIte, reduceCtorEq, Int.reduceToNat, Nat.reduceShiftRight, Nat.reduceAnd, Nat.reduceBneDiff, Nat.reduceBNe, c4r1, semI.eq_10, semI.eq_11, semI.eq_3, semI.eq_5, semI.eq_7]
  obtain ⟨t, e1, h⟩ := Option.bind_eq_some_iff.1 h
  refine call_fun [] false ⟨trivial, trivial, trivial⟩ rfl ?_ (f_law02_short_ok _ _ e1) (fun _ => rfl) (fun i hi => by cases hi) ?_
  · simp only [wz, wd, ws, Nat.reduceAdd, Nat.reduceSub, Nat.reduceMul, Nat.reduceLeDiff, Nat.reduceEqDiff, Nat.reduceLT, Nat.reduceBEq, reduceIte, reduceCtorEq, Int.reduceToNat, Nat.reduceShiftRight, Nat.reduceAnd, Nat.reduceBneDiff, Nat.reduceBNe]
  simp only [wz, wd, ws, Nat.reduceAdd, Nat.reduceSub, Nat.reduceMul, Nat.reduceLeDiff, Nat.reduceEqDiff, Nat.reduceLT, Nat.reduceBEq, reduceIte, reduceCtorEq, Int.reduceToNat, Nat.reduceShiftRight, Nat.reduceAnd, Nat.reduceBneDiff, Nat.reduceBNe, c4r1, semI.eq_10, semI.eq_11, semI.eq_3, semI.eq_5, semI.eq_7]
  obtain ⟨t2, e2, h⟩ := Option.bind_eq_some_iff.1 h
  refine call_fun [] false ⟨trivial, trivial, trivial⟩ rfl ?_ (f_law02_short_ok _ _ e2) (fun _ => rfl) (fun i hi => by cases hi) ?_
  · simp only [wz, wd, ws, Nat.reduceAdd, Nat.reduceSub, Nat.reduceMul, Nat.reduceLeDiff, Nat.reduceEqDiff, Nat.reduceLT, Nat.reduceBEq, reduceIte, reduceCtorEq, Int.reduceToNat, Nat.reduceShiftRight, Nat.reduceAnd, Nat.reduceBneDiff, Nat.reduceBNe]
  simp only [wz, wd, ws, Nat.reduceAdd, Nat.reduceSub, Nat.reduceMul, Nat.reduceLeDiff, Nat.reduceEqDiff, Nat.reduceLT, Nat.reduceBEq, reduceIte, reduceCtorEq, Int.reduceToNat, Nat.reduceShiftRight, Nat.reduceAnd, Nat.reduceBneDiff, Nat.reduceBNe, c4r1, semI.eq_10, semI.eq_11, semI.eq_3, semI.eq_5, semI.eq_7]
  refine .seq ?_
  refine Rw.walk ?_
  simp only [wz, wd, ws, Nat.reduceAdd, Nat.reduceSub, Nat.reduceMul, Nat.reduceLeDiff, Nat.reduceEqDiff, Nat.reduceLT, Nat.reduceBEq, reduceIte, reduceCtorEq, Int.reduceToNat, Nat.reduceShiftRight, Nat.reduceAnd, Nat.reduceBneDiff, Nat.reduceBNe, c4r2, semI.eq_10, semI.eq_11, semI.eq_3, semI.eq_5, semI.eq_7]
  obtain ⟨t3, e3, h⟩ := Option.bind_eq_some_iff.1 h
  refine call_fun [] false ⟨trivial, trivial, trivial⟩ rfl ?_ (f_digest_Parse_ok _ _ e3) (fun _ => rfl) (fun i hi => by cases hi) ?_
  · simp only [wz, wd, ws, Nat.reduceAdd, Nat.reduceSub, Nat.reduceMul, Nat.reduceLeDiff, Nat.reduceEqDiff, Nat.reduceLT, Nat.reduceBEq, reduceIte, reduceCtorEq, Int.reduceToNat, Nat.reduceShiftRight, Nat.reduceAnd, Nat.reduceBneDiff, Nat.reduceBNe]
  simp only [wz, wd, ws, Nat.reduceAdd, Nat.reduceSub, Nat.reduceMul, Nat.reduceLeDiff, Nat.reduceEqDiff, Nat.reduceLT, Nat.reduceBEq, reduceIte, reduceCtorEq, Int.reduceToNat, Nat.reduceShiftRight, Nat.reduceAnd, Nat.reduceBneDiff, Nat.reduceBNe, c4r2, semI.eq_10, semI.eq_11, semI.eq_3, semI.eq_5, semI.eq_7]
  refine .seq ?_
  refine Rw.walk ?_
  simp only [wz, wd, ws, Nat.reduceAdd, Nat.reduceSub, Nat.reduceMul, Nat.reduceLeDiff, Nat.reduceEqDiff, Nat.reduceLT, Nat.reduceBEq, reduceIte, reduceCtorEq, Int.reduceToNat, Nat.reduceShiftRight, Nat.reduceAnd, Nat.reduceBneDiff, Nat.reduceBNe, c4r3, semI.eq_10, semI.eq_11, semI.eq_3, semI.eq_5, semI.eq_7]
  obtain ⟨t4, e4, h⟩ := Option.bind_eq_some_iff.1 h
  refine call_fun [] false ⟨trivial, trivial, trivial, trivial⟩ rfl ?_ (f_digest_Fits_ok _ _ _ e4) (fun _ => rfl) (fun i hi => by cases hi) ?_
  · simp only [wz, wd, ws, Nat.reduceAdd, Nat.reduceSub, Nat.reduceMul, Nat.reduceLeDiff, Nat.reduceEqDiff, Nat.reduceLT, Nat.reduceBEq, reduceIte, reduceCtorEq, Int.reduceToNat, Nat.reduceShiftRight, Nat.reduceAnd, Nat.reduceBneDiff, Nat.reduceBNe]
  simp only [wz, wd, ws, Nat.reduceAdd, Nat.reduceSub, Nat.reduceMul, Nat.reduceLeDiff, Nat.reduceEqDiff, Nat.reduceLT, Nat.reduceBEq, reduceIte, reduceCtorEq, Int.reduceToNat, Nat.reduceShiftRight, Nat.reduceAnd, Nat.reduceBneDiff, Nat.reduceBNe, c4r3, semI.eq_10, semI.eq_11, semI.eq_3, semI.eq_5, semI.eq_7]
  refine .seq ?_
  refine Rw.walk ?_
  simp only [wz, wd, ws, Nat.reduceAdd, Nat.reduceSub, Nat.reduceMul, Nat.reduceLeDiff, Nat.reduceEqDiff, Nat.reduceLT, Nat.reduceBEq, reduceIte, reduceCtorEq, Int.reduceToNat, Nat.reduceShiftRight, Nat.reduceAnd, Nat.reduceBneDiff, Nat.reduceBNe, c4r4, semI.eq_10, semI.eq_11, semI.eq_3, semI.eq_5, semI.eq_7]
  obtain ⟨t5, e5, h⟩ := Option.bind_eq_some_iff.1 h
  refine call_fun [] false ⟨trivial, trivial, trivial⟩ rfl ?_ (f_ref02_Parse_ok _ _ e5) (fun _ => rfl) (fun i hi => by cases hi) ?_
  · simp only [wz, wd, ws, Nat.reduceAdd, Nat.reduceSub, Nat.reduceMul, Nat.reduceLeDiff, Nat.reduceEqDiff, Nat.reduceLT, Nat.reduceBEq, reduceIte, reduceCtorEq, Int.reduceToNat, Nat.reduceShiftRight, Nat.reduceAnd, Nat.reduceBneDiff, Nat.reduceBNe]
  simp only [wz, wd, ws, Nat.reduceAdd, Nat.reduceSub, Nat.reduceMul, Nat.reduceLeDiff, Nat.reduceEqDiff, Nat.reduceLT, Nat.reduceBEq, reduceIte, reduceCtorEq, Int.reduceToNat, Nat.reduceShiftRight, Nat.reduceAnd, Nat.reduceBneDiff, Nat.reduceBNe, c4r4, semI.eq_10, semI.eq_11, semI.eq_3, semI.eq_5, semI.eq_7]
  refine .seq ?_
  refine .seq ?_
  refine Rw.walk ?_
  simp only [wz, wd, ws, Nat.reduceAdd, Nat.reduceSub, Nat.reduceMul, Nat.reduceLeDiff, Nat.reduceEqDiff, Nat.reduceLT, Nat.reduceBEq, reduceIte, reduceCtorEq, Int.reduceToNat, Nat.reduceShiftRight, Nat.reduceAnd, Nat.reduceBneDiff, Nat.reduceBNe, c4r5, semI.eq_10, semI.eq_11, semI.eq_3, semI.eq_5, semI.eq_7]
  refine .cond (p := (!t5.2)) (by first | rfl | simp only [wz, wd, ws, Nat.reduceAdd, Nat.reduceSub, Nat.reduceMul, Nat.reduceLeDiff, Nat.reduceEqDiff, Nat.reduceLT, Nat.reduceBEq, reduceIte, reduceCtorEq, Int.reduceToNat, Nat.reduceShiftRight, Nat.reduceAnd, Nat.reduceBneDiff, Nat.reduceBNe]) (fun h1 => ?_) (fun h1 => ?_)
  · rw [ite_t h1] at h
    refine .seq ?_
    refine Rw.walk ?_
    simp only [wz, wd, ws, Nat.reduceAdd, Nat.reduceSub, Nat.reduceMul, Nat.reduceLeDiff, Nat.reduceEqDiff, Nat.reduceLT, Nat.reduceBEq, reduceIte, reduceCtorEq, Int.reduceToNat, Nat.reduceShiftRight, Nat.reduceAnd, Nat.reduceBneDiff, Nat.reduceBNe, c4r6, semI.eq_10, semI.eq_11, semI.eq_3, semI.eq_5, semI.eq_7]
    obtain ⟨t6, e6, h⟩ := Option.bind_eq_some_iff.1 h
    refine call_fun [] false ⟨trivial, trivial⟩ rfl ?_ (f_law02_alive_ok _ e6) (fun _ => rfl) (fun i hi => by cases hi) ?_
    · simp only [wz, wd, ws, Nat.reduceAdd, Nat.reduceSub, Nat.reduceMul, Nat.reduceLeDiff, Nat.reduceEqDiff, Nat.reduceLT, Nat.reduceBEq, reduceIte, reduceCtorEq, Int.reduceToNat, Nat.reduceShiftRight, Nat.reduceAnd, Nat.reduceBneDiff, Nat.reduceBNe]
    simp only [wz, wd, ws, Nat.reduceAdd, Nat.reduceSub, Nat.reduceMul, Nat.reduceLeDiff, Nat.reduceEqDiff, Nat.reduceLT, Nat.reduceBEq, reduceIte, reduceCtorEq, Int.reduceToNat, Nat.reduceShiftRight, Nat.reduceAnd, Nat.reduceBneDiff, Nat.reduceBNe, c4r6, semI.eq_10, semI.eq_11, semI.eq_3, semI.eq_5, semI.eq_7]
    repeat (refine And.intro ?_ ?_; · first | omega | (intro q; simp only [wz, wd, ws, Nat.reduceAdd, Nat.reduceSub, Nat.reduceMul, Nat.reduceLeDiff, Nat.reduceEqDiff, Nat.reduceLT, Nat.reduceBEq, reduceIte, reduceCtorEq, Int.reduceToNat, Nat.reduceShiftRight, Nat.reduceAnd, Nat.reduceBneDiff, Nat.reduceBNe, q]; done))
    obtain rfl := Option.some.inj h
    refine .ret ?_
    rw [← hR]
    simp only [wz, wd, ws, Nat.reduceAdd, Nat.reduceSub, Nat.reduceMul, Nat.reduceLeDiff, Nat.reduceEqDiff, Nat.reduceLT, Nat.reduceBEq, reduceIte, reduceCtorEq, Int.reduceToNat, Nat.reduceShiftRight, Nat.reduceAnd, Nat.reduceBneDiff, Nat.reduceBNe, rv4]
  · rw [ite_f h1] at h
    refine .skip ?_
    refine .seq ?_
    refine .seq ?_
    refine Rw.walk ?_
    simp only [wz, wd, ws, Nat.reduceAdd, Nat.reduceSub, Nat.reduceMul, Nat.reduceLeDiff, Nat.reduceEqDiff, Nat.reduceLT, Nat.reduceBEq, reduceIte, reduceCtorEq, Int.reduceToNat, Nat.reduceShiftRight, Nat.reduceAnd, Nat.reduceBneDiff, Nat.reduceBNe, c4r7, semI.eq_10, semI.eq_11, semI.eq_3, semI.eq_5, semI.eq_7]
    repeat (refine And.intro ?_ ?_; · first | omega | (intro q; simp only [wz, wd, ws, Nat.reduceAdd, Nat.reduceSub, Nat.reduceMul, Nat.reduceLeDiff, Nat.reduceEqDiff, Nat.reduceLT, Nat.reduceBEq, reduceIte, reduceCtorEq, Int.reduceToNat, Nat.reduceShiftRight, Nat.reduceAnd, Nat.reduceBneDiff, Nat.reduceBNe, q]; done))
    obtain ⟨t6, e7, h⟩ := Option.bind_eq_some_iff.1 h
    refine call_funG [] rfl (by simp only [wz, wd, ws, Nat.reduceAdd, Nat.reduceSub, Nat.reduceMul, Nat.reduceLeDiff, Nat.reduceEqDiff, Nat.reduceLT, Nat.reduceBEq, reduceIte, reduceCtorEq, Int.reduceToNat, Nat.reduceShiftRight, Nat.reduceAnd, Nat.reduceBneDiff, Nat.reduceBNe]) rfl ?_ (fun q => (f_law02_alive_ok _ (gx_iff e7 (by simpa using q)))) rfl (fun i hi => by cases hi) ?_
    · simp only [wz, wd, ws, Nat.reduceAdd, Nat.reduceSub, Nat.reduceMul, Nat.reduceLeDiff, Nat.reduceEqDiff, Nat.reduceLT, Nat.reduceBEq, reduceIte, reduceCtorEq, Int.reduceToNat, Nat.reduceShiftRight, Nat.reduceAnd, Nat.reduceBneDiff, Nat.reduceBNe]
    simp only [wz, wd, ws, Nat.reduceAdd, Nat.reduceSub, Nat.reduceMul, Nat.reduceLeDiff, Nat.reduceEqDiff, Nat.reduceLT, Nat.reduceBEq, reduceIte, reduceCtorEq, Int.reduceToNat, Nat.reduceShiftRight, Nat.reduceAnd, Nat.reduceBneDiff, Nat.reduceBNe, c4r7, semI.eq_10, semI.eq_11, semI.eq_3, semI.eq_5, semI.eq_7]
    repeat (refine And.intro ?_ ?_; · first | omega | (intro q; simp only [wz, wd, ws, Nat.reduceAdd, Nat.reduceSub, Nat.reduceMul, Nat.reduceLeDiff, Nat.reduceEqDiff, Nat.reduceLT, Nat.reduceBEq, reduceIte, reduceCtorEq, Int.reduceToNat, Nat.reduceShiftRight, Nat.reduceAnd, Nat.reduceBneDiff, Nat.reduceBNe, q]; done))
    refine .cond (p := (((t3.2 != 0) || (!(t3.1 == t5.1))) || (!t6))) (by first | rfl | simp only [wz, wd, ws, Nat.reduceAdd, Nat.reduceSub, Nat.reduceMul, Nat.reduceLeDiff, Nat.reduceEqDiff, Nat.reduceLT, Nat.reduceBEq, reduceIte, reduceCtorEq, Int.reduceToNat, Nat.reduceShiftRight, Nat.reduceAnd, Nat.reduceBneDiff, Nat.reduceBNe]) (fun h1 => ?_) (fun h1 => ?_)
    · rw [ite_t h1] at h
      refine .seq ?_
      refine Rw.walk ?_
      simp only [wz, wd, ws, Nat.reduceAdd, Nat.reduceSub, Nat.reduceMul, Nat.reduceLeDiff, Nat.reduceEqDiff, Nat.reduceLT, Nat.reduceBEq, reduceIte, reduceCtorEq, Int.reduceToNat, Nat.reduceShiftRight, Nat.reduceAnd, Nat.reduceBneDiff, Nat.reduceBNe, c4r8, semI.eq_10, semI.eq_11, semI.eq_3, semI.eq_5, semI.eq_7]
      obtain rfl := Option.some.inj h
      refine .ret ?_
      rw [← hR]
      simp only [wz, wd, ws, Nat.reduceAdd, Nat.reduceSub, Nat.reduceMul, Nat.reduceLeDiff, Nat.reduceEqDiff, Nat.reduceLT, Nat.reduceBEq, reduceIte, reduceCtorEq, Int.reduceToNat, Nat.reduceShiftRight, Nat.reduceAnd, Nat.reduceBneDiff, Nat.reduceBNe, rv4]
    · rw [ite_f h1] at h
      refine .skip ?_
      refine .seq ?_
      refine .seq ?_
      refine Rw.walk ?_
      simp only [wz, wd, ws, Nat.reduceAdd, Nat.reduceSub, Nat.reduceMul, Nat.reduceLeDiff, Nat.reduceEqDiff, Nat.reduceLT, Nat.reduceBEq, reduceIte, reduceCtorEq, Int.reduceToNat, Nat.reduceShiftRight, Nat.reduceAnd, Nat.reduceBneDiff, Nat.reduceBNe, c4r9, semI.eq_10, semI.eq_11, semI.eq_3, semI.eq_5, semI.eq_7]
      obtain ⟨t7, e8, h⟩ := Option.bind_eq_some_iff.1 h
      refine call_fun [] false ⟨trivial, trivial, trivial⟩ rfl ?_ (f_ref02_Sum_ok _ _ e8) (fun _ => rfl) (fun i hi => by cases hi) ?_
      · simp only [wz, wd, ws, Nat.reduceAdd, Nat.reduceSub, Nat.reduceMul, Nat.reduceLeDiff, Nat.reduceEqDiff, Nat.reduceLT, Nat.reduceBEq, reduceIte, reduceCtorEq, Int.reduceToNat, Nat.reduceShiftRight, Nat.reduceAnd, Nat.reduceBneDiff, Nat.reduceBNe]
      simp only [wz, wd, ws, Nat.reduceAdd, Nat.reduceSub, Nat.reduceMul, Nat.reduceLeDiff, Nat.reduceEqDiff, Nat.reduceLT, Nat.reduceBEq, reduceIte, reduceCtorEq, Int.reduceToNat, Nat.reduceShiftRight, Nat.reduceAnd, Nat.reduceBneDiff, Nat.reduceBNe, c4r9, semI.eq_10, semI.eq_11, semI.eq_3, semI.eq_5, semI.eq_7]
      refine .cond (p := (!(t7 == t5.1))) (by first | rfl | simp only [wz, wd, ws, Nat.reduceAdd, Nat.reduceSub, Nat.reduceMul, Nat.reduceLeDiff, Nat.reduceEqDiff, Nat.reduceLT, Nat.reduceBEq, reduceIte, reduceCtorEq, Int.reduceToNat, Nat.reduceShiftRight, Nat.reduceAnd, Nat.reduceBneDiff, Nat.reduceBNe]) (fun h1 => ?_) (fun h1 => ?_)
      · rw [ite_t h1] at h
        refine .seq ?_
        refine Rw.walk ?_
        simp only [wz, wd, ws, Nat.reduceAdd, Nat.reduceSub, Nat.reduceMul, Nat.reduceLeDiff, Nat.reduceEqDiff, Nat.reduceLT, Nat.reduceBEq, reduceIte, reduceCtorEq, Int.reduceToNat, Nat.reduceShiftRight, Nat.reduceAnd, Nat.reduceBneDiff, Nat.reduceBNe, c4r10, semI.eq_10, semI.eq_11, semI.eq_3, semI.eq_5, semI.eq_7]
        obtain rfl := Option.some.inj h
        refine .ret ?_
        rw [← hR]
        simp only [wz, wd, ws, Nat.reduceAdd, Nat.reduceSub, Nat.reduceMul, Nat.reduceLeDiff, Nat.reduceEqDiff, Nat.reduceLT, Nat.reduceBEq, reduceIte, reduceCtorEq, Int.reduceToNat, Nat.reduceShiftRight, Nat.reduceAnd, Nat.reduceBneDiff, Nat.reduceBNe, rv4]
      · rw [ite_f h1] at h
        refine .skip ?_
        refine .seq ?_
        refine Rw.walk ?_
        simp only [wz, wd, ws, Nat.reduceAdd, Nat.reduceSub, Nat.reduceMul, Nat.reduceLeDiff, Nat.reduceEqDiff, Nat.reduceLT, Nat.reduceBEq, reduceIte, reduceCtorEq, Int.reduceToNat, Nat.reduceShiftRight, Nat.reduceAnd, Nat.reduceBneDiff, Nat.reduceBNe, c4r11, semI.eq_10, semI.eq_11, semI.eq_3, semI.eq_5, semI.eq_7]
        obtain rfl := Option.some.inj h
        refine .ret ?_
        rw [← hR]
        simp only [wz, wd, ws, Nat.reduceAdd, Nat.reduceSub, Nat.reduceMul, Nat.reduceLeDiff, Nat.reduceEqDiff, Nat.reduceLT, Nat.reduceBEq, reduceIte, reduceCtorEq, Int.reduceToNat, Nat.reduceShiftRight, Nat.reduceAnd, Nat.reduceBneDiff, Nat.reduceBNe, rv4]
-- 5 consignor/consignorlaw02.DigestBack
def c5r0 : List Opn := [
  ⟨(some 4), none, .mv (.c (.s (.d (.bool false))))⟩]
def c5r1 : List Opn := [
  ⟨(some 12), none, .bsl 1 []⟩, 
  ⟨(some 13), none, .mv (.t 0)⟩, 
  ⟨(some 14), none, .mv (.t 0)⟩, 
  ⟨(some 15), none, .len (.sl 0) (.t 14)⟩, 
  ⟨(some 16), none, .mm false (.t 15) (.c (.s (.d (.int .i64 6))))⟩, 
  ⟨(some 17), none, .slc (.sl 1) (.t 13) none (some (.t 16)) none⟩, 
  ⟨(some 18), none, .app 1 16 false (.t 12) (.t 17)⟩, 
  ⟨(some 0), none, .mv (.t 18)⟩]
def c5r2 : List Opn := [
  ⟨(some 19), none, .mv (.t 0)⟩, 
  ⟨(some 20), none, .len (.sl 0) (.t 19)⟩, 
  ⟨(some 21), none, .mv (.c (.s (.d (.int .i64 0))))⟩]
def c5r3 : List Opn := [
  ⟨(some 22), none, .bin .lss (.t 21) (.t 20)⟩]
def c5r4 : List Opn := [
  ⟨(some 23), none, .mv (.t 21)⟩, 
  ⟨(some 24), none, .iadr (.sl 1) (.t 19) (.t 21)⟩, 
  ⟨(some 25), none, .load false 1 (.t 24)⟩, 
  ⟨(some 5), none, .mv (.t 23)⟩, 
  ⟨(some 6), none, .mv (.t 25)⟩]
def c5r5 : List Opn := [
  ⟨(some 26), none, .mv (.t 0)⟩, 
  ⟨(some 27), none, .mv (.t 5)⟩, 
  ⟨(some 28), none, .mv (.t 6)⟩, 
  ⟨(some 29), none, .mv (.t 6)⟩, 
  ⟨(some 30), none, .len .str (.t 29)⟩, 
  ⟨(some 31), none, .mm false (.t 30) (.c (.s (.d (.int .i64 100))))⟩, 
  ⟨(some 32), none, .slc .str (.t 28) none (some (.t 31)) none⟩, 
  ⟨(some 33), none, .iadr (.sl 1) (.t 26) (.t 27)⟩, 
  ⟨none, none, .store 1 (.t 33) (.t 32)⟩]
def c5r6 : List Opn := [
  ⟨(some 34), none, .bin .add (.t 21) (.c (.s (.d (.int .i64 1))))⟩, 
  ⟨(some 21), none, .mv (.t 34)⟩]
def c5l7 : C := .seq (.reg c5r3 none [0, 1, 19, 20, 21, 22]) (.seq (.cond (.t 22) (.skip) (.exit 0)) (.seq (.blk 1 (.seq (.reg c5r4 none [0, 1, 5, 6, 19, 20, 21]) (.reg c5r5 none [0, 1, 19, 20, 21]))) (.reg c5r6 none [0, 1, 19, 20, 21])))
def c5r7 : List Opn := [
  ⟨(some 35), none, .mv (.t 0)⟩, 
  ⟨(some 36), none, .call (.fn 24) [(.t 35), (.c (.s (.d (.str []))))]⟩, 
  ⟨(some 7), none, .mv (.t 36)⟩]
def c5r8 : List Opn := [
  ⟨(some 37), none, .mv (.t 0)⟩, 
  ⟨(some 38), none, .call (.fn 12) [(.t 37)]⟩, 
  ⟨(some 39), none, .mv (.t 7)⟩, 
  ⟨(some 40), none, .bsl 1 [(.t 39)]⟩, 
  ⟨(some 41), none, .call (.fn 12) [(.t 40)]⟩, 
  ⟨(some 42), none, .bin .neq (.t 38) (.t 41)⟩, 
  ⟨(some 43), none, .mv (.t 42)⟩, 
  ⟨(some 44), some (43, false), .mv (.t 7)⟩, 
  ⟨(some 45), some (43, false), .bsl 1 [(.t 44)]⟩, 
  ⟨(some 46), some (43, false), .call (.fn 12) [(.t 45)]⟩, 
  ⟨(some 47), some (43, false), .len .str (.t 46)⟩, 
  ⟨(some 48), some (43, false), .bin .neq (.t 47) (.c (.s (.d (.int .i64 32))))⟩, 
  ⟨(some 49), none, .pick (.t 43) (.c (.s (.d (.bool true)))) (.t 48)⟩, 
  ⟨(some 50), none, .mv (.t 49)⟩, 
  ⟨(some 51), some (50, false), .mv (.t 7)⟩, 
  ⟨(some 52), some (50, false), .call (.fn 14) [(.t 51)]⟩, 
  ⟨(some 53), some (50, false), .mv (.t 7)⟩, 
  ⟨(some 54), some (50, false), .call (.fn 22) [(.t 52), (.t 53)]⟩, 
  ⟨(some 55), some (50, false), .bin .neq (.t 54) (.c (.s (.d (.int .i64 0))))⟩, 
  ⟨(some 56), none, .pick (.t 50) (.c (.s (.d (.bool true)))) (.t 55)⟩, 
  ⟨(some 57), none, .mv (.t 56)⟩, 
  ⟨(some 58), some (57, false), .call (.fn 11) []⟩, 
  ⟨(some 59), some (57, false), .un .not (.t 58)⟩, 
  ⟨(some 60), none, .pick (.t 57) (.c (.s (.d (.bool true)))) (.t 59)⟩]
def c5r9 : List Opn := [
  ⟨(some 4), none, .mv (.c (.s (.d (.bool false))))⟩]
def c5r10 : List Opn := [
  ⟨(some 62), none, .mv (.t 7)⟩, 
  ⟨(some 63), none, .call (.fn 14) [(.t 62)]⟩, 
  ⟨(some 64), none, .call (.fn 21) [(.t 63)]⟩, 
  ⟨(some 61), none, .mv (.t 64)⟩, 
  ⟨(some 65), none, .ext (.t 61) 0⟩, 
  ⟨(some 66), none, .ext (.t 61) 1⟩, 
  ⟨(some 8), none, .mv (.t 65)⟩, 
  ⟨(some 9), none, .mv (.t 66)⟩]
def c5r11 : List Opn := [
  ⟨(some 68), none, .mv (.t 1)⟩, 
  ⟨(some 69), none, .call (.fn 10) [(.t 68)]⟩, 
  ⟨(some 70), none, .call (.fn 21) [(.t 69)]⟩, 
  ⟨(some 67), none, .mv (.t 70)⟩, 
  ⟨(some 71), none, .ext (.t 67) 0⟩, 
  ⟨(some 72), none, .ext (.t 67) 1⟩, 
  ⟨(some 10), none, .mv (.t 71)⟩, 
  ⟨(some 11), none, .mv (.t 72)⟩]
def c5r12 : List Opn := [
  ⟨(some 73), none, .mv (.t 9)⟩, 
  ⟨(some 74), none, .bin .eql (.t 73) (.c (.s (.d (.int .i64 0))))⟩, 
  ⟨(some 75), none, .mv (.t 74)⟩, 
  ⟨(some 76), some (75, true), .mv (.t 8)⟩, 
  ⟨(some 77), some (75, true), .mv (.t 7)⟩, 
  ⟨(some 78), some (75, true), .bsl 1 [(.t 77)]⟩, 
  ⟨(some 79), some (75, true), .call (.fn 12) [(.t 78)]⟩, 
  ⟨(some 80), some (75, true), .bin .eql (.t 76) (.t 79)⟩, 
  ⟨(some 81), none, .pick (.t 75) (.t 80) (.c (.s (.d (.bool false))))⟩, 
  ⟨(some 82), none, .mv (.t 81)⟩, 
  ⟨(some 83), some (82, true), .mv (.t 11)⟩, 
  ⟨(some 84), some (82, true), .bin .eql (.t 83) (.c (.s (.d (.int .i64 0))))⟩, 
  ⟨(some 85), some (82, true), .mv (.t 84)⟩, 
  ⟨(some 86), some (85, false), .mv (.t 11)⟩, 
  ⟨(some 87), some (85, false), .bin .eql (.t 86) (.c (.s (.d (.int .i64 6))))⟩, 
  ⟨(some 88), some (82, true), .pick (.t 85) (.c (.s (.d (.bool true)))) (.t 87)⟩, 
  ⟨(some 89), none, .pick (.t 82) (.t 88) (.c (.s (.d (.bool false))))⟩, 
  ⟨(some 4), none, .mv (.t 89)⟩]
def c5 : C := .seq (.reg c5r0 none [0, 1]) (.seq (.reg c5r1 none [0, 1]) (.seq (.seq (.reg c5r2 none [0, 1, 19, 20, 21]) (.blk 0 (.loop c5l7))) (.seq (.reg c5r7 none [0, 1, 7]) (.seq (.seq (.reg c5r8 none [1, 7, 60]) (.cond (.t 60) (.seq (.reg c5r9 none [4]) (.ret)) (.skip))) (.seq (.reg c5r10 none [1, 7, 8, 9]) (.seq (.reg c5r11 none [7, 8, 9, 11]) (.seq (.reg c5r12 none [4]) (.ret))))))))
def k5 : List (Nat × List Nat) := [(12, [4]), (11, [7, 8, 9, 11]), (10, [1, 7, 8, 9]), (9, [4]), (8, [1, 7, 60]), (7, [0, 1, 7]), (6, [0, 1, 19, 20, 21]), (5, [0, 1, 19, 20, 21]), (4, [0, 1, 5, 6, 19, 20, 21]), (3, [0, 1, 19, 20, 21, 22]), (2, [0, 1, 19, 20, 21]), (1, [0, 1]), (0, [0, 1])]
theorem cc5 : (Tryd.f5.body).bind (cC Tryd.prog 90 k5) = some c5 := by kernel_rfl
def rv5 : List RV := [.t 4]
theorem cr5 : cRVs Tryd.prog Tryd.f5.results.toList = some rv5 := by kernel_rfl
theorem f_law02_DigestBack_l7_ok (l : (List Str)) (s : Str) (y_ : Bool) (R_ : St → Prop) (hR : (Ret Tryd.prog glP [] rv5 (.b (.s (.d (.bool y_))))) = R_) : ∀ (m_ : Nat) (v21 : Int) (l2 : (List Str)) (res_ : Int × (List Str)) (h : f_law02_DigestBack_l7 l s m_ v21 l2 = some res_) (k_ : List It) (hx : ∀ s_ : Int × (List Str), res_ = s_ → W Tryd.prog glP 90 k_ ⟨lkT [(0, .b (.s (.own 12 s_.2.length))), (1, .b (.s (.d (.str s)))), (19, .b (.s (.own 12 s_.2.length))), (20, .b (.s (.d (.int .i64 ((([] : List Str) ++ (cut l 0 (if 6 < (l.length : Int) then 6 else (l.length : Int)))).length : Int))))), (21, .b (.s (.d (.int .i64 s_.1))))], lkG [(12, ⟨1, er eS s_.2, false⟩)]⟩ R_), W Tryd.prog glP 90 (.c c5l7 :: .lp c5l7 :: .blk 0 :: k_) ⟨lkT [(0, .b (.s (.own 12 l2.length))), (1, .b (.s (.d (.str s)))), (19, .b (.s (.own 12 l2.length))), (20, .b (.s (.d (.int .i64 ((([] : List Str) ++ (cut l 0 (if 6 < (l.length : Int) then 6 else (l.length : Int)))).length : Int))))), (21, .b (.s (.d (.int .i64 v21))))], lkG [(12, ⟨1, er eS l2, false⟩)]⟩ R_ := by
  intro m_; induction m_ with
  | zero => intro v21 l2 res_ h; rw [f_law02_DigestBack_l7.eq_1] at h; cases h
  | succ m_ ih =>
    intro v21 l2 res_ h k_ hx; rw [f_law02_DigestBack_l7.eq_2] at h; refine W.cdef c5l7.eq_1 ?_
    refine .seq ?_
    refine Rw.walk ?_
    simp only [wz, wd, ws, Nat.reduceAdd, Nat.reduceSub, Nat.reduceMul, Nat.reduceLeDiff, Nat.reduceEqDiff, Nat.reduceLT, Nat.reduceBEq, reduceIte, reduceCtorEq, Int.reduceToNat, Nat.reduceShiftRight, Nat.reduceAnd, Nat.reduceBneDiff, Nat.reduceBNe, c5r3, semI.eq_10, semI.eq_11, semI.eq_3, semI.eq_5, semI.eq_7]
    refine .seq ?_
    refine .cond (p := (decide (v21 < ((([] : List Str) ++ (cut l 0 (if 6 < (l.length : Int) then 6 else (l.length : Int)))).length : Int)))) (by first | rfl | simp only [wz, wd, ws, Nat.reduceAdd, Nat.reduceSub, Nat.reduceMul, Nat.reduceLeDiff, Nat.reduceEqDiff, Nat.reduceLT, Nat.reduceBEq, reduceIte, reduceCtorEq, Int.reduceToNat, Nat.reduceShiftRight, Nat.reduceAnd, Nat.reduceBneDiff, Nat.reduceBNe]) (fun h1 => ?_) (fun h1 => ?_)
    · rw [ite_t h1] at h
      refine .skip ?_
      refine .seq ?_
      refine .blk ?_
      refine .seq ?_
      refine Rw.walk ?_
      simp only [wz, wd, ws, Nat.reduceAdd, Nat.reduceSub, Nat.reduceMul, Nat.reduceLeDiff, Nat.reduceEqDiff, Nat.reduceLT, Nat.reduceBEq, reduceIte, reduceCtorEq, Int.reduceToNat, Nat.reduceShiftRight, Nat.reduceAnd, Nat.reduceBneDiff, Nat.reduceBNe, c5r4, semI.eq_10, semI.eq_11, semI.eq_3, semI.eq_5, semI.eq_7]
      obtain ⟨x, e3, h⟩ := Option.bind_eq_some_iff.1 h
      refine Go1.of (sem_iadrO (l := l2) e3 (by rfl) (by rfl) (by rfl)) ?_
      simp only [wz, wd, ws, Nat.reduceAdd, Nat.reduceSub, Nat.reduceMul, Nat.reduceLeDiff, Nat.reduceEqDiff, Nat.reduceLT, Nat.reduceBEq, reduceIte, reduceCtorEq, Int.reduceToNat, Nat.reduceShiftRight, Nat.reduceAnd, Nat.reduceBneDiff, Nat.reduceBNe, c5r4, semI.eq_10, semI.eq_11, semI.eq_3, semI.eq_5, semI.eq_7, er_get e3]
      refine Rw.walk ?_
      obtain ⟨g4, h⟩ := gd_iff.1 h
      simp only [wz, wd, ws, Nat.reduceAdd, Nat.reduceSub, Nat.reduceMul, Nat.reduceLeDiff, Nat.reduceEqDiff, Nat.reduceLT, Nat.reduceBEq, reduceIte, reduceCtorEq, Int.reduceToNat, Nat.reduceShiftRight, Nat.reduceAnd, Nat.reduceBneDiff, Nat.reduceBNe, c5r5, semI.eq_3, semI.eq_5, semI.eq_7, er_get e3]
      repeat (refine And.intro ?_ ?_; · first | omega | (intro q; simp only [wz, wd, ws, Nat.reduceAdd, Nat.reduceSub, Nat.reduceMul, Nat.reduceLeDiff, Nat.reduceEqDiff, Nat.reduceLT, Nat.reduceBEq, reduceIte, reduceCtorEq, Int.reduceToNat, Nat.reduceShiftRight, Nat.reduceAnd, Nat.reduceBneDiff, Nat.reduceBNe, q]; done))
      obtain ⟨x2, e5, h⟩ := Option.bind_eq_some_iff.1 h
      refine Go1.of (sem_iadrO (l := l2) e5 (by rfl) (by rfl) (by rfl)) ?_
      simp only [wz, wd, ws, Nat.reduceAdd, Nat.reduceSub, Nat.reduceMul, Nat.reduceLeDiff, Nat.reduceEqDiff, Nat.reduceLT, Nat.reduceBEq, reduceIte, reduceCtorEq, Int.reduceToNat, Nat.reduceShiftRight, Nat.reduceAnd, Nat.reduceBneDiff, Nat.reduceBNe, c5r5, semI.eq_3, semI.eq_5, semI.eq_7, er_get e3, er_get e5]
      refine Go1.of (sem_store (enc := eS) (l := l2) (a := x2) (a' := (cut x 0 (if 100 < (x.length : Int) then 100 else (x.length : Int)))) (v := .b (.s (.d (.str (cut x 0 (if 100 < (x.length : Int) then 100 else (x.length : Int))))))) (by rfl) (by rfl) (er_get e5) (by rfl) (by trivial) (by rfl) (Nat.le_of_ble_eq_true (by rfl)) (by rfl)) ?_
      simp only [wz, wd, ws, Nat.reduceAdd, Nat.reduceSub, Nat.reduceMul, Nat.reduceLeDiff, Nat.reduceEqDiff, Nat.reduceLT, Nat.reduceBEq, reduceIte, reduceCtorEq, Int.reduceToNat, Nat.reduceShiftRight, Nat.reduceAnd, Nat.reduceBneDiff, Nat.reduceBNe, c5r5, semI.eq_3, semI.eq_5, semI.eq_7, er_get e3, er_get e5]
      refine .eblk ?_
      refine Rw.walk ?_
      simp only [wz, wd, ws, Nat.reduceAdd, Nat.reduceSub, Nat.reduceMul, Nat.reduceLeDiff, Nat.reduceEqDiff, Nat.reduceLT, Nat.reduceBEq, reduceIte, reduceCtorEq, Int.reduceToNat, Nat.reduceShiftRight, Nat.reduceAnd, Nat.reduceBneDiff, Nat.reduceBNe, c5r6, semI.eq_10, semI.eq_11, semI.eq_3, semI.eq_5, semI.eq_7, er_get e3, er_get e5]
      refine .lp ?_
      refine .weak (Imp.co [] _ _ ?_ ?_ ?_ ?_ ?_) (ih (IntKind.i64.wrap (v21 + 1)) (l2.set v21.toNat (cut x 0 (if 100 < (x.length : Int) then 100 else (x.length : Int)))) _ h k_ hx) <;> simp only [wz, wd, ws, Nat.reduceAdd, Nat.reduceSub, Nat.reduceMul, Nat.reduceLeDiff, Nat.reduceEqDiff, Nat.reduceLT, Nat.reduceBEq, reduceIte, reduceCtorEq, Int.reduceToNat, Nat.reduceShiftRight, Nat.reduceAnd, Nat.reduceBneDiff, Nat.reduceBNe, wi, er_nil]
    · rw [ite_f h1] at h
      refine .exit rfl ?_
      obtain rfl := Option.some.inj h
      refine .weak (Imp.co [] _ _ ?_ ?_ ?_ ?_ ?_) (hx _ rfl) <;> simp only [wz, wd, ws, Nat.reduceAdd, Nat.reduceSub, Nat.reduceMul, Nat.reduceLeDiff, Nat.reduceEqDiff, Nat.reduceLT, Nat.reduceBEq, reduceIte, reduceCtorEq, Int.reduceToNat, Nat.reduceShiftRight, Nat.reduceAnd, Nat.reduceBneDiff, Nat.reduceBNe, wi, er_nil]
theorem f_law02_DigestBack_ok (l : (List Str)) (s : Str) (y_ : Bool) (h : f_law02_DigestBack l s = some y_) : Fun Tryd.prog glP 5 [.b (.s (.d (.sl (l.map eS)))), .b (.s (.d (.str s)))] (.b (.s (.d (.bool y_)))) := by
  refine fun_walk [] Tryd.func5 Tryd.ntmps5 cc5 cr5 (by kernel_rfl) (by simp only [List.length_cons, List.length_nil]; decide) ?_
  generalize hR : Ret _ _ _ _ _ = R_
  simp only [wz, wd, ws, Nat.reduceAdd, Nat.reduceSub, Nat.reduceMul, Nat.reduceLeDiff, Nat.reduceEqDiff, Nat.reduceLT, Nat.reduceBEq, reduceIte, reduceCtorEq, Int.reduceToNat, Nat.reduceShiftRight, Nat.reduceAnd, Nat.reduceBneDiff, Nat.reduceBNe]
  unfold f_law02_DigestBack at h; unfold c5
  refine .seq ?_
  refine Rw.walk ?_
  simp only [wz, wd, ws, Nat.reduceAdd, Nat.reduceSub, Nat.reduceMul, Nat.reduceLeDiff, Nat.reduceEqDiff, Nat.reduceLT, Nat.reduceBEq, reduceIte, reduceCtorEq, Int.reduceToNat, Nat.reduceShiftRight, Nat.reduceAnd, Nat.reduceBneDiff, Nat.reduceBNe, c5r0, semI.eq_10, semI.eq_11, semI.eq_3, semI.eq_5, semI.eq_7]
  refine .seq ?_
  refine Rw.walk ?_
  simp only [wz, wd, ws, Nat.reduceAdd, Nat.reduceSub, Nat.reduceMul, Nat.reduceLeDiff, Nat.reduceEqDiff, Nat.reduceLT, Nat.reduceBEq, reduceIte, reduceCtorEq, Int.reduceToNat, Nat.reduceShiftRight, Nat.reduceAnd, Nat.reduceBneDiff, Nat.reduceBNe, c5r1, semI.eq_10, semI.eq_11, semI.eq_3, semI.eq_5, semI.eq_7]
  refine Go1.of (sem_bsl (enc := eS) (m := ([] : List Str)) eS_len (by rfl) (by rfl) (by rfl) trivial) ?_
  simp only [wz, wd, ws, Nat.reduceAdd, Nat.reduceSub, Nat.reduceMul, Nat.reduceLeDiff, Nat.reduceEqDiff, Nat.reduceLT, Nat.reduceBEq, reduceIte, reduceCtorEq, Int.reduceToNat, Nat.reduceShiftRight, Nat.reduceAnd, Nat.reduceBneDiff, Nat.reduceBNe, c5r1, semI.eq_10, semI.eq_11, semI.eq_3, semI.eq_5, semI.eq_7]
  obtain ⟨g1, h⟩ := gd_iff.1 h
  repeat (refine And.intro ?_ ?_; · first | omega | (intro q; simp only [wz, wd, ws, Nat.reduceAdd, Nat.reduceSub, Nat.reduceMul, Nat.reduceLeDiff, Nat.reduceEqDiff, Nat.reduceLT, Nat.reduceBEq, reduceIte, reduceCtorEq, Int.reduceToNat, Nat.reduceShiftRight, Nat.reduceAnd, Nat.reduceBneDiff, Nat.reduceBNe, q]; done))
  refine Go1.of (sem_slc (p := 0) (q := (if 6 < (l.length : Int) then 6 else (l.length : Int))) eS_len (by rfl) (by rfl) (by rfl)) ?_
  simp only [wz, wd, ws, Nat.reduceAdd, Nat.reduceSub, Nat.reduceMul, Nat.reduceLeDiff, Nat.reduceEqDiff, Nat.reduceLT, Nat.reduceBEq, reduceIte, reduceCtorEq, Int.reduceToNat, Nat.reduceShiftRight, Nat.reduceAnd, Nat.reduceBneDiff, Nat.reduceBNe, c5r1, semI.eq_10, semI.eq_11, semI.eq_3, semI.eq_5, semI.eq_7]
  repeat (refine And.intro ?_ ?_; · first | omega | (intro q; simp only [wz, wd, ws, Nat.reduceAdd, Nat.reduceSub, Nat.reduceMul, Nat.reduceLeDiff, Nat.reduceEqDiff, Nat.reduceLT, Nat.reduceBEq, reduceIte, reduceCtorEq, Int.reduceToNat, Nat.reduceShiftRight, Nat.reduceAnd, Nat.reduceBneDiff, Nat.reduceBNe, q]; done))
  obtain ⟨g2, h⟩ := gd_iff.1 h
  refine Go1.of (sem_app (enc := eS) (l := ([] : List Str)) (m := (cut l 0 (if 6 < (l.length : Int) then 6 else (l.length : Int)))) eS_len (by rfl) (by rfl) ((by rfl))) ?_
  simp only [wz, wd, ws, Nat.reduceAdd, Nat.reduceSub, Nat.reduceMul, Nat.reduceLeDiff, Nat.reduceEqDiff, Nat.reduceLT, Nat.reduceBEq, reduceIte, reduceCtorEq, Int.reduceToNat, Nat.reduceShiftRight, Nat.reduceAnd, Nat.reduceBneDiff, Nat.reduceBNe, c5r1, semI.eq_10, semI.eq_11, semI.eq_3, semI.eq_5, semI.eq_7]
  repeat (refine And.intro ?_ ?_; · first | omega | (intro q; simp only [wz, wd, ws, Nat.reduceAdd, Nat.reduceSub, Nat.reduceMul, Nat.reduceLeDiff, Nat.reduceEqDiff, Nat.reduceLT, Nat.reduceBEq, reduceIte, reduceCtorEq, Int.reduceToNat, Nat.reduceShiftRight, Nat.reduceAnd, Nat.reduceBneDiff, Nat.reduceBNe, q]; done))
  refine .seq ?_
  refine .seq ?_
  refine Rw.walk ?_
  simp only [wz, wd, ws, Nat.reduceAdd, Nat.reduceSub, Nat.reduceMul, Nat.reduceLeDiff, Nat.reduceEqDiff, Nat.reduceLT, Nat.reduceBEq, reduceIte, reduceCtorEq, Int.reduceToNat, Nat.reduceShiftRight, Nat.reduceAnd, Nat.reduceBneDiff, Nat.reduceBNe, c5r2, semI.eq_10, semI.eq_11, semI.eq_3, semI.eq_5, semI.eq_7]
  refine .blk ?_
  obtain ⟨s2, hf, h⟩ := Option.bind_eq_some_iff.1 h
  refine .loop (.weak (Imp.co [] _ _ ?c1 ?c2 ?c3 ?c4 ?c5) (f_law02_DigestBack_l7_ok l s _ _ hR _ _ _ _ hf _ ?_))
  case c1 | c2 | c3 | c4 | c5 => simp only [wz, wd, ws, Nat.reduceAdd, Nat.reduceSub, Nat.reduceMul, Nat.reduceLeDiff, Nat.reduceEqDiff, Nat.reduceLT, Nat.reduceBEq, reduceIte, reduceCtorEq, Int.reduceToNat, Nat.reduceShiftRight, Nat.reduceAnd, Nat.reduceBneDiff, Nat.reduceBNe, wi, er_nil]
  · intro s2_ hs; subst hs
    refine .seq ?_
    refine Rw.walk ?_
    simp only [wz, wd, ws, Nat.reduceAdd, Nat.reduceSub, Nat.reduceMul, Nat.reduceLeDiff, Nat.reduceEqDiff, Nat.reduceLT, Nat.reduceBEq, reduceIte, reduceCtorEq, Int.reduceToNat, Nat.reduceShiftRight, Nat.reduceAnd, Nat.reduceBneDiff, Nat.reduceBNe, c5r7, semI.eq_10, semI.eq_11, semI.eq_3, semI.eq_5, semI.eq_7]
    obtain ⟨t, e6, h⟩ := Option.bind_eq_some_iff.1 h
    refine call_fun [12] false ⟨trivial, trivial, trivial, trivial⟩ rfl ?_ (f_strings_Join_ok _ _ _ e6) (fun _ => rfl) (fun i hi e he => coF_get (l := [12]) (by simp only [wz, wd, ws, Nat.reduceAdd, Nat.reduceSub, Nat.reduceMul, Nat.reduceLeDiff, Nat.reduceEqDiff, Nat.reduceLT, Nat.reduceBEq, reduceIte, reduceCtorEq, Int.reduceToNat, Nat.reduceShiftRight, Nat.reduceAnd, Nat.reduceBneDiff, Nat.reduceBNe, wi]) i e hi he) ?_
    · simp only [wz, wd, ws, Nat.reduceAdd, Nat.reduceSub, Nat.reduceMul, Nat.reduceLeDiff, Nat.reduceEqDiff, Nat.reduceLT, Nat.reduceBEq, reduceIte, reduceCtorEq, Int.reduceToNat, Nat.reduceShiftRight, Nat.reduceAnd, Nat.reduceBneDiff, Nat.reduceBNe]
    simp only [wz, wd, ws, Nat.reduceAdd, Nat.reduceSub, Nat.reduceMul, Nat.reduceLeDiff, Nat.reduceEqDiff, Nat.reduceLT, Nat.reduceBEq, reduceIte, reduceCtorEq, Int.reduceToNat, Nat.reduceShiftRight, Nat.reduceAnd, Nat.reduceBneDiff, Nat.reduceBNe, c5r7, semI.eq_10, semI.eq_11, semI.eq_3, semI.eq_5, semI.eq_7]
    refine .seq ?_
    refine .seq ?_
    obtain ⟨s3, hf, h⟩ := Option.bind_eq_some_iff.1 h
    refine W.cut1 ⟨lkT [(1, .b (.s (.d (.str s)))), (7, .b (.s (.d (.str t)))), (60, .b (.s (.d (.bool s3))))], lkG []⟩ ?_ (fun tail => ?_)
    · skip
      refine .cond (p := s3) (by first | rfl | simp only [wz, wd, ws, Nat.reduceAdd, Nat.reduceSub, Nat.reduceMul, Nat.reduceLeDiff, Nat.reduceEqDiff, Nat.reduceLT, Nat.reduceBEq, reduceIte, reduceCtorEq, Int.reduceToNat, Nat.reduceShiftRight, Nat.reduceAnd, Nat.reduceBneDiff, Nat.reduceBNe]) (fun h1 => ?_) (fun h1 => ?_)
      · rw [ite_t h1] at h
        refine .seq ?_
        refine Rw.walk ?_
        simp only [wz, wd, ws, Nat.reduceAdd, Nat.reduceSub, Nat.reduceMul, Nat.reduceLeDiff, Nat.reduceEqDiff, Nat.reduceLT, Nat.reduceBEq, reduceIte, reduceCtorEq, Int.reduceToNat, Nat.reduceShiftRight, Nat.reduceAnd, Nat.reduceBneDiff, Nat.reduceBNe, c5r9, semI.eq_10, semI.eq_11, semI.eq_3, semI.eq_5, semI.eq_7]
        obtain rfl := Option.some.inj h
        refine .ret ?_
        rw [← hR]
        simp only [wz, wd, ws, Nat.reduceAdd, Nat.reduceSub, Nat.reduceMul, Nat.reduceLeDiff, Nat.reduceEqDiff, Nat.reduceLT, Nat.reduceBEq, reduceIte, reduceCtorEq, Int.reduceToNat, Nat.reduceShiftRight, Nat.reduceAnd, Nat.reduceBneDiff, Nat.reduceBNe, rv5]
      · rw [ite_f h1] at h
        refine .skip ?_
        refine .seq ?_
        refine Rw.walk ?_
        simp only [wz, wd, ws, Nat.reduceAdd, Nat.reduceSub, Nat.reduceMul, Nat.reduceLeDiff, Nat.reduceEqDiff, Nat.reduceLT, Nat.reduceBEq, reduceIte, reduceCtorEq, Int.reduceToNat, Nat.reduceShiftRight, Nat.reduceAnd, Nat.reduceBneDiff, Nat.reduceBNe, c5r10, semI.eq_10, semI.eq_11, semI.eq_3, semI.eq_5, semI.eq_7]
        obtain ⟨t2, e7, h⟩ := Option.bind_eq_some_iff.1 h
        refine call_fun [] false ⟨trivial, trivial, trivial⟩ rfl ?_ (f_digest_Of_ok _ _ e7) (fun _ => rfl) (fun i hi => by cases hi) ?_
        · simp only [wz, wd, ws, Nat.reduceAdd, Nat.reduceSub, Nat.reduceMul, Nat.reduceLeDiff, Nat.reduceEqDiff, Nat.reduceLT, Nat.reduceBEq, reduceIte, reduceCtorEq, Int.reduceToNat, Nat.reduceShiftRight, Nat.reduceAnd, Nat.reduceBneDiff, Nat.reduceBNe]
        simp only [wz, wd, ws, Nat.reduceAdd, Nat.reduceSub, Nat.reduceMul, Nat.reduceLeDiff, Nat.reduceEqDiff, Nat.reduceLT, Nat.reduceBEq, reduceIte, reduceCtorEq, Int.reduceToNat, Nat.reduceShiftRight, Nat.reduceAnd, Nat.reduceBneDiff, Nat.reduceBNe, c5r10, semI.eq_10, semI.eq_11, semI.eq_3, semI.eq_5, semI.eq_7]
        obtain ⟨t3, e8, h⟩ := Option.bind_eq_some_iff.1 h
        refine call_fun [] false ⟨trivial, trivial, trivial⟩ rfl ?_ (f_digest_Parse_ok _ _ e8) (fun _ => rfl) (fun i hi => by cases hi) ?_
        · simp only [wz, wd, ws, Nat.reduceAdd, Nat.reduceSub, Nat.reduceMul, Nat.reduceLeDiff, Nat.reduceEqDiff, Nat.reduceLT, Nat.reduceBEq, reduceIte, reduceCtorEq, Int.reduceToNat, Nat.reduceShiftRight, Nat.reduceAnd, Nat.reduceBneDiff, Nat.reduceBNe]
        simp only [wz, wd, ws, Nat.reduceAdd, Nat.reduceSub, Nat.reduceMul, Nat.reduceLeDiff, Nat.reduceEqDiff, Nat.reduceLT, Nat.reduceBEq, reduceIte, reduceCtorEq, Int.reduceToNat, Nat.reduceShiftRight, Nat.reduceAnd, Nat.reduceBneDiff, Nat.reduceBNe, c5r10, semI.eq_10, semI.eq_11, semI.eq_3, semI.eq_5, semI.eq_7]
        refine .seq ?_
        refine Rw.walk ?_
        simp only [wz, wd, ws, Nat.reduceAdd, Nat.reduceSub, Nat.reduceMul, Nat.reduceLeDiff, Nat.reduceEqDiff, Nat.reduceLT, Nat.reduceBEq, reduceIte, reduceCtorEq, Int.reduceToNat, Nat.reduceShiftRight, Nat.reduceAnd, Nat.reduceBneDiff, Nat.reduceBNe, c5r11, semI.eq_10, semI.eq_11, semI.eq_3, semI.eq_5, semI.eq_7]
        obtain ⟨t4, e9, h⟩ := Option.bind_eq_some_iff.1 h
        refine call_fun [] false ⟨trivial, trivial, trivial⟩ rfl ?_ (f_law02_short_ok _ _ e9) (fun _ => rfl) (fun i hi => by cases hi) ?_
        · simp only [wz, wd, ws, Nat.reduceAdd, Nat.reduceSub, Nat.reduceMul, Nat.reduceLeDiff, Nat.reduceEqDiff, Nat.reduceLT, Nat.reduceBEq, reduceIte, reduceCtorEq, Int.reduceToNat, Nat.reduceShiftRight, Nat.reduceAnd, Nat.reduceBneDiff, Nat.reduceBNe]
        simp only [wz, wd, ws, Nat.reduceAdd, Nat.reduceSub, Nat.reduceMul, Nat.reduceLeDiff, Nat.reduceEqDiff, Nat.reduceLT, Nat.reduceBEq, reduceIte, reduceCtorEq, Int.reduceToNat, Nat.reduceShiftRight, Nat.reduceAnd, Nat.reduceBneDiff, Nat.reduceBNe, c5r11, semI.eq_10, semI.eq_11, semI.eq_3, semI.eq_5, semI.eq_7]
        obtain ⟨t5, e10, h⟩ := Option.bind_eq_some_iff.1 h
        refine call_fun [] false ⟨trivial, trivial, trivial⟩ rfl ?_ (f_digest_Parse_ok _ _ e10) (fun _ => rfl) (fun i hi => by cases hi) ?_
        · simp only [wz, wd, ws, Nat.reduceAdd, Nat.reduceSub, Nat.reduceMul, Nat.reduceLeDiff, Nat.reduceEqDiff, Nat.reduceLT, Nat.reduceBEq, reduceIte, reduceCtorEq, Int.reduceToNat, Nat.reduceShiftRight, Nat.reduceAnd, Nat.reduceBneDiff, Nat.reduceBNe]
        simp only [wz, wd, ws, Nat.reduceAdd, Nat.reduceSub, Nat.reduceMul, Nat.reduceLeDiff, Nat.reduceEqDiff, Nat.reduceLT, Nat.reduceBEq, reduceIte, reduceCtorEq, Int.reduceToNat, Nat.reduceShiftRight, Nat.reduceAnd, Nat.reduceBneDiff, Nat.reduceBNe, c5r11, semI.eq_10, semI.eq_11, semI.eq_3, semI.eq_5, semI.eq_7]
        refine .seq ?_
        refine Rs.walk ?_
        simp only [wz, wd, ws, Nat.reduceAdd, Nat.reduceSub, Nat.reduceMul, Nat.reduceLeDiff, Nat.reduceEqDiff, Nat.reduceLT, Nat.reduceBEq, reduceIte, reduceCtorEq, Int.reduceToNat, Nat.reduceShiftRight, Nat.reduceAnd, Nat.reduceBneDiff, Nat.reduceBNe, c5r12, semI.eq_10, semI.eq_11, semI.eq_3, semI.eq_5, semI.eq_7]
        cases q13 : (t3.2 == 0)
        case' false =>
          rw [ite_f q13] at h
          simp only [wz, wd, ws, Nat.reduceAdd, Nat.reduceSub, Nat.reduceMul, Nat.reduceLeDiff, Nat.reduceEqDiff, Nat.reduceLT, Nat.reduceBEq, reduceIte, reduceCtorEq, Int.reduceToNat, Nat.reduceShiftRight, Nat.reduceAnd, Nat.reduceBneDiff, Nat.reduceBNe, q13, semI.eq_10, semI.eq_11, semI.eq_3, semI.eq_5, semI.eq_7]
          repeat (refine And.intro ?_ ?_; · first | omega | (intro q; simp only [wz, wd, ws, Nat.reduceAdd, Nat.reduceSub, Nat.reduceMul, Nat.reduceLeDiff, Nat.reduceEqDiff, Nat.reduceLT, Nat.reduceBEq, reduceIte, reduceCtorEq, Int.reduceToNat, Nat.reduceShiftRight, Nat.reduceAnd, Nat.reduceBneDiff, Nat.reduceBNe, q]; done))
          obtain rfl := Option.some.inj h
          refine .ret ?_
          rw [← hR]
          simp only [wz, wd, ws, Nat.reduceAdd, Nat.reduceSub, Nat.reduceMul, Nat.reduceLeDiff, Nat.reduceEqDiff, Nat.reduceLT, Nat.reduceBEq, reduceIte, reduceCtorEq, Int.reduceToNat, Nat.reduceShiftRight, Nat.reduceAnd, Nat.reduceBneDiff, Nat.reduceBNe, rv5]
        case' true =>
          rw [ite_t q13] at h
          simp only [wz, wd, ws, Nat.reduceAdd, Nat.reduceSub, Nat.reduceMul, Nat.reduceLeDiff, Nat.reduceEqDiff, Nat.reduceLT, Nat.reduceBEq, reduceIte, reduceCtorEq, Int.reduceToNat, Nat.reduceShiftRight, Nat.reduceAnd, Nat.reduceBneDiff, Nat.reduceBNe, q13, semI.eq_10, semI.eq_11, semI.eq_3, semI.eq_5, semI.eq_7]
          refine GoU.of (sem_bsl (enc := eS) (m := ([t] : List Str)) eS_len (by rfl) (by rfl) (by rfl) ⟨trivial, trivial⟩) ?_
          simp only [wz, wd, ws, Nat.reduceAdd, Nat.reduceSub, Nat.reduceMul, Nat.reduceLeDiff, Nat.reduceEqDiff, Nat.reduceLT, Nat.reduceBEq, reduceIte, reduceCtorEq, Int.reduceToNat, Nat.reduceShiftRight, Nat.reduceAnd, Nat.reduceBneDiff, Nat.reduceBNe, q13, semI.eq_10, semI.eq_11, semI.eq_3, semI.eq_5, semI.eq_7]
          obtain ⟨t6, e11, h⟩ := Option.bind_eq_some_iff.1 h
          refine call_funT [78] false rfl rfl (by simp only [wz, wd, ws, Nat.reduceAdd, Nat.reduceSub, Nat.reduceMul, Nat.reduceLeDiff, Nat.reduceEqDiff, Nat.reduceLT, Nat.reduceBEq, reduceIte, reduceCtorEq, Int.reduceToNat, Nat.reduceShiftRight, Nat.reduceAnd, Nat.reduceBneDiff, Nat.reduceBNe]) rfl ?_ (f_digest_Sum_ok _ _ e11) (fun _ => rfl) (fun i hi e he => coF_get (l := [78]) (by simp only [wz, wd, ws, Nat.reduceAdd, Nat.reduceSub, Nat.reduceMul, Nat.reduceLeDiff, Nat.reduceEqDiff, Nat.reduceLT, Nat.reduceBEq, reduceIte, reduceCtorEq, Int.reduceToNat, Nat.reduceShiftRight, Nat.reduceAnd, Nat.reduceBneDiff, Nat.reduceBNe, wi]) i e hi he) ?_
          · simp only [wz, wd, ws, Nat.reduceAdd, Nat.reduceSub, Nat.reduceMul, Nat.reduceLeDiff, Nat.reduceEqDiff, Nat.reduceLT, Nat.reduceBEq, reduceIte, reduceCtorEq, Int.reduceToNat, Nat.reduceShiftRight, Nat.reduceAnd, Nat.reduceBneDiff, Nat.reduceBNe]
          simp only [wz, wd, ws, Nat.reduceAdd, Nat.reduceSub, Nat.reduceMul, Nat.reduceLeDiff, Nat.reduceEqDiff, Nat.reduceLT, Nat.reduceBEq, reduceIte, reduceCtorEq, Int.reduceToNat, Nat.reduceShiftRight, Nat.reduceAnd, Nat.reduceBneDiff, Nat.reduceBNe, q13, semI.eq_10, semI.eq_11, semI.eq_3, semI.eq_5, semI.eq_7]
          repeat (refine And.intro ?_ ?_; · first | omega | (intro q; simp only [wz, wd, ws, Nat.reduceAdd, Nat.reduceSub, Nat.reduceMul, Nat.reduceLeDiff, Nat.reduceEqDiff, Nat.reduceLT, Nat.reduceBEq, reduceIte, reduceCtorEq, Int.reduceToNat, Nat.reduceShiftRight, Nat.reduceAnd, Nat.reduceBneDiff, Nat.reduceBNe, q]; done))
          cases q14 : (t3.1 == t6)
          case' false =>
            rw [ite_f q14] at h
            simp only [wz, wd, ws, Nat.reduceAdd, Nat.reduceSub, Nat.reduceMul, Nat.reduceLeDiff, Nat.reduceEqDiff, Nat.reduceLT, Nat.reduceBEq, reduceIte, reduceCtorEq, Int.reduceToNat, Nat.reduceShiftRight, Nat.reduceAnd, Nat.reduceBneDiff, Nat.reduceBNe, q14, semI.eq_10, semI.eq_11, semI.eq_3, semI.eq_5, semI.eq_7]
            repeat (refine And.intro ?_ ?_; · first | omega | (intro q; simp only [wz, wd, ws, Nat.reduceAdd, Nat.reduceSub, Nat.reduceMul, Nat.reduceLeDiff, Nat.reduceEqDiff, Nat.reduceLT, Nat.reduceBEq, reduceIte, reduceCtorEq, Int.reduceToNat, Nat.reduceShiftRight, Nat.reduceAnd, Nat.reduceBneDiff, Nat.reduceBNe, q]; done))
            obtain rfl := Option.some.inj h
            refine .ret ?_
            rw [← hR]
            simp only [wz, wd, ws, Nat.reduceAdd, Nat.reduceSub, Nat.reduceMul, Nat.reduceLeDiff, Nat.reduceEqDiff, Nat.reduceLT, Nat.reduceBEq, reduceIte, reduceCtorEq, Int.reduceToNat, Nat.reduceShiftRight, Nat.reduceAnd, Nat.reduceBneDiff, Nat.reduceBNe, rv5]
          case' true =>
            rw [ite_t q14] at h
            simp only [wz, wd, ws, Nat.reduceAdd, Nat.reduceSub, Nat.reduceMul, Nat.reduceLeDiff, Nat.reduceEqDiff, Nat.reduceLT, Nat.reduceBEq, reduceIte, reduceCtorEq, Int.reduceToNat, Nat.reduceShiftRight, Nat.reduceAnd, Nat.reduceBneDiff, Nat.reduceBNe, q14, semI.eq_10, semI.eq_11, semI.eq_3, semI.eq_5, semI.eq_7]
            cases q15 : (t5.2 == 0)
            case' false =>
              rw [ite_f q15] at h
              simp only [wz, wd, ws, Nat.reduceAdd, Nat.reduceSub, Nat.reduceMul, Nat.reduceLeDiff, Nat.reduceEqDiff, Nat.reduceLT, Nat.reduceBEq, reduceIte, reduceCtorEq, Int.reduceToNat, Nat.reduceShiftRight, Nat.reduceAnd, Nat.reduceBneDiff, Nat.reduceBNe, q15, semI.eq_10, semI.eq_11, semI.eq_3, semI.eq_5, semI.eq_7]
              repeat (refine And.intro ?_ ?_; · first | omega | (intro q; simp only [wz, wd, ws, Nat.reduceAdd, Nat.reduceSub, Nat.reduceMul, Nat.reduceLeDiff, Nat.reduceEqDiff, Nat.reduceLT, Nat.reduceBEq, reduceIte, reduceCtorEq, Int.reduceToNat, Nat.reduceShiftRight, Nat.reduceAnd, Nat.reduceBneDiff, Nat.reduceBNe, q]; done))
              obtain rfl := Option.some.inj h
              refine .ret ?_
              rw [← hR]
              simp only [wz, wd, ws, Nat.reduceAdd, Nat.reduceSub, Nat.reduceMul, Nat.reduceLeDiff, Nat.reduceEqDiff, Nat.reduceLT, Nat.reduceBEq, reduceIte, reduceCtorEq, Int.reduceToNat, Nat.reduceShiftRight, Nat.reduceAnd, Nat.reduceBneDiff, Nat.reduceBNe, rv5]
            case' true =>
              rw [ite_t q15] at h
              simp only [wz, wd, ws, Nat.reduceAdd, Nat.reduceSub, Nat.reduceMul, Nat.reduceLeDiff, Nat.reduceEqDiff, Nat.reduceLT, Nat.reduceBEq, reduceIte, reduceCtorEq, Int.reduceToNat, Nat.reduceShiftRight, Nat.reduceAnd, Nat.reduceBneDiff, Nat.reduceBNe, q15, semI.eq_10, semI.eq_11, semI.eq_3, semI.eq_5, semI.eq_7]
              repeat (refine And.intro ?_ ?_; · first | omega | (intro q; simp only [wz, wd, ws, Nat.reduceAdd, Nat.reduceSub, Nat.reduceMul, Nat.reduceLeDiff, Nat.reduceEqDiff, Nat.reduceLT, Nat.reduceBEq, reduceIte, reduceCtorEq, Int.reduceToNat, Nat.reduceShiftRight, Nat.reduceAnd, Nat.reduceBneDiff, Nat.reduceBNe, q]; done))
              obtain rfl := Option.some.inj h
              refine .ret ?_
              rw [← hR]
              simp only [wz, wd, ws, Nat.reduceAdd, Nat.reduceSub, Nat.reduceMul, Nat.reduceLeDiff, Nat.reduceEqDiff, Nat.reduceLT, Nat.reduceBEq, reduceIte, reduceCtorEq, Int.reduceToNat, Nat.reduceShiftRight, Nat.reduceAnd, Nat.reduceBneDiff, Nat.reduceBNe, rv5]
    replace h := hf
    refine Rs.walk ?_
    simp only [wz, wd, ws, Nat.reduceAdd, Nat.reduceSub, Nat.reduceMul, Nat.reduceLeDiff, Nat.reduceEqDiff, Nat.reduceLT, Nat.reduceBEq, reduceIte, reduceCtorEq, Int.reduceToNat, Nat.reduceShiftRight, Nat.reduceAnd, Nat.reduceBneDiff, Nat.reduceBNe, c5r8, semI.eq_10, semI.eq_11, semI.eq_3, semI.eq_5, semI.eq_7]
    obtain ⟨t2, e12, h⟩ := Option.bind_eq_some_iff.1 h
    refine call_fun [12] false ⟨trivial, trivial, trivial⟩ rfl ?_ (f_digest_Sum_ok _ _ e12) (fun _ => rfl) (fun i hi e he => coF_get (l := [12]) (by simp only [wz, wd, ws, Nat.reduceAdd, Nat.reduceSub, Nat.reduceMul, Nat.reduceLeDiff, Nat.reduceEqDiff, Nat.reduceLT, Nat.reduceBEq, reduceIte, reduceCtorEq, Int.reduceToNat, Nat.reduceShiftRight, Nat.reduceAnd, Nat.reduceBneDiff, Nat.reduceBNe, wi]) i e hi he) ?_
    · simp only [wz, wd, ws, Nat.reduceAdd, Nat.reduceSub, Nat.reduceMul, Nat.reduceLeDiff, Nat.reduceEqDiff, Nat.reduceLT, Nat.reduceBEq, reduceIte, reduceCtorEq, Int.reduceToNat, Nat.reduceShiftRight, Nat.reduceAnd, Nat.reduceBneDiff, Nat.reduceBNe]
    simp only [wz, wd, ws, Nat.reduceAdd, Nat.reduceSub, Nat.reduceMul, Nat.reduceLeDiff, Nat.reduceEqDiff, Nat.reduceLT, Nat.reduceBEq, reduceIte, reduceCtorEq, Int.reduceToNat, Nat.reduceShiftRight, Nat.reduceAnd, Nat.reduceBneDiff, Nat.reduceBNe, c5r8, semI.eq_10, semI.eq_11, semI.eq_3, semI.eq_5, semI.eq_7]
    refine Go1.of (sem_bsl (enc := eS) (m := ([t] : List Str)) eS_len (by rfl) (by rfl) (by rfl) ⟨trivial, trivial⟩) ?_
    simp only [wz, wd, ws, Nat.reduceAdd, Nat.reduceSub, Nat.reduceMul, Nat.reduceLeDiff, Nat.reduceEqDiff, Nat.reduceLT, Nat.reduceBEq, reduceIte, reduceCtorEq, Int.reduceToNat, Nat.reduceShiftRight, Nat.reduceAnd, Nat.reduceBneDiff, Nat.reduceBNe, c5r8, semI.eq_10, semI.eq_11, semI.eq_3, semI.eq_5, semI.eq_7]
    obtain ⟨t3, e13, h⟩ := Option.bind_eq_some_iff.1 h
    refine call_fun [40] false ⟨trivial, trivial, trivial⟩ rfl ?_ (f_digest_Sum_ok _ _ e13) (fun _ => rfl) (fun i hi e he => coF_get (l := [40]) (by simp only [wz, wd, ws, Nat.reduceAdd, Nat.reduceSub, Nat.reduceMul, Nat.reduceLeDiff, Nat.reduceEqDiff, Nat.reduceLT, Nat.reduceBEq, reduceIte, reduceCtorEq, Int.reduceToNat, Nat.reduceShiftRight, Nat.reduceAnd, Nat.reduceBneDiff, Nat.reduceBNe, wi]) i e hi he) ?_
    · simp only [wz, wd, ws, Nat.reduceAdd, Nat.reduceSub, Nat.reduceMul, Nat.reduceLeDiff, Nat.reduceEqDiff, Nat.reduceLT, Nat.reduceBEq, reduceIte, reduceCtorEq, Int.reduceToNat, Nat.reduceShiftRight, Nat.reduceAnd, Nat.reduceBneDiff, Nat.reduceBNe]
    simp only [wz, wd, ws, Nat.reduceAdd, Nat.reduceSub, Nat.reduceMul, Nat.reduceLeDiff, Nat.reduceEqDiff, Nat.reduceLT, Nat.reduceBEq, reduceIte, reduceCtorEq, Int.reduceToNat, Nat.reduceShiftRight, Nat.reduceAnd, Nat.reduceBneDiff, Nat.reduceBNe, c5r8, semI.eq_10, semI.eq_11, semI.eq_3, semI.eq_5, semI.eq_7]
    cases q16 : (t2 == t3)
    case' false =>
      rw [ite_f q16] at h
      simp only [wz, wd, ws, Nat.reduceAdd, Nat.reduceSub, Nat.reduceMul, Nat.reduceLeDiff, Nat.reduceEqDiff, Nat.reduceLT, Nat.reduceBEq, reduceIte, reduceCtorEq, Int.reduceToNat, Nat.reduceShiftRight, Nat.reduceAnd, Nat.reduceBneDiff, Nat.reduceBNe, q16, semI.eq_10, semI.eq_11, semI.eq_3, semI.eq_5, semI.eq_7]
      repeat (refine And.intro ?_ ?_; · first | omega | (intro q; simp only [wz, wd, ws, Nat.reduceAdd, Nat.reduceSub, Nat.reduceMul, Nat.reduceLeDiff, Nat.reduceEqDiff, Nat.reduceLT, Nat.reduceBEq, reduceIte, reduceCtorEq, Int.reduceToNat, Nat.reduceShiftRight, Nat.reduceAnd, Nat.reduceBneDiff, Nat.reduceBNe, q]; done))
      obtain rfl := Option.some.inj h
      refine .weak (Imp.co [] _ _ ?_ ?_ ?_ ?_ ?_) (tail) <;> simp only [wz, wd, ws, Nat.reduceAdd, Nat.reduceSub, Nat.reduceMul, Nat.reduceLeDiff, Nat.reduceEqDiff, Nat.reduceLT, Nat.reduceBEq, reduceIte, reduceCtorEq, Int.reduceToNat, Nat.reduceShiftRight, Nat.reduceAnd, Nat.reduceBneDiff, Nat.reduceBNe, wi, er_nil]
    case' true =>
      rw [ite_t q16] at h
      simp only [wz, wd, ws, Nat.reduceAdd, Nat.reduceSub, Nat.reduceMul, Nat.reduceLeDiff, Nat.reduceEqDiff, Nat.reduceLT, Nat.reduceBEq, reduceIte, reduceCtorEq, Int.reduceToNat, Nat.reduceShiftRight, Nat.reduceAnd, Nat.reduceBneDiff, Nat.reduceBNe, q16, semI.eq_10, semI.eq_11, semI.eq_3, semI.eq_5, semI.eq_7]
      refine GoU.of (sem_bsl (enc := eS) (m := ([t] : List Str)) eS_len (by rfl) (by rfl) (by rfl) ⟨trivial, trivial⟩) ?_
      simp only [wz, wd, ws, Nat.reduceAdd, Nat.reduceSub, Nat.reduceMul, Nat.reduceLeDiff, Nat.reduceEqDiff, Nat.reduceLT, Nat.reduceBEq, reduceIte, reduceCtorEq, Int.reduceToNat, Nat.reduceShiftRight, Nat.reduceAnd, Nat.reduceBneDiff, Nat.reduceBNe, q16, semI.eq_10, semI.eq_11, semI.eq_3, semI.eq_5, semI.eq_7]
      obtain ⟨t4, e14, h⟩ := Option.bind_eq_some_iff.1 h
      refine call_funT [45] false rfl rfl (by simp only [wz, wd, ws, Nat.reduceAdd, Nat.reduceSub, Nat.reduceMul, Nat.reduceLeDiff, Nat.reduceEqDiff, Nat.reduceLT, Nat.reduceBEq, reduceIte, reduceCtorEq, Int.reduceToNat, Nat.reduceShiftRight, Nat.reduceAnd, Nat.reduceBneDiff, Nat.reduceBNe]) rfl ?_ (f_digest_Sum_ok _ _ e14) (fun _ => rfl) (fun i hi e he => coF_get (l := [45]) (by simp only [wz, wd, ws, Nat.reduceAdd, Nat.reduceSub, Nat.reduceMul, Nat.reduceLeDiff, Nat.reduceEqDiff, Nat.reduceLT, Nat.reduceBEq, reduceIte, reduceCtorEq, Int.reduceToNat, Nat.reduceShiftRight, Nat.reduceAnd, Nat.reduceBneDiff, Nat.reduceBNe, wi]) i e hi he) ?_
      · simp only [wz, wd, ws, Nat.reduceAdd, Nat.reduceSub, Nat.reduceMul, Nat.reduceLeDiff, Nat.reduceEqDiff, Nat.reduceLT, Nat.reduceBEq, reduceIte, reduceCtorEq, Int.reduceToNat, Nat.reduceShiftRight, Nat.reduceAnd, Nat.reduceBneDiff, Nat.reduceBNe]
      simp only [wz, wd, ws, Nat.reduceAdd, Nat.reduceSub, Nat.reduceMul, Nat.reduceLeDiff, Nat.reduceEqDiff, Nat.reduceLT, Nat.reduceBEq, reduceIte, reduceCtorEq, Int.reduceToNat, Nat.reduceShiftRight, Nat.reduceAnd, Nat.reduceBneDiff, Nat.reduceBNe, q16, semI.eq_10, semI.eq_11, semI.eq_3, semI.eq_5, semI.eq_7]
      repeat (refine And.intro ?_ ?_; · first | omega | (intro q; simp only [wz, wd, ws, Nat.reduceAdd, Nat.reduceSub, Nat.reduceMul, Nat.reduceLeDiff, Nat.reduceEqDiff, Nat.reduceLT, Nat.reduceBEq, reduceIte, reduceCtorEq, Int.reduceToNat, Nat.reduceShiftRight, Nat.reduceAnd, Nat.reduceBneDiff, Nat.reduceBNe, q]; done))
      cases q17 : ((t4.length : Int) != 32)
      case' false =>
        rw [ite_f q17] at h
        simp only [wz, wd, ws, Nat.reduceAdd, Nat.reduceSub, Nat.reduceMul, Nat.reduceLeDiff, Nat.reduceEqDiff, Nat.reduceLT, Nat.reduceBEq, reduceIte, reduceCtorEq, Int.reduceToNat, Nat.reduceShiftRight, Nat.reduceAnd, Nat.reduceBneDiff, Nat.reduceBNe, q17, semI.eq_10, semI.eq_11, semI.eq_3, semI.eq_5, semI.eq_7]
        obtain ⟨t5, e15, h⟩ := Option.bind_eq_some_iff.1 h
        refine call_funT [] false rfl rfl (by simp only [wz, wd, ws, Nat.reduceAdd, Nat.reduceSub, Nat.reduceMul, Nat.reduceLeDiff, Nat.reduceEqDiff, Nat.reduceLT, Nat.reduceBEq, reduceIte, reduceCtorEq, Int.reduceToNat, Nat.reduceShiftRight, Nat.reduceAnd, Nat.reduceBneDiff, Nat.reduceBNe]) rfl ?_ (f_digest_Of_ok _ _ e15) (fun _ => rfl) (fun i hi => by cases hi) ?_
        · simp only [wz, wd, ws, Nat.reduceAdd, Nat.reduceSub, Nat.reduceMul, Nat.reduceLeDiff, Nat.reduceEqDiff, Nat.reduceLT, Nat.reduceBEq, reduceIte, reduceCtorEq, Int.reduceToNat, Nat.reduceShiftRight, Nat.reduceAnd, Nat.reduceBneDiff, Nat.reduceBNe]
        simp only [wz, wd, ws, Nat.reduceAdd, Nat.reduceSub, Nat.reduceMul, Nat.reduceLeDiff, Nat.reduceEqDiff, Nat.reduceLT, Nat.reduceBEq, reduceIte, reduceCtorEq, Int.reduceToNat, Nat.reduceShiftRight, Nat.reduceAnd, Nat.reduceBneDiff, Nat.reduceBNe, q17, semI.eq_10, semI.eq_11, semI.eq_3, semI.eq_5, semI.eq_7]
        obtain ⟨t6, e16, h⟩ := Option.bind_eq_some_iff.1 h
        refine call_funT [] false rfl rfl (by simp only [wz, wd, ws, Nat.reduceAdd, Nat.reduceSub, Nat.reduceMul, Nat.reduceLeDiff, Nat.reduceEqDiff, Nat.reduceLT, Nat.reduceBEq, reduceIte, reduceCtorEq, Int.reduceToNat, Nat.reduceShiftRight, Nat.reduceAnd, Nat.reduceBneDiff, Nat.reduceBNe]) rfl ?_ (f_digest_Fits_ok _ _ _ e16) (fun _ => rfl) (fun i hi => by cases hi) ?_
        · simp only [wz, wd, ws, Nat.reduceAdd, Nat.reduceSub, Nat.reduceMul, Nat.reduceLeDiff, Nat.reduceEqDiff, Nat.reduceLT, Nat.reduceBEq, reduceIte, reduceCtorEq, Int.reduceToNat, Nat.reduceShiftRight, Nat.reduceAnd, Nat.reduceBneDiff, Nat.reduceBNe]
        simp only [wz, wd, ws, Nat.reduceAdd, Nat.reduceSub, Nat.reduceMul, Nat.reduceLeDiff, Nat.reduceEqDiff, Nat.reduceLT, Nat.reduceBEq, reduceIte, reduceCtorEq, Int.reduceToNat, Nat.reduceShiftRight, Nat.reduceAnd, Nat.reduceBneDiff, Nat.reduceBNe, q17, semI.eq_10, semI.eq_11, semI.eq_3, semI.eq_5, semI.eq_7]
        repeat (refine And.intro ?_ ?_; · first | omega | (intro q; simp only [wz, wd, ws, Nat.reduceAdd, Nat.reduceSub, Nat.reduceMul, Nat.reduceLeDiff, Nat.reduceEqDiff, Nat.reduceLT, Nat.reduceBEq, reduceIte, reduceCtorEq, Int.reduceToNat, Nat.reduceShiftRight, Nat.reduceAnd, Nat.reduceBneDiff, Nat.reduceBNe, q]; done))
        cases q18 : (t6 != 0)
        case' false =>
          rw [ite_f q18] at h
          simp only [wz, wd, ws, Nat.reduceAdd, Nat.reduceSub, Nat.reduceMul, Nat.reduceLeDiff, Nat.reduceEqDiff, Nat.reduceLT, Nat.reduceBEq, reduceIte, reduceCtorEq, Int.reduceToNat, Nat.reduceShiftRight, Nat.reduceAnd, Nat.reduceBneDiff, Nat.reduceBNe, q18, semI.eq_10, semI.eq_11, semI.eq_3, semI.eq_5, semI.eq_7]
          obtain ⟨t7, e17, h⟩ := Option.bind_eq_some_iff.1 h
          refine call_funT [] false rfl rfl (by simp only [wz, wd, ws, Nat.reduceAdd, Nat.reduceSub, Nat.reduceMul, Nat.reduceLeDiff, Nat.reduceEqDiff, Nat.reduceLT, Nat.reduceBEq, reduceIte, reduceCtorEq, Int.reduceToNat, Nat.reduceShiftRight, Nat.reduceAnd, Nat.reduceBneDiff, Nat.reduceBNe]) rfl ?_ (f_law02_alive_ok _ e17) (fun _ => rfl) (fun i hi => by cases hi) ?_
          · simp only [wz, wd, ws, Nat.reduceAdd, Nat.reduceSub, Nat.reduceMul, Nat.reduceLeDiff, Nat.reduceEqDiff, Nat.reduceLT, Nat.reduceBEq, reduceIte, reduceCtorEq, Int.reduceToNat, Nat.reduceShiftRight, Nat.reduceAnd, Nat.reduceBneDiff, Nat.reduceBNe]
          simp only [wz, wd, ws, Nat.reduceAdd, Nat.reduceSub, Nat.reduceMul, Nat.reduceLeDiff, Nat.reduceEqDiff, Nat.reduceLT, Nat.reduceBEq, reduceIte, reduceCtorEq, Int.reduceToNat, Nat.reduceShiftRight, Nat.reduceAnd, Nat.reduceBneDiff, Nat.reduceBNe, q18, semI.eq_10, semI.eq_11, semI.eq_3, semI.eq_5, semI.eq_7]
          repeat (refine And.intro ?_ ?_; · first | omega | (intro q; simp only [wz, wd, ws, Nat.reduceAdd, Nat.reduceSub, Nat.reduceMul, Nat.reduceLeDiff, Nat.reduceEqDiff, Nat.reduceLT, Nat.reduceBEq, reduceIte, reduceCtorEq, Int.reduceToNat, Nat.reduceShiftRight, Nat.reduceAnd, Nat.reduceBneDiff, Nat.reduceBNe, q]; done))
          obtain rfl := Option.some.inj h
          refine .weak (Imp.co [] _ _ ?_ ?_ ?_ ?_ ?_) (tail) <;> simp only [wz, wd, ws, Nat.reduceAdd, Nat.reduceSub, Nat.reduceMul, Nat.reduceLeDiff, Nat.reduceEqDiff, Nat.reduceLT, Nat.reduceBEq, reduceIte, reduceCtorEq, Int.reduceToNat, Nat.reduceShiftRight, Nat.reduceAnd, Nat.reduceBneDiff, Nat.reduceBNe, wi, er_nil]
        case' true =>
          rw [ite_t q18] at h
          simp only [wz, wd, ws, Nat.reduceAdd, Nat.reduceSub, Nat.reduceMul, Nat.reduceLeDiff, Nat.reduceEqDiff, Nat.reduceLT, Nat.reduceBEq, reduceIte, reduceCtorEq, Int.reduceToNat, Nat.reduceShiftRight, Nat.reduceAnd, Nat.reduceBneDiff, Nat.reduceBNe, q18, semI.eq_10, semI.eq_11, semI.eq_3, semI.eq_5, semI.eq_7]
          repeat (refine And.intro ?_ ?_; · first | omega | (intro q; simp only [wz, wd, ws, Nat.reduceAdd, Nat.reduceSub, Nat.reduceMul, Nat.reduceLeDiff, Nat.reduceEqDiff, Nat.reduceLT, Nat.reduceBEq, reduceIte, reduceCtorEq, Int.reduceToNat, Nat.reduceShiftRight, Nat.reduceAnd, Nat.reduceBneDiff, Nat.reduceBNe, q]; done))
          obtain rfl := Option.some.inj h
          refine .weak (Imp.co [] _ _ ?_ ?_ ?_ ?_ ?_) (tail) <;> simp only [wz, wd, ws, Nat.reduceAdd, Nat.reduceSub, Nat.reduceMul, Nat.reduceLeDiff, Nat.reduceEqDiff, Nat.reduceLT, Nat.reduceBEq, reduceIte, reduceCtorEq, Int.reduceToNat, Nat.reduceShiftRight, Nat.reduceAnd, Nat.reduceBneDiff, Nat.reduceBNe, wi, er_nil]
      case' true =>
        rw [ite_t q17] at h
        simp only [wz, wd, ws, Nat.reduceAdd, Nat.reduceSub, Nat.reduceMul, Nat.reduceLeDiff, Nat.reduceEqDiff, Nat.reduceLT, Nat.reduceBEq, reduceIte, reduceCtorEq, Int.reduceToNat, Nat.reduceShiftRight, Nat.reduceAnd, Nat.reduceBneDiff, Nat.reduceBNe, q17, semI.eq_10, semI.eq_11, semI.eq_3, semI.eq_5, semI.eq_7]
        repeat (refine And.intro ?_ ?_; · first | omega | (intro q; simp only [wz, wd, ws, Nat.reduceAdd, Nat.reduceSub, Nat.reduceMul, Nat.reduceLeDiff, Nat.reduceEqDiff, Nat.reduceLT, Nat.reduceBEq, reduceIte, reduceCtorEq, Int.reduceToNat, Nat.reduceShiftRight, Nat.reduceAnd, Nat.reduceBneDiff, Nat.reduceBNe, q]; done))
        obtain rfl := Option.some.inj h
        refine .weak (Imp.co [] _ _ ?_ ?_ ?_ ?_ ?_) (tail) <;> simp only [wz, wd, ws, Nat.reduceAdd, Nat.reduceSub, Nat.reduceMul, Nat.reduceLeDiff, Nat.reduceEqDiff, Nat.reduceLT, Nat.reduceBEq, reduceIte, reduceCtorEq, Int.reduceToNat, Nat.reduceShiftRight, Nat.reduceAnd, Nat.reduceBneDiff, Nat.reduceBNe, wi, er_nil]
end Go.Proofs.YtjhgkcbhllomaaaDoor.V
end

section
/- Plain laws: numbers, rows and words of 32 bits. -/
namespace Go.Proofs.YtjhgkcbhllomaaaDoor.V.M
open Go Go.RowKit
theorem w_i64 {n : Int} (h : -9223372036854775808 ≤ n) (h2 : n < 9223372036854775808) : IntKind.i64.wrap n = n := by
  simp only [IntKind.wrap, IntKind.bits, IntKind.signed]; simp; omega
theorem w_u64 {n : Int} (h : 0 ≤ n) (h2 : n < 18446744073709551616) : IntKind.u64.wrap n = n := by
  simp only [IntKind.wrap, IntKind.bits, IntKind.signed]; simp; omega
theorem w_u32 (n : Int) : IntKind.u32.wrap n = n % 4294967296 := by simp [IntKind.wrap, IntKind.bits, IntKind.signed]
theorem w_u8 (n : Int) : IntKind.u8.wrap n = n % 256 := by simp [IntKind.wrap, IntKind.bits, IntKind.signed]
theorem gd_t {α : Type} {p : Prop} [Decidable p] (k : Option α) (h : p) : gd p k = k := by unfold gd; rw [if_pos h]
theorem ix_nat {α : Type} (l : List α) (n : Nat) : ix l (n : Int) = l[n]? := by unfold ix; rw [if_pos (by omega)]; rfl
theorem ix_lt {α : Type} (l : List α) (d : α) (n : Nat) (h : n < l.length) : ix l (n : Int) = some (l.getD n d) := by
  rw [ix_nat, List.getElem?_eq_getElem h, List.getD_eq_getElem?_getD, List.getElem?_eq_getElem h]; rfl
theorem cut_all {α : Type} (l : List α) (n : Nat) : cut l (n : Int) (l.length : Int) = l.drop n := by unfold cut; simp
theorem cut_zero {α : Type} (l : List α) (n : Nat) : cut l 0 (n : Int) = l.take n := by unfold cut; simp
/-- A word of 32 bits, as the program's number. -/
def B (x : BitVec 32) : Int := (x.toNat : Int)
theorem B_lt (x : BitVec 32) : 0 ≤ B x ∧ B x < 4294967296 := ⟨by unfold B; omega, by unfold B; have := x.isLt; omega⟩
theorem B_of (n : Int) : BitVec.ofInt 32 n = BitVec.ofInt 32 n := rfl
theorem B_ofInt (n : Int) : IntKind.u32.wrap n = B (BitVec.ofInt 32 n) := by
  rw [w_u32]; unfold B; rw [BitVec.toNat_ofInt]; omega
theorem of_B (x : BitVec 32) : BitVec.ofInt 32 (B x) = x := by unfold B; simp
theorem of_B' (x : BitVec 32) : BitVec.ofInt IntKind.u32.bits (B x) = x := of_B x
theorem wrap_B (x : BitVec 32) : IntKind.u32.wrap (B x) = B x := by rw [B_ofInt, of_B]
theorem wrap_N (x : BitVec 32) : IntKind.u32.wrap ((x.toNat : Nat) : Int) = B x := wrap_B x
theorem add_B (x y : BitVec 32) : IntKind.u32.wrap (B x + B y) = B (x + y) := by
  rw [B_ofInt, BitVec.ofInt_add, of_B, of_B]
theorem B_mod (n : Nat) : (n : Int) % 4294967296 = B (BitVec.ofNat 32 n) := by unfold B; simp
theorem not_B (x : BitVec 32) : IntKind.u32.wrap (4294967295 - B x) = B (~~~ x) := by
  have := B_lt x
  rw [w_u32]; unfold B at *; rw [BitVec.toNat_not]; omega
theorem not_B2 (x : BitVec 32) : IntKind.u32.wrap (BitVec.ofInt IntKind.u32.bits (if IntKind.u32.signed then -1 else IntKind.u32.max) ^^^ BitVec.ofInt IntKind.u32.bits (B x)).toNat = B (~~~ x) := by
  have e : (BitVec.ofInt IntKind.u32.bits (if IntKind.u32.signed then -1 else IntKind.u32.max) ^^^ BitVec.ofInt IntKind.u32.bits (B x)) = ~~~ x := by
    show BitVec.ofInt 32 4294967295 ^^^ BitVec.ofInt 32 (B x) = _
    rw [of_B, show BitVec.ofInt 32 4294967295 = BitVec.allOnes 32 from by decide, BitVec.allOnes_xor]
  rw [e]; exact wrap_N _
theorem xor_B (x y : BitVec 32) : IntKind.u32.wrap (BitVec.ofInt IntKind.u32.bits (B x) ^^^ BitVec.ofInt IntKind.u32.bits (B y)).toNat = B (x ^^^ y) := by
  have e : (BitVec.ofInt IntKind.u32.bits (B x) ^^^ BitVec.ofInt IntKind.u32.bits (B y)) = x ^^^ y := by
    show BitVec.ofInt 32 (B x) ^^^ BitVec.ofInt 32 (B y) = _
    rw [of_B, of_B]
  rw [e]; exact wrap_N _
theorem and_B (x y : BitVec 32) : IntKind.u32.wrap (BitVec.ofInt IntKind.u32.bits (B x) &&& BitVec.ofInt IntKind.u32.bits (B y)).toNat = B (x &&& y) := by
  have e : (BitVec.ofInt IntKind.u32.bits (B x) &&& BitVec.ofInt IntKind.u32.bits (B y)) = x &&& y := by
    show BitVec.ofInt 32 (B x) &&& BitVec.ofInt 32 (B y) = _
    rw [of_B, of_B]
  rw [e]; exact wrap_N _
theorem or_B (x y : BitVec 32) : IntKind.u32.wrap (BitVec.ofInt IntKind.u32.bits (B x) ||| BitVec.ofInt IntKind.u32.bits (B y)).toNat = B (x ||| y) := by
  have e : (BitVec.ofInt IntKind.u32.bits (B x) ||| BitVec.ofInt IntKind.u32.bits (B y)) = x ||| y := by
    show BitVec.ofInt 32 (B x) ||| BitVec.ofInt 32 (B y) = _
    rw [of_B, of_B]
  rw [e]; exact wrap_N _
/-- The turn to the right. -/
def rot (n : Nat) (x : BitVec 32) : BitVec 32 := (x <<< (32 - n)) ||| (x >>> n)
theorem rot_add (n : Nat) (h0 : 0 < n) (h : n < 32) (x : BitVec 32) : rot n x = (x <<< (32 - n)) + (x >>> n) := by
  unfold rot; symm; apply BitVec.add_eq_or_of_and_eq_zero
  ext i hi
  simp only [BitVec.getElem_and, BitVec.getElem_shiftLeft, BitVec.getElem_ushiftRight, BitVec.getElem_zero]
  by_cases c : i < 32 - n
  · simp [c]
  · simp [c]; intro _; exact BitVec.getLsbD_of_ge _ _ (by omega)
theorem B_def (x : BitVec 32) : B x = (x.toNat : Int) := rfl
theorem shr_B (x : BitVec 32) (n : Nat) : (B x).fdiv (2 ^ n) = B (x >>> n) := by
  have h : (2 : Int) ^ n = ((2 ^ n : Nat) : Int) := by rw [Int.natCast_pow]; rfl
  rw [B_def, B_def, BitVec.toNat_ushiftRight, Nat.shiftRight_eq_div_pow, h, Int.fdiv_eq_ediv_of_nonneg _ (Int.natCast_nonneg _)]; rfl
theorem shl_B (x : BitVec 32) (n : Nat) : IntKind.u32.wrap (B x * 2 ^ n) = B (x <<< n) := by
  have h : (2 : Int) ^ n = ((2 ^ n : Nat) : Int) := by rw [Int.natCast_pow]; rfl
  rw [w_u32, B_def, B_def, BitVec.toNat_shiftLeft, Nat.shiftLeft_eq, h, ← Int.natCast_mul]; rfl
theorem divB (x : BitVec 32) (n : Nat) (p : Int) (h : p = ((2 ^ n : Nat) : Int)) : IntKind.u32.wrap ((B x).tdiv p) = B (x >>> n) := by
  subst h
  rw [B_def, Int.tdiv_eq_ediv_of_nonneg (Int.natCast_nonneg _), show ((x.toNat : Int) / ((2 ^ n : Nat) : Int)) = ((x >>> n).toNat : Int) by
    rw [BitVec.toNat_ushiftRight, Nat.shiftRight_eq_div_pow]; rfl]
  exact wrap_N _
theorem modB (x : BitVec 32) (n : Nat) (hn : n ≤ 32) (p q : Int) (h : p = ((2 ^ n : Nat) : Int)) (h2 : q = ((2 ^ (32 - n) : Nat) : Int)) : IntKind.u32.wrap ((B x).tmod p * q) = B (x <<< (32 - n)) := by
  subst h; subst h2
  rw [B_def, Int.tmod_eq_emod_of_nonneg (Int.natCast_nonneg _), w_u32, B_def, BitVec.toNat_shiftLeft, Nat.shiftLeft_eq]
  have e : (x.toNat % 2 ^ n) * 2 ^ (32 - n) = x.toNat * 2 ^ (32 - n) % 2 ^ 32 := by
    rw [← Nat.mul_mod_mul_right]; congr 1; rw [← Nat.pow_add]; congr 1; omega
  rw [← e, ← Int.natCast_emod, ← Int.natCast_mul, e]
  have := Nat.mod_lt (x.toNat * 2 ^ (32 - n)) (show 2 ^ 32 > 0 by decide)
  omega
end Go.Proofs.YtjhgkcbhllomaaaDoor.V.M
end

section
/- The two ways to turn a word agree; mixed, step and block over words. -/
namespace Go.Proofs.YtjhgkcbhllomaaaDoor.V.M
open Go Go.RowKit
theorem rl_ok (x : BitVec 32) (n : Nat) (h0 : 0 < n) (h : n < 32) : f_math_bits_RotateLeft32 (B x) (IntKind.i64.wrap (0 - (n : Int))) = some (B (rot n x)) := by
  have e : (IntKind.u64.wrap ((BitVec.ofInt IntKind.u64.bits (IntKind.u64.wrap (IntKind.i64.wrap (0 - (n : Int)))) &&& BitVec.ofInt IntKind.u64.bits 31).toNat)) = ((32 - n : Nat) : Int) := by
    have : ∀ n : Fin 32, 0 < n.val → (IntKind.u64.wrap ((BitVec.ofInt IntKind.u64.bits (IntKind.u64.wrap (IntKind.i64.wrap (0 - (n.val : Int)))) &&& BitVec.ofInt IntKind.u64.bits 31).toNat)) = ((32 - n.val : Nat) : Int) := by decide
    exact this ⟨n, h⟩ h0
  have e2 : IntKind.u64.wrap (32 - ((32 - n : Nat) : Int)) = (n : Int) := by rw [w_u64 (by omega) (by omega)]; omega
  unfold f_math_bits_RotateLeft32
  rw [e, Option.bind_some, gd_t _ (by omega), e2, gd_t _ (by omega)]
  rw [show min ((32 - n : Nat) : Int).toNat IntKind.u32.bits = 32 - n from by show min _ 32 = _; omega, show min (n : Int).toNat IntKind.u32.bits = n from by show min _ 32 = _; omega]
  rw [shl_B, shr_B, or_B]; rfl
theorem turn_ok (x : BitVec 32) (n : Nat) (h0 : 0 < n) (h : n < 32) (hp : f_ref02_turn_l6 (B x) n (((n : Int) - 0).toNat + 1) 1 0 = some (((2 ^ n : Nat) : Int), (n : Int)))
    (hq : f_ref02_turn_l12 (B x) (((2 ^ n : Nat) : Int), (n : Int)) (((32 : Int) - n).toNat + 1) 1 n = some (((2 ^ (32 - n) : Nat) : Int), 32)) : f_ref02_turn (B x) n = some (B (rot n x)) := by
  unfold f_ref02_turn
  rw [hp, Option.bind_some, hq, Option.bind_some]
  have := Nat.pow_pos (n := n) (show 0 < 2 by decide)
  rw [gd_t _ (by show ((2 ^ n : Nat) : Int) ≠ 0; omega), gd_t _ (by show ((2 ^ n : Nat) : Int) ≠ 0; omega)]
  rw [divB x n _ rfl, modB x n (by omega) _ _ rfl rfl, add_B, rot_add n h0 h, BitVec.add_comm]
theorem turn2 (x : BitVec 32) : f_ref02_turn (B x) 2 = some (B (rot 2 x)) := turn_ok x 2 (by decide) (by decide) (by kernel_rfl) (by kernel_rfl)
theorem turn6 (x : BitVec 32) : f_ref02_turn (B x) 6 = some (B (rot 6 x)) := turn_ok x 6 (by decide) (by decide) (by kernel_rfl) (by kernel_rfl)
theorem turn7 (x : BitVec 32) : f_ref02_turn (B x) 7 = some (B (rot 7 x)) := turn_ok x 7 (by decide) (by decide) (by kernel_rfl) (by kernel_rfl)
theorem turn11 (x : BitVec 32) : f_ref02_turn (B x) 11 = some (B (rot 11 x)) := turn_ok x 11 (by decide) (by decide) (by kernel_rfl) (by kernel_rfl)
theorem turn13 (x : BitVec 32) : f_ref02_turn (B x) 13 = some (B (rot 13 x)) := turn_ok x 13 (by decide) (by decide) (by kernel_rfl) (by kernel_rfl)
theorem turn17 (x : BitVec 32) : f_ref02_turn (B x) 17 = some (B (rot 17 x)) := turn_ok x 17 (by decide) (by decide) (by kernel_rfl) (by kernel_rfl)
theorem turn18 (x : BitVec 32) : f_ref02_turn (B x) 18 = some (B (rot 18 x)) := turn_ok x 18 (by decide) (by decide) (by kernel_rfl) (by kernel_rfl)
theorem turn19 (x : BitVec 32) : f_ref02_turn (B x) 19 = some (B (rot 19 x)) := turn_ok x 19 (by decide) (by decide) (by kernel_rfl) (by kernel_rfl)
theorem turn22 (x : BitVec 32) : f_ref02_turn (B x) 22 = some (B (rot 22 x)) := turn_ok x 22 (by decide) (by decide) (by kernel_rfl) (by kernel_rfl)
theorem turn25 (x : BitVec 32) : f_ref02_turn (B x) 25 = some (B (rot 25 x)) := turn_ok x 25 (by decide) (by decide) (by kernel_rfl) (by kernel_rfl)
theorem mixed_t (x : BitVec 32) (a b c : Nat) (ha : 0 < a ∧ a < 32) (hb : 0 < b ∧ b < 32) (hc : 0 < c ∧ c < 32) :
    f_digest_mixed (B x) a b c true = some (B (rot a x ^^^ rot b x ^^^ (x >>> c))) := by
  unfold f_digest_mixed
  rw [rl_ok x c hc.1 hc.2, Option.bind_some, if_pos rfl, gd_t _ (by omega), Option.bind_some, rl_ok x a ha.1 ha.2, Option.bind_some, rl_ok x b hb.1 hb.2, Option.bind_some,
    show min (c : Int).toNat IntKind.u32.bits = c from by show min _ 32 = _; omega, shr_B, xor_B, xor_B]
theorem mixed_f (x : BitVec 32) (a b c : Nat) (ha : 0 < a ∧ a < 32) (hb : 0 < b ∧ b < 32) (hc : 0 < c ∧ c < 32) :
    f_digest_mixed (B x) a b c false = some (B (rot a x ^^^ rot b x ^^^ rot c x)) := by
  unfold f_digest_mixed
  rw [rl_ok x c hc.1 hc.2, Option.bind_some, if_neg (by decide), Option.bind_some, rl_ok x a ha.1 ha.2, Option.bind_some, rl_ok x b hb.1 hb.2, Option.bind_some, xor_B, xor_B]
def sg0 (x : BitVec 32) := rot 7 x ^^^ rot 18 x ^^^ (x >>> 3)
def sg1 (x : BitVec 32) := rot 17 x ^^^ rot 19 x ^^^ (x >>> 10)
def bg0 (x : BitVec 32) := rot 2 x ^^^ rot 13 x ^^^ rot 22 x
def bg1 (x : BitVec 32) := rot 6 x ^^^ rot 11 x ^^^ rot 25 x
theorem mx0 (x : BitVec 32) : f_digest_mixed (B x) 7 18 3 true = some (B (sg0 x)) := mixed_t x 7 18 3 (by decide) (by decide) (by decide)
theorem mx1 (x : BitVec 32) : f_digest_mixed (B x) 17 19 10 true = some (B (sg1 x)) := mixed_t x 17 19 10 (by decide) (by decide) (by decide)
theorem my0 (x : BitVec 32) : f_digest_mixed (B x) 2 13 22 false = some (B (bg0 x)) := mixed_f x 2 13 22 (by decide) (by decide) (by decide)
theorem my1 (x : BitVec 32) : f_digest_mixed (B x) 6 11 25 false = some (B (bg1 x)) := mixed_f x 6 11 25 (by decide) (by decide) (by decide)
def Cb (c : UInt8) : BitVec 32 := BitVec.ofNat 32 c.toNat
theorem bn_B (c : UInt8) : IntKind.u32.wrap (bn c) = B (Cb c) := by
  rw [w_u32]; unfold bn Cb; exact B_mod _
def wd (a b c d : UInt8) : BitVec 32 := Cb a <<< 24 ||| Cb b <<< 16 ||| Cb c <<< 8 ||| Cb d
theorem mn24 : min 24 IntKind.u32.bits = 24 := rfl
theorem mn16 : min 16 IntKind.u32.bits = 16 := rfl
theorem mn8 : min 8 IntKind.u32.bits = 8 := rfl
theorem big_ok (s : Str) (h : 4 ≤ s.length) : f_digest_big s = some (B (wd (s.getD 0 0) (s.getD 1 0) (s.getD 2 0) (s.getD 3 0))) := by
  unfold f_digest_big
  have e0 : ix s 0 = some (s.getD 0 0) := ix_lt s 0 0 (by omega)
  have e1 : ix s 1 = some (s.getD 1 0) := ix_lt s 0 1 (by omega)
  have e2 : ix s 2 = some (s.getD 2 0) := ix_lt s 0 2 (by omega)
  have e3 : ix s 3 = some (s.getD 3 0) := ix_lt s 0 3 (by omega)
  rw [e0, Option.bind_some, e1, Option.bind_some, e2, Option.bind_some, e3, Option.bind_some]
  simp only [bn_B, mn24, mn16, mn8, shl_B, or_B]
  rfl
theorem wd_eq (a b c d : UInt8) : 256#32 * (256#32 * (256#32 * (256#32 * 0#32 + Cb a) + Cb b) + Cb c) + Cb d = wd a b c d := by
  apply BitVec.eq_of_toNat_eq
  unfold wd Cb
  have ha := a.toNat_lt; have hb := b.toNat_lt; have hc := c.toNat_lt; have hd := d.toNat_lt
  simp only [BitVec.toNat_add, BitVec.toNat_mul, BitVec.toNat_or, BitVec.toNat_shiftLeft, BitVec.toNat_ofNat, Nat.shiftLeft_eq]
  rw [Nat.or_assoc, Nat.or_assoc, Nat.mod_eq_of_lt (show d.toNat < 2 ^ 32 by omega), Nat.mod_eq_of_lt (show c.toNat < 2 ^ 32 by omega), Nat.mod_eq_of_lt (show b.toNat < 2 ^ 32 by omega), Nat.mod_eq_of_lt (show a.toNat < 2 ^ 32 by omega),
    Nat.mod_eq_of_lt (show c.toNat * 2 ^ 8 < 2 ^ 32 by omega), Nat.mod_eq_of_lt (show b.toNat * 2 ^ 16 < 2 ^ 32 by omega), Nat.mod_eq_of_lt (show a.toNat * 2 ^ 24 < 2 ^ 32 by omega),
    Nat.mul_comm c.toNat, Nat.mul_comm b.toNat, Nat.mul_comm a.toNat, ← Nat.two_pow_add_eq_or_of_lt (show d.toNat < 2 ^ 8 by omega),
    ← Nat.two_pow_add_eq_or_of_lt (show 2 ^ 8 * c.toNat + d.toNat < 2 ^ 16 by omega), ← Nat.two_pow_add_eq_or_of_lt (show 2 ^ 16 * b.toNat + (2 ^ 8 * c.toNat + d.toNat) < 2 ^ 24 by omega)]
  omega
end Go.Proofs.YtjhgkcbhllomaaaDoor.V.M
end

section
/- The words of a block, and a block, computed in both ways. -/
namespace Go.Proofs.YtjhgkcbhllomaaaDoor.V.M
open Go Go.RowKit
def wr (s : Str) (i : Nat) : BitVec 32 := wd (s.getD (4 * i) 0) (s.getD (4 * i + 1) 0) (s.getD (4 * i + 2) 0) (s.getD (4 * i + 3) 0)
def nxWord (s : Str) (i : Nat) (l : List (BitVec 32)) : BitVec 32 :=
  if i < 16 then wr s i else sg1 (l.getD (i - 2) 0#32) + l.getD (i - 7) 0#32 + sg0 (l.getD (i - 15) 0#32) + l.getD (i - 16) 0#32
def sch (s : Str) : Nat → List (BitVec 32)
  | 0 => []
  | i + 1 => sch s i ++ [nxWord s i (sch s i)]
theorem sch_len (s : Str) (i : Nat) : (sch s i).length = i := by
  induction i with
  | zero => rfl
  | succ i ih => simp [sch, ih]
def W0 (s : Str) (i : Nat) : List Int := (sch s i).map B ++ List.replicate (64 - i) 0
theorem ix_sch (s : Str) (i j : Nat) (h : j < i) (r : List Int) : ix ((sch s i).map B ++ r) (j : Int) = some (B ((sch s i).getD j 0#32)) := by
  rw [ix_nat, List.getElem?_append_left (by simpa [sch_len] using h), List.getElem?_map, List.getElem?_eq_getElem (by simpa [sch_len] using h), List.getD_eq_getElem?_getD, List.getElem?_eq_getElem (by simpa [sch_len] using h)]; rfl
theorem ix_W0 (s : Str) (i j : Nat) (h : j < i) : ix (W0 s i) (j : Int) = some (B ((sch s i).getD j 0#32)) := ix_sch s i j h _
theorem ix_V0 (s : Str) (i j : Nat) (h : j < i) : ix ((sch s i).map B) (j : Int) = some (B ((sch s i).getD j 0#32)) := by
  have := ix_sch s i j h []; rwa [List.append_nil] at this
theorem W0_len (s : Str) (i : Nat) (h : i ≤ 64) : (W0 s i).length = 64 := by simp [W0, sch_len]; omega
theorem W0_set (s : Str) (i : Nat) (h : i < 64) (y : Int) (hy : y = B (nxWord s i (sch s i))) : (W0 s i).set i y = W0 s (i + 1) := by
  subst hy
  unfold W0
  rw [show 64 - i = (64 - (i + 1)) + 1 from by omega, List.replicate_succ, List.set_append_right _ _ (by simp [sch_len])]
  simp [sch_len, sch]
theorem over9_step (hv : List Int) (s : Str) (h : 64 ≤ s.length) (hs : s.length < 9223372036854775808) (i m : Nat) (hi : i < 64) :
    f_digest_over_l9 hv s (m + 1) (i : Int) (W0 s i) = f_digest_over_l9 hv s m ((i + 1 : Nat) : Int) (W0 s (i + 1)) := by
  have e1 : IntKind.i64.wrap ((i : Int) + 1) = ((i + 1 : Nat) : Int) := by rw [w_i64 (by omega) (by omega)]; omega
  rw [f_digest_over_l9, if_pos (decide_eq_true (by omega)), e1]
  have hl := W0_len s i (by omega)
  by_cases c : i < 16
  · rw [if_pos (decide_eq_true (by omega))]
    have e2 : IntKind.i64.wrap (4 * (i : Int)) = ((4 * i : Nat) : Int) := by rw [w_i64 (by omega) (by omega)]; omega
    rw [e2, gd_t _ (by omega), cut_all, big_ok _ (by rw [List.length_drop]; omega), Option.bind_some, gd_t _ (by omega), gd_t _ (by omega), Int.toNat_natCast, W0_set s i hi]
    congr 1
    unfold nxWord wr; rw [if_pos c]
    simp only [List.getD_eq_getElem?_getD, List.getElem?_drop]; rfl
  · rw [if_neg (by simp; omega)]
    have e2 : IntKind.i64.wrap ((i : Int) - 2) = ((i - 2 : Nat) : Int) := by rw [w_i64 (by omega) (by omega)]; omega
    have e7 : IntKind.i64.wrap ((i : Int) - 7) = ((i - 7 : Nat) : Int) := by rw [w_i64 (by omega) (by omega)]; omega
    have e15 : IntKind.i64.wrap ((i : Int) - 15) = ((i - 15 : Nat) : Int) := by rw [w_i64 (by omega) (by omega)]; omega
    have e16 : IntKind.i64.wrap ((i : Int) - 16) = ((i - 16 : Nat) : Int) := by rw [w_i64 (by omega) (by omega)]; omega
    rw [e2, e7, e15, e16, gd_t _ (by omega), ix_W0 s i _ (by omega), Option.bind_some, mx1, Option.bind_some, gd_t _ (by omega), ix_W0 s i _ (by omega), Option.bind_some,
      gd_t _ (by omega), ix_W0 s i _ (by omega), Option.bind_some, mx0, Option.bind_some, gd_t _ (by omega), ix_W0 s i _ (by omega), Option.bind_some, gd_t _ (by omega), gd_t _ (by omega), Int.toNat_natCast, W0_set s i hi]
    rw [add_B, add_B, add_B]; congr 1; unfold nxWord; rw [if_neg c]
theorem over9 (hv : List Int) (s : Str) (h : 64 ≤ s.length) (hs : s.length < 9223372036854775808) (k : Nat) : ∀ i, i + k = 64 →
    f_digest_over_l9 hv s (k + 1) (i : Int) (W0 s i) = some (64, W0 s 64) := by
  induction k with
  | zero => intro i hi; obtain rfl : i = 64 := by omega
            rw [f_digest_over_l9, if_neg (by decide)]; rfl
  | succ k ih => intro i hi; rw [over9_step hv s h hs i (k + 1) (by omega)]; exact ih _ (by omega)
theorem b9 (hv keys : List Int) (s : Str) (i : Nat) (w : List Int) (h : 64 ≤ s.length) (hi : i < 16) : f_ref02_Block_l9 hv keys s i w (((4 : Int) - 0).toNat + 1) 0 0 = some (B (wr s i), 4) := by
  have e : ∀ j : Nat, j < 4 → ix s (IntKind.i64.wrap ((IntKind.i64.wrap (4 * (i : Int))) + (j : Int))) = some (s.getD (4 * i + j) 0) := by
    intro j hj
    rw [w_i64 (n := 4 * (i : Int)) (by omega) (by omega), w_i64 (by omega) (by omega), show 4 * (i : Int) + (j : Int) = ((4 * i + j : Nat) : Int) by omega]
    exact ix_lt s 0 _ (by omega)
  have e0 := e 0 (by decide); have e1 := e 1 (by decide); have e2 := e 2 (by decide); have e3 := e 3 (by decide)
  have mul : ∀ x, IntKind.u32.wrap (256 * B x) = B (256#32 * x) := by
    intro x; rw [show (256 : Int) = B 256#32 from rfl, B_ofInt, BitVec.ofInt_mul, of_B, of_B]
  have z : (0 : Int) = B 0#32 := rfl
  show f_ref02_Block_l9 hv keys s i w (4 + 1) 0 ((0 : Nat) : Int) = _
  rw [f_ref02_Block_l9, if_pos (by decide), e0, Option.bind_some]
  show f_ref02_Block_l9 hv keys s i w (3 + 1) _ ((1 : Nat) : Int) = _
  rw [f_ref02_Block_l9, if_pos (by decide), e1, Option.bind_some]
  show f_ref02_Block_l9 hv keys s i w (2 + 1) _ ((2 : Nat) : Int) = _
  rw [f_ref02_Block_l9, if_pos (by decide), e2, Option.bind_some]
  show f_ref02_Block_l9 hv keys s i w (1 + 1) _ ((3 : Nat) : Int) = _
  rw [f_ref02_Block_l9, if_pos (by decide), e3, Option.bind_some]
  show f_ref02_Block_l9 hv keys s i w (0 + 1) _ (4 : Int) = _
  rw [f_ref02_Block_l9, if_neg (by decide), z]
  simp only [mul, bn_B, add_B, wd_eq]; rfl
theorem b12 (hv keys : List Int) (s : Str) (h : 64 ≤ s.length) (k : Nat) : ∀ i, i + k = 16 →
    f_ref02_Block_l12 hv keys s (k + 1) (i : Int) ((sch s i).map B) = some (16, (sch s 16).map B) := by
  induction k with
  | zero => intro i hi; obtain rfl : i = 16 := by omega
            rw [f_ref02_Block_l12, if_neg (by decide)]; rfl
  | succ k ih =>
    intro i hi
    have e1 : IntKind.i64.wrap ((i : Int) + 1) = ((i + 1 : Nat) : Int) := by rw [w_i64 (by omega) (by omega)]; omega
    rw [f_ref02_Block_l12, if_pos (decide_eq_true (by omega)), e1, b9 hv keys s i _ h (by omega), Option.bind_some, gd_t _ (by simp [sch_len]; omega)]
    rw [← ih (i + 1) (by omega)]
    congr 1
    simp [sch, nxWord, show i < 16 by omega]
theorem b21 (hv keys : List Int) (s : Str) (k : Nat) : ∀ i, 16 ≤ i → i + k = 64 →
    f_ref02_Block_l21 hv keys s (k + 1) (i : Int) ((sch s i).map B) = some (64, (sch s 64).map B) := by
  induction k with
  | zero => intro i h16 hi; obtain rfl : i = 64 := by omega
            rw [f_ref02_Block_l21, if_neg (by decide)]; rfl
  | succ k ih =>
    intro i h16 hi
    have e1 : IntKind.i64.wrap ((i : Int) + 1) = ((i + 1 : Nat) : Int) := by rw [w_i64 (by omega) (by omega)]; omega
    have e2 : IntKind.i64.wrap ((i : Int) - 2) = ((i - 2 : Nat) : Int) := by rw [w_i64 (by omega) (by omega)]; omega
    have e7 : IntKind.i64.wrap ((i : Int) - 7) = ((i - 7 : Nat) : Int) := by rw [w_i64 (by omega) (by omega)]; omega
    have e15 : IntKind.i64.wrap ((i : Int) - 15) = ((i - 15 : Nat) : Int) := by rw [w_i64 (by omega) (by omega)]; omega
    have e16 : IntKind.i64.wrap ((i : Int) - 16) = ((i - 16 : Nat) : Int) := by rw [w_i64 (by omega) (by omega)]; omega
    rw [f_ref02_Block_l21, if_pos (decide_eq_true (by omega)), e1, e2, e7, e15, e16, ix_V0 s i _ (by omega), Option.bind_some, ix_V0 s i _ (by omega), Option.bind_some, turn7, Option.bind_some, turn18, Option.bind_some,
      xor_B, divB _ 3 8 rfl, xor_B, Option.bind_some, turn17, Option.bind_some, turn19, Option.bind_some, xor_B, divB _ 10 1024 rfl, xor_B, Option.bind_some, ix_V0 s i _ (by omega), Option.bind_some, ix_V0 s i _ (by omega), Option.bind_some,
      gd_t _ (by simp [sch_len]; omega), add_B, add_B, add_B]
    rw [← ih (i + 1) (by omega) (by omega)]
    congr 1
    simp [sch, nxWord, show ¬ i < 16 by omega, sg0, sg1]
end Go.Proofs.YtjhgkcbhllomaaaDoor.V.M
end

section
/- A block, computed in both ways. -/
namespace Go.Proofs.YtjhgkcbhllomaaaDoor.V.M
open Go Go.RowKit
def keysB : List (BitVec 32) := g_digest_keys.map (BitVec.ofInt 32)
theorem keysB_map : g_digest_keys = keysB.map B := by kernel_rfl
theorem keysB_len : keysB.length = 64 := by kernel_rfl
theorem ix_map (l : List (BitVec 32)) (j : Nat) (h : j < l.length) : ix (l.map B) (j : Int) = some (B (l.getD j 0#32)) := by
  rw [ix_nat, List.getElem?_map, List.getElem?_eq_getElem h, List.getD_eq_getElem?_getD, List.getElem?_eq_getElem h]; rfl
def rnd (k w : BitVec 32) : List (BitVec 32) → List (BitVec 32)
  | [a, b, c, d, e, f, g, h] =>
    [h + bg1 e + (e &&& f ^^^ (~~~ e) &&& g) + k + w + (bg0 a + (a &&& b ^^^ a &&& c ^^^ b &&& c)), a, b, c, d + (h + bg1 e + (e &&& f ^^^ (~~~ e) &&& g) + k + w), e, f, g]
  | v => v
theorem len8 {α : Type} (l : List α) (h : l.length = 8) : ∃ a b c d e f g i, l = [a, b, c, d, e, f, g, i] := by
  match l, h with
  | [a, b, c, d, e, f, g, i], _ => exact ⟨a, b, c, d, e, f, g, i, rfl⟩
theorem rnd_len (k w : BitVec 32) (v : List (BitVec 32)) (h : v.length = 8) : (rnd k w v).length = 8 := by
  obtain ⟨a, b, c, d, e, f, g, i, rfl⟩ := len8 v h; rfl
def rn (hv : List (BitVec 32)) (s : Str) : Nat → List (BitVec 32)
  | 0 => hv
  | i + 1 => rnd (keysB.getD i 0#32) ((sch s 64).getD i 0#32) (rn hv s i)
theorem rn_len (hv : List (BitVec 32)) (s : Str) (h : hv.length = 8) (i : Nat) : (rn hv s i).length = 8 := by
  induction i with
  | zero => exact h
  | succ i ih => exact rnd_len _ _ _ ih
theorem bsn {α β : Type} (a : α) (f : α → Option β) : (some a).bind f = f a := Eq.trans (Option.bind_some a f) rfl
theorem gdc0 (a : BitVec 32) (l : List (BitVec 32)) : (a :: l).getD 0 0#32 = a := Eq.trans List.getD_cons_zero rfl
theorem gdc1 (a : BitVec 32) (l : List (BitVec 32)) (n : Nat) : (a :: l).getD (n + 1) 0#32 = l.getD n 0#32 := Eq.trans List.getD_cons_succ rfl
theorem ix8 (a b c d e f g i : BitVec 32) : ix ([a, b, c, d, e, f, g, i].map B) 0 = some (B a) ∧ ix ([a, b, c, d, e, f, g, i].map B) 1 = some (B b) ∧ ix ([a, b, c, d, e, f, g, i].map B) 2 = some (B c) ∧ ix ([a, b, c, d, e, f, g, i].map B) 3 = some (B d) ∧ ix ([a, b, c, d, e, f, g, i].map B) 4 = some (B e) ∧ ix ([a, b, c, d, e, f, g, i].map B) 5 = some (B f) ∧ ix ([a, b, c, d, e, f, g, i].map B) 6 = some (B g) ∧ ix ([a, b, c, d, e, f, g, i].map B) 7 = some (B i) := ⟨rfl, rfl, rfl, rfl, rfl, rfl, rfl, rfl⟩
theorem step_ok (k w : BitVec 32) (v : List (BitVec 32)) (h : v.length = 8) : f_ref02_step (v.map B) (B k) (B w) = some ((rnd k w v).map B) := by
  obtain ⟨a, b, c, d, e, f, g, i, rfl⟩ := len8 v h
  obtain ⟨x0, x1, x2, x3, x4, x5, x6, x7⟩ := ix8 a b c d e f g i
  unfold f_ref02_step
  simp only [x0, x1, x2, x3, x4, x5, x6, x7, bsn, turn6, turn11, turn25, turn2, turn13, turn22, xor_B, and_B, not_B, add_B]
  rw [rnd, BitVec.add_assoc (_ + w)]; rfl
theorem l19_step (hv : List Int) (s : Str) (s2 : Int × List Int) (u : List (BitVec 32)) (hs : s2.2 = u.map B) (hu : u.length = 64) (v : List (BitVec 32)) (h : v.length = 8) (i m : Nat) (hi : i < 64) :
    f_digest_over_l19 hv s s2 (m + 1) (i : Int) (v.map B) = f_digest_over_l19 hv s s2 m ((i + 1 : Nat) : Int) ((rnd (keysB.getD i 0#32) (u.getD i 0#32) v).map B) := by
  obtain ⟨a, b, c, d, e, f, g, k, rfl⟩ := len8 v h
  obtain ⟨x0, x1, x2, x3, x4, x5, x6, x7⟩ := ix8 a b c d e f g k
  have y := ix_map u i (by omega)
  have z := ix_map keysB i (by rw [keysB_len]; omega)
  rw [← keysB_map] at z
  rw [← hs] at y
  have g1 : (0 ≤ (i : Int) ∧ (i : Int) < 64) := by omega
  have e1 : IntKind.i64.wrap ((i : Int) + 1) = ((i + 1 : Nat) : Int) := by rw [w_i64 (by omega) (by omega)]; omega
  have gl : ([a, b, c, d, e, f, g, k].map B).length = 8 := rfl
  rw [f_digest_over_l19, if_pos (decide_eq_true (by omega)), e1]
  simp only [x0, x1, x2, x3, x4, x5, x6, x7, y, z, gd_t _ g1, gd_t _ gl, bsn, my0, my1, not_B2, xor_B, and_B, add_B]
  rfl
theorem l19_ok (hv : List Int) (s : Str) (s2 : Int × List Int) (hs : s2.2 = (sch s 64).map B) (v : List (BitVec 32)) (h : v.length = 8) (k : Nat) : ∀ i, i + k = 64 →
    f_digest_over_l19 hv s s2 (k + 1) (i : Int) ((rn v s i).map B) = some (64, (rn v s 64).map B) := by
  induction k with
  | zero => intro i hi; obtain rfl : i = 64 := by omega
            rw [f_digest_over_l19, if_neg (by decide)]; rfl
  | succ k ih => intro i hi; rw [l19_step hv s s2 (sch s 64) hs (sch_len s 64) _ (rn_len v s h i) i (k + 1) (by omega)]; exact ih _ (by omega)
theorem l27_ok (hv : List Int) (s : Str) (s3 : Int × List Int) (hs : s3.2 = (sch s 64).map B) (v : List (BitVec 32)) (h : v.length = 8) (k : Nat) : ∀ i, i + k = 64 →
    f_ref02_Block_l27 hv g_digest_keys s s3 (k + 1) ((rn v s i).map B) (i : Int) = some ((rn v s 64).map B, 64) := by
  induction k with
  | zero => intro i hi; obtain rfl : i = 64 := by omega
            rw [f_ref02_Block_l27, if_neg (by decide)]; rfl
  | succ k ih =>
    intro i hi
    have y := ix_map (sch s 64) i (by rw [sch_len]; omega)
    have z := ix_map keysB i (by rw [keysB_len]; omega)
    rw [← keysB_map] at z
    rw [← hs] at y
    have e1 : IntKind.i64.wrap ((i : Int) + 1) = ((i + 1 : Nat) : Int) := by rw [w_i64 (by omega) (by omega)]; omega
    rw [f_ref02_Block_l27, if_pos (decide_eq_true (by omega)), e1, z, Option.bind_some, y, Option.bind_some, step_ok _ _ _ (rn_len v s h i), Option.bind_some]
    exact ih (i + 1) (by omega)
def comp (hv : List (BitVec 32)) (s : Str) : List (BitVec 32) := List.zipWith (· + ·) hv (rn hv s 64)
theorem comp_len (hv : List (BitVec 32)) (s : Str) (h : hv.length = 8) : (comp hv s).length = 8 := by simp [comp, h, rn_len hv s h]
theorem l25_ok (s : Str) (s3 : Int × List Int) (a b : List (BitVec 32)) (ha : a.length = 8) (hb : b.length = 8) (hs : s3.2 = b.map B) :
    f_digest_over_l25 s s3 (((8 : Int) - 0).toNat + 1) 0 (a.map B) = some (8, (List.zipWith (· + ·) a b).map B) := by
  obtain ⟨t, u⟩ := s3
  dsimp only at hs; subst hs
  obtain ⟨a0, a1, a2, a3, a4, a5, a6, a7, rfl⟩ := len8 a ha
  obtain ⟨b0, b1, b2, b3, b4, b5, b6, b7, rfl⟩ := len8 b hb
  have : f_digest_over_l25 s (t, [b0, b1, b2, b3, b4, b5, b6, b7].map B) (((8 : Int) - 0).toNat + 1) 0 ([a0, a1, a2, a3, a4, a5, a6, a7].map B) =
    some (8, [IntKind.u32.wrap (B a0 + B b0), IntKind.u32.wrap (B a1 + B b1), IntKind.u32.wrap (B a2 + B b2), IntKind.u32.wrap (B a3 + B b3), IntKind.u32.wrap (B a4 + B b4), IntKind.u32.wrap (B a5 + B b5), IntKind.u32.wrap (B a6 + B b6), IntKind.u32.wrap (B a7 + B b7)]) := by kernel_rfl
  rw [this]; simp only [add_B]; rfl
theorem l33_ok (hv : List Int) (s : Str) (s4 : List Int × Int) (a b : List (BitVec 32)) (ha : a.length = 8) (hb : b.length = 8) (hs : s4.1 = b.map B) (hh : hv = a.map B) :
    f_ref02_Block_l33 hv s s4 (((8 : Int) - 0).toNat + 1) 0 [] = some (8, (List.zipWith (· + ·) a b).map B) := by
  obtain ⟨u, t⟩ := s4
  dsimp only at hs; subst hs; subst hh
  obtain ⟨a0, a1, a2, a3, a4, a5, a6, a7, rfl⟩ := len8 a ha
  obtain ⟨b0, b1, b2, b3, b4, b5, b6, b7, rfl⟩ := len8 b hb
  have : f_ref02_Block_l33 ([a0, a1, a2, a3, a4, a5, a6, a7].map B) s ([b0, b1, b2, b3, b4, b5, b6, b7].map B, t) (((8 : Int) - 0).toNat + 1) 0 [] =
    some (8, [IntKind.u32.wrap (B a0 + B b0), IntKind.u32.wrap (B a1 + B b1), IntKind.u32.wrap (B a2 + B b2), IntKind.u32.wrap (B a3 + B b3), IntKind.u32.wrap (B a4 + B b4), IntKind.u32.wrap (B a5 + B b5), IntKind.u32.wrap (B a6 + B b6), IntKind.u32.wrap (B a7 + B b7)]) := by kernel_rfl
  rw [this]; simp only [add_B]; rfl
theorem over_ok (hv : List (BitVec 32)) (s : Str) (h : hv.length = 8) (hs : 64 ≤ s.length) (hl : s.length < 9223372036854775808) : f_digest_over (hv.map B) s = some ((comp hv s).map B) := by
  have g1 : (hv.map B).length = 8 := by simpa using h
  have q1 := over9 (hv.map B) s hs hl 64 0 rfl
  have q2 := l19_ok (hv.map B) s (64, W0 s 64) (by simp [W0]) hv h 64 0 rfl
  have q3 : f_digest_over_l25 s (64, (rn hv s 64).map B) (((8 : Int) - 0).toNat + 1) 0 (hv.map B) = some (8, (comp hv s).map B) := l25_ok s (64, (rn hv s 64).map B) hv _ h (rn_len hv s h 64) rfl
  have g2 : ((comp hv s).map B).length = 8 := by simpa using comp_len hv s h
  unfold f_digest_over
  rw [gd_t _ g1]
  have q1' : f_digest_over_l9 (hv.map B) s (((64 : Int) - 0).toNat + 1) 0 (List.replicate 64 0) = some (64, W0 s 64) := q1
  have q2' : f_digest_over_l19 (hv.map B) s (64, W0 s 64) (((64 : Int) - 0).toNat + 1) 0 (hv.map B) = some (64, (rn hv s 64).map B) := q2
  rw [q1', Option.bind_some, gd_t _ g1, gd_t _ g1, q2', Option.bind_some, q3, Option.bind_some]
  dsimp only
  rw [gd_t _ g2, gd_t _ g2, gd_t _ g2]
theorem Block_ok (hv : List (BitVec 32)) (s : Str) (h : hv.length = 8) (hs : 64 ≤ s.length) : f_ref02_Block (hv.map B) g_digest_keys s = some ((comp hv s).map B) := by
  have q1 := b12 (hv.map B) g_digest_keys s hs 16 0 rfl
  have q2 := b21 (hv.map B) g_digest_keys s 48 16 (by decide) rfl
  have q3 := l27_ok (hv.map B) s (64, (sch s 64).map B) (by dsimp only) hv h 64 0 rfl
  rw [show (sch s 0).map B = [] from rfl, show ((0 : Nat) : Int) = 0 from rfl] at q1
  rw [show ((16 : Nat) : Int) = 16 from rfl] at q2
  rw [show rn hv s 0 = hv from rfl, show ((0 : Nat) : Int) = 0 from rfl] at q3
  have q4 := l33_ok (hv.map B) s ((rn hv s 64).map B, 64) hv _ h (rn_len hv s h 64) rfl rfl
  unfold f_ref02_Block
  rw [show ((16 : Int) - 0).toNat + 1 = 16 + 1 from rfl, show ((64 : Int) - 16).toNat + 1 = 48 + 1 from rfl, show ((64 : Int) - 0).toNat + 1 = 64 + 1 from rfl]
  rw [q1, Option.bind_some, q2, Option.bind_some, q3, Option.bind_some, q4, Option.bind_some]
  rfl
theorem nx_take (s : Str) (i : Nat) (l : List (BitVec 32)) : nxWord (s.take 64) i l = nxWord s i l := by
  have e : ∀ j, j < 64 → (s.take 64).getD j 0 = s.getD j 0 := by
    intro j hj; rw [List.getD_eq_getElem?_getD, List.getD_eq_getElem?_getD, List.getElem?_take_of_lt hj]
  unfold nxWord
  by_cases c : i < 16
  · rw [if_pos c, if_pos c]; unfold wr; rw [e _ (by omega), e _ (by omega), e _ (by omega), e _ (by omega)]
  · rw [if_neg c, if_neg c]
theorem sch_take (s : Str) (i : Nat) : sch (s.take 64) i = sch s i := by
  induction i with
  | zero => rfl
  | succ i ih => rw [sch, sch, ih, nx_take]
theorem comp_take (hv : List (BitVec 32)) (s : Str) : comp hv (s.take 64) = comp hv s := by
  have : ∀ i, rn hv (s.take 64) i = rn hv s i := by
    intro i; induction i with
    | zero => rfl
    | succ i ih => rw [rn, rn, ih, sch_take]
  unfold comp; rw [this]
end Go.Proofs.YtjhgkcbhllomaaaDoor.V.M
end

section
/- The sum of a text, computed in both ways. -/
namespace Go.Proofs.YtjhgkcbhllomaaaDoor.V.M
open Go Go.RowKit
def padS (s : Str) : Str := s ++ List.replicate ((120 - s.length % 64) % 64) 0
theorem padS_next (s : Str) (h : s.length % 64 ≠ 56) : padS (s ++ [0]) = padS s := by
  unfold padS
  rw [List.length_append, List.append_assoc, show ([0] : Str) = List.replicate 1 0 from rfl, List.replicate_append_replicate, List.length_replicate]
  congr 2; omega
theorem padS_end (s : Str) (h : s.length % 64 = 56) : padS s = s := by
  unfold padS; rw [h]; simp
theorem padS_len (s : Str) : (padS s).length % 64 = 56 ∧ (padS s).length ≤ s.length + 63 ∧ s.length ≤ (padS s).length := by
  unfold padS; rw [List.length_append, List.length_replicate]; omega
theorem tm64 (n : Nat) : ((((n : Int).tmod 64) != 56) = true) ↔ n % 64 ≠ 56 := by
  rw [Int.tmod_eq_emod_of_nonneg (Int.natCast_nonneg _)]; simp; omega
theorem l6_ok (t : Str) (m : Nat) : ∀ s : Str, s.length + (120 - s.length % 64) % 64 ≤ 9223372036854775807 → (120 - s.length % 64) % 64 < m → f_digest_Sum_l6 t m s = some (padS s) := by
  induction m with
  | zero => intro s _ h; omega
  | succ m ih =>
    intro s h hm
    rw [f_digest_Sum_l6]
    by_cases c : s.length % 64 = 56
    · rw [if_neg (by rw [tm64]; omega), padS_end s c]
    · rw [if_pos (by rw [tm64]; omega), gd_t _ (by omega), ih _ (by rw [List.length_append]; show _ + 1 + (120 - (_ + 1) % 64) % 64 ≤ _; omega) (by rw [List.length_append]; show (120 - (_ + 1) % 64) % 64 < _; omega), padS_next s c]
theorem map_bn0 (s : Str) : s.map bn ++ ([0] : List Int) = (s ++ [0]).map bn := by rw [List.map_append]; rfl
theorem r6_ok (t : Str) (m : Nat) : ∀ s : Str, s.length + (120 - s.length % 64) % 64 ≤ 140737488355328 → (120 - s.length % 64) % 64 < m → f_ref02_Sum_l6 t m (s.map bn) = some ((padS s).map bn) := by
  induction m with
  | zero => intro s _ h; omega
  | succ m ih =>
    intro s h hm
    rw [f_ref02_Sum_l6, List.length_map]
    by_cases c : s.length % 64 = 56
    · rw [if_neg (by rw [tm64]; omega), padS_end s c]
    · rw [if_pos (by rw [tm64]; omega), gd_t _ (by omega), map_bn0, ih _ (by rw [List.length_append]; show _ + 1 + (120 - (_ + 1) % 64) % 64 ≤ _; omega) (by rw [List.length_append]; show (120 - (_ + 1) % 64) % 64 < _; omega), padS_next s c]
def byt (T j : Nat) : UInt8 := UInt8.ofNat (T / 2 ^ (8 * j))
def lbs (T : Nat) : Str := [byt T 7, byt T 6, byt T 5, byt T 4, byt T 3, byt T 2, byt T 1, byt T 0]
def Tb (n : Nat) : Nat := n * 8 % 18446744073709551616
theorem T_ok (n : Nat) (h : n ≤ 140737488355328) : IntKind.u64.wrap ((IntKind.u64.wrap (n : Int)) * 8) = (Tb n : Int) := by
  rw [w_u64 (n := (n : Int)) (by omega) (by omega), w_u64 (by omega) (by omega)]; unfold Tb; omega
theorem pow_c (n : Nat) : (2 : Int) ^ n = ((2 ^ n : Nat) : Int) := by rw [Int.natCast_pow]; rfl
theorem nb_mod (n : Nat) : nb (((n % 256 : Nat)) : Int) = UInt8.ofNat n := by
  unfold nb; rw [Int.toNat_natCast]; apply UInt8.toNat_inj.mp; rw [UInt8.toNat_ofNat', UInt8.toNat_ofNat', Nat.mod_mod]
theorem byt_f (T j : Nat) (hj : j < 8) : nb (IntKind.u8.wrap ((T : Int).fdiv (2 ^ (min (IntKind.i64.wrap (8 * (j : Int))).toNat IntKind.u64.bits)))) = byt T j := by
  rw [w_i64 (by omega) (by omega), show min (8 * (j : Int)).toNat IntKind.u64.bits = 8 * j from by show min _ 64 = _; omega, pow_c, Int.fdiv_eq_ediv_of_nonneg _ (Int.natCast_nonneg _), w_u8, ← Int.natCast_ediv]
  exact nb_mod _
theorem l11_step (t s : Str) (m : Nat) (s2 : Str) (j : Nat) (hj : j < 8) (ht : t.length ≤ 140737488355328) (h : s2.length + 1 ≤ 9223372036854775807) :
    f_digest_Sum_l11 t s (m + 1) s2 (j : Int) = f_digest_Sum_l11 t s m (s2 ++ [byt (Tb t.length) j]) ((j : Int) - 1) := by
  rw [f_digest_Sum_l11, if_pos (decide_eq_true (by omega)), gd_t _ (by rw [w_i64 (by omega) (by omega)]; omega), gd_t _ h, Option.bind_some, T_ok _ ht, w_i64 (n := (j : Int) - 1) (by omega) (by omega), List.map_cons, byt_f _ _ hj]; rfl
theorem l11_ok (t s : Str) (ht : t.length ≤ 140737488355328) (h : s.length + 8 ≤ 9223372036854775807) : f_digest_Sum_l11 t s (((7 : Int) - 0).toNat + 2) s 7 = some (s ++ lbs (Tb t.length), -1) := by
  show f_digest_Sum_l11 t s (8 + 1) s ((7 : Nat) : Int) = _
  rw [l11_step t s _ _ _ (by decide) ht (by omega), show ((7 : Nat) : Int) - 1 = ((6 : Nat) : Int) from rfl, l11_step t s _ _ _ (by decide) ht (by simp; omega), show ((6 : Nat) : Int) - 1 = ((5 : Nat) : Int) from rfl,
    l11_step t s _ _ _ (by decide) ht (by simp; omega), show ((5 : Nat) : Int) - 1 = ((4 : Nat) : Int) from rfl, l11_step t s _ _ _ (by decide) ht (by simp; omega), show ((4 : Nat) : Int) - 1 = ((3 : Nat) : Int) from rfl,
    l11_step t s _ _ _ (by decide) ht (by simp; omega), show ((3 : Nat) : Int) - 1 = ((2 : Nat) : Int) from rfl, l11_step t s _ _ _ (by decide) ht (by simp; omega), show ((2 : Nat) : Int) - 1 = ((1 : Nat) : Int) from rfl,
    l11_step t s _ _ _ (by decide) ht (by simp; omega), show ((1 : Nat) : Int) - 1 = ((0 : Nat) : Int) from rfl, l11_step t s _ _ _ (by decide) ht (by simp; omega), show ((0 : Nat) : Int) - 1 = -1 from rfl]
  rw [f_digest_Sum_l11, if_neg (by decide)]
  simp only [List.append_assoc, List.cons_append, List.nil_append]; rfl
theorem byt_t (T j : Nat) (hT : T < 18446744073709551616) : IntKind.u8.wrap ((IntKind.u64.wrap ((T : Int).tdiv ((2 ^ (8 * j) : Nat) : Int))).tmod 256) = bn (byt T j) := by
  rw [Int.tdiv_eq_ediv_of_nonneg (Int.natCast_nonneg _), ← Int.natCast_ediv, w_u64 (Int.natCast_nonneg _) (by have := Nat.div_le_self T (2 ^ (8 * j)); omega), Int.tmod_eq_emod_of_nonneg (Int.natCast_nonneg _), w_u8]
  unfold bn byt; rw [UInt8.toNat_ofNat']; omega
theorem r13_step (s : Str) (m : Nat) (p q i j : Int) (k : Nat) (b : Str) (hp : p = ((2 ^ (8 * k) : Nat) : Int)) (hq : IntKind.u64.wrap (p.tdiv 256) = q) (hi : i < 8) (hj : IntKind.i64.wrap (i + 1) = j) (hs : s.length ≤ 140737488355328) (h : b.length + 1 ≤ 140737488355328) :
    f_ref02_Sum_l13 s (m + 1) p i (b.map bn) = f_ref02_Sum_l13 s m q j ((b ++ [byt (Tb s.length) k]).map bn) := by
  have hp0 : p ≠ 0 := by have := Nat.pow_pos (n := 8 * k) (show 0 < 2 by decide); omega
  rw [f_ref02_Sum_l13, if_pos (decide_eq_true hi), gd_t _ hp0, gd_t _ (by simpa using h), T_ok _ hs, hq, hj]; subst hp
  rw [byt_t _ _ (by unfold Tb; omega), List.map_append]; rfl
theorem r13_ok (s b : Str) (hs : s.length ≤ 140737488355328) (h : b.length + 8 ≤ 140737488355328) : f_ref02_Sum_l13 s (((8 : Int) - 0).toNat + 1) 72057594037927936 0 (b.map bn) = some (0, 8, (b ++ lbs (Tb s.length)).map bn) := by
  show f_ref02_Sum_l13 s (8 + 1) 72057594037927936 0 (b.map bn) = _
  rw [r13_step s _ _ 281474976710656 _ 1 7 _ (by decide) (by decide) (by decide) (by decide) hs (by omega), r13_step s _ _ 1099511627776 _ 2 6 _ (by decide) (by decide) (by decide) (by decide) hs (by simp; omega),
    r13_step s _ _ 4294967296 _ 3 5 _ (by decide) (by decide) (by decide) (by decide) hs (by simp; omega), r13_step s _ _ 16777216 _ 4 4 _ (by decide) (by decide) (by decide) (by decide) hs (by simp; omega),
    r13_step s _ _ 65536 _ 5 3 _ (by decide) (by decide) (by decide) (by decide) hs (by simp; omega), r13_step s _ _ 256 _ 6 2 _ (by decide) (by decide) (by decide) (by decide) hs (by simp; omega),
    r13_step s _ _ 1 _ 7 1 _ (by decide) (by decide) (by decide) (by decide) hs (by simp; omega), r13_step s _ _ 0 _ 8 0 _ (by decide) (by decide) (by decide) (by decide) hs (by simp; omega)]
  rw [f_ref02_Sum_l13, if_neg (by decide)]
  simp only [List.append_assoc, List.cons_append, List.nil_append]; rfl
end Go.Proofs.YtjhgkcbhllomaaaDoor.V.M
end

section
/- The sum of a text, computed in both ways: the blocks, and what is handed back. -/
namespace Go.Proofs.YtjhgkcbhllomaaaDoor.V.M
open Go Go.RowKit
def bl : Nat → List (BitVec 32) → Str → List (BitVec 32)
  | 0, hv, _ => hv
  | k + 1, hv, s => bl k (comp hv s) (s.drop 64)
theorem bl_len (k : Nat) : ∀ hv s, hv.length = 8 → (bl k hv s).length = 8 := by
  induction k with
  | zero => intro hv s h; exact h
  | succ k ih => intro hv s h; exact ih _ _ (comp_len hv s h)
theorem l16_ok (s : Str) (k : Nat) : ∀ (m : Nat) (hv : List (BitVec 32)) (s3 : Str), s3.length = 64 * k → s3.length < 9223372036854775808 → k < m → hv.length = 8 → f_digest_Sum_l16 s m s3 (hv.map B) = some ([], (bl k hv s3).map B) := by
  induction k with
  | zero =>
    intro m hv s3 h _ hm h8
    obtain ⟨m, rfl⟩ : ∃ m', m = m' + 1 := ⟨m - 1, by omega⟩
    obtain rfl : s3 = [] := List.length_eq_zero_iff.mp (by omega)
    rw [f_digest_Sum_l16, if_neg (by simp)]; rfl
  | succ k ih =>
    intro m hv s3 h hb hm h8
    obtain ⟨m, rfl⟩ : ∃ m', m = m' + 1 := ⟨m - 1, by omega⟩
    have ne : s3 ≠ [] := by intro e; subst e; simp at h
    have c : cut s3 64 (s3.length : Int) = s3.drop 64 := cut_all s3 64
    rw [f_digest_Sum_l16, if_pos (by simpa using ne), gd_t _ (by simpa using h8), over_ok hv s3 h8 (by omega) hb, Option.bind_some, gd_t _ (by simpa using h8), gd_t _ (by simpa using comp_len hv s3 h8), gd_t _ (by omega), c]
    rw [ih m (comp hv s3) (s3.drop 64) (by rw [List.length_drop]; omega) (by rw [List.length_drop]; omega) (by omega) (comp_len hv s3 h8)]; rfl
theorem nb_bn (s : Str) : (s.map bn).map nb = s := by
  rw [List.map_map]
  have : nb ∘ bn = id := by funext c; simp [nb, bn]
  rw [this, List.map_id]
theorem r20_ok (s b : Str) (k : Nat) : ∀ (m a : Nat) (hv : List (BitVec 32)), b.length = a + 64 * k → b.length < 9223372036854775808 → k < m → hv.length = 8 →
    f_ref02_Sum_l20 s g_digest_keys m (b.map bn) (a : Int) (hv.map B) = some (b.map bn, (b.length : Int), (bl k hv (b.drop a)).map B) := by
  induction k with
  | zero =>
    intro m a hv h _ hm h8
    obtain ⟨m, rfl⟩ : ∃ m', m = m' + 1 := ⟨m - 1, by omega⟩
    rw [f_ref02_Sum_l20, if_neg (by simp; omega), show a = b.length from by omega]; rfl
  | succ k ih =>
    intro m a hv h hb hm h8
    obtain ⟨m, rfl⟩ : ∃ m', m = m' + 1 := ⟨m - 1, by omega⟩
    have e : IntKind.i64.wrap ((a : Int) + 64) = ((a + 64 : Nat) : Int) := by rw [w_i64 (by omega) (by omega)]; omega
    have c : (cut (b.map bn) (a : Int) ((a + 64 : Nat) : Int)).map nb = (b.drop a).take 64 := by
      unfold cut
      rw [Int.toNat_natCast, Int.toNat_natCast, ← List.map_take, ← List.map_drop, nb_bn, List.drop_take]; congr 1; omega
    rw [f_ref02_Sum_l20, if_pos (by simp; omega), e, gd_t _ (by simp; omega), c, Block_ok hv _ h8 (by rw [List.length_take, List.length_drop]; omega), Option.bind_some, comp_take]
    rw [ih m (a + 64) (comp hv (b.drop a)) (by omega) hb (by omega) (comp_len hv _ h8)]
    rw [bl, List.drop_drop]
def o4 (x : Int) : List Int := [(IntKind.u8.wrap (x.fdiv (2 ^ (min 24 IntKind.u32.bits)))), (IntKind.u8.wrap (x.fdiv (2 ^ (min 16 IntKind.u32.bits)))), (IntKind.u8.wrap (x.fdiv (2 ^ (min 8 IntKind.u32.bits)))), (IntKind.u8.wrap x)]
def p4 (x : Int) : List Int := [(IntKind.u8.wrap (IntKind.u32.wrap (x.tdiv 16777216))), (IntKind.u8.wrap ((IntKind.u32.wrap (x.tdiv 65536)).tmod 256)), (IntKind.u8.wrap ((IntKind.u32.wrap (x.tdiv 256)).tmod 256)), (IntKind.u8.wrap (x.tmod 256))]
theorem m8 (y : BitVec 32) : IntKind.u8.wrap ((B y).tmod 256) = IntKind.u8.wrap (B y) := by
  have := B_lt y
  rw [Int.tmod_eq_emod_of_nonneg this.1, w_u8, w_u8]; omega
theorem p4_eq (x : BitVec 32) : p4 (B x) = o4 (B x) := by
  unfold p4 o4
  rw [divB x 24 16777216 rfl, divB x 16 65536 rfl, divB x 8 256 rfl, m8, m8, m8, mn24, mn16, mn8, shr_B, shr_B, shr_B]
theorem l23_ok (s : Str) (s3 : Str × List Int) (a : List (BitVec 32)) (ha : a.length = 8) (hs : s3.2 = a.map B) :
    f_digest_Sum_l23 s s3 (((8 : Int) - 0).toNat + 1) 0 [] = some (8, (a.map B).flatMap o4) := by
  obtain ⟨t, u⟩ := s3
  dsimp only at hs; subst hs
  obtain ⟨a0, a1, a2, a3, a4, a5, a6, a7, rfl⟩ := len8 a ha
  kernel_rfl
theorem r27_ok (s : Str) (s4 : List Int × Int × List Int) (a : List (BitVec 32)) (ha : a.length = 8) (hs : s4.2.2 = a.map B) :
    f_ref02_Sum_l27 s s4 ((((s4.2.2.length : Int) : Int) - 0).toNat + 1) 0 [] = some (8, (a.map B).flatMap o4) := by
  obtain ⟨t, t2, u⟩ := s4
  dsimp only at hs; subst hs
  obtain ⟨a0, a1, a2, a3, a4, a5, a6, a7, rfl⟩ := len8 a ha
  have : f_ref02_Sum_l27 s (t, t2, [a0, a1, a2, a3, a4, a5, a6, a7].map B) ((((([a0, a1, a2, a3, a4, a5, a6, a7].map B).length : Int) : Int) - 0).toNat + 1) 0 [] = some (8, ([a0, a1, a2, a3, a4, a5, a6, a7].map B).flatMap p4) := by kernel_rfl
  rw [this]
  simp only [List.map_cons, List.map_nil, List.flatMap_cons, List.flatMap_nil, p4_eq]
def firstB : List (BitVec 32) := [1779033703#32, 3144134277#32, 1013904242#32, 2773480762#32, 1359893119#32, 2600822924#32, 528734635#32, 1541459225#32]
def full (s : Str) : Str := padS (s ++ [128]) ++ lbs (Tb s.length)
def sumS (s : Str) : Str := ((((bl ((full s).length / 64) firstB (full s)).map B).flatMap o4)).map nb
theorem full_len (s : Str) : (full s).length = 64 * ((full s).length / 64) ∧ (full s).length ≤ s.length + 72 ∧ (full s).length = (padS (s ++ [128])).length + 8 := by
  have := padS_len (s ++ [128])
  unfold full
  rw [List.length_append] at *
  have e : (lbs (Tb s.length)).length = 8 := rfl
  simp only [List.length_cons, List.length_nil] at *
  omega
theorem sum_len (s : Str) : (sumS s).length = 32 := by
  unfold sumS
  obtain ⟨a0, a1, a2, a3, a4, a5, a6, a7, e⟩ := len8 _ (bl_len ((full s).length / 64) firstB (full s) rfl)
  rw [e]; rfl
theorem refSum_ok (s : Str) (h : s.length + 100 ≤ 140737488355328) : f_ref02_Sum s = some (sumS s) := by
  have fl := full_len s
  have pl := padS_len (s ++ [128])
  simp only [List.length_append, List.length_cons, List.length_nil] at pl
  have q1 := r6_ok s 64 (s ++ [128]) (by simp; omega) (by omega)
  have q2 := r13_ok s (padS (s ++ [128])) (by omega) (by omega)
  have q3 := r20_ok s (full s) ((full s).length / 64) ((((((full s).map bn).length : Int) : Int) - 0).toNat + 1) 0 firstB (by omega) (by omega) (by simp; omega) rfl
  have q4 := r27_ok s ((full s).map bn, ((full s).length : Int), (bl ((full s).length / 64) firstB (full s)).map B) _ (bl_len _ _ _ rfl) rfl
  have e : (s.map bn) ++ ([128] : List Int) = (s ++ [128]).map bn := by rw [List.map_append]; rfl
  unfold f_ref02_Sum
  rw [gd_t _ (by omega), e, q1, Option.bind_some, q2, Option.bind_some, show f_ref02_First = some (firstB.map B) from by kernel_rfl, Option.bind_some, show f_ref02_Keys = some g_digest_keys from rfl, Option.bind_some]
  dsimp only
  rw [show padS (s ++ [128]) ++ lbs (Tb s.length) = full s from rfl]
  rw [show ((0 : Nat) : Int) = 0 from rfl] at q3
  rw [q3, Option.bind_some, List.drop_zero, q4, Option.bind_some]; rfl
theorem digestSum_ok (parts : List Str) (hp : parts.length ≤ 140737488355328) (h : (Lib.join parts []).length + 100 ≤ 140737488355328) : f_digest_Sum parts = some (sumS (Lib.join parts [])) := by
  generalize e : Lib.join parts [] = s at h
  have fl := full_len s
  have pl := padS_len (s ++ [128])
  simp only [List.length_append, List.length_cons, List.length_nil] at pl
  have q1 := l6_ok s 65 (s ++ [128]) (by simp; omega) (by omega)
  have q2 := l11_ok s (padS (s ++ [128])) (by omega) (by omega)
  have q3 := l16_ok (padS (s ++ [128])) ((full s).length / 64) ((padS (s ++ [128])).length + 1) firstB (full s) (by omega) (by omega) (by omega) rfl
  have g8 : ((bl ((full s).length / 64) firstB (full s)).map B).length = 8 := by rw [List.length_map]; exact bl_len _ _ _ rfl
  have q4 := l23_ok (padS (s ++ [128])) ([], (bl ((full s).length / 64) firstB (full s)).map B) _ (bl_len _ _ _ rfl) rfl
  unfold f_digest_Sum f_strings_Join
  rw [gd_t _ (by rw [e]; omega), e, Option.bind_some, gd_t _ (by omega), q1, Option.bind_some, q2, Option.bind_some, show f_digest_begins = some (firstB.map B) from by kernel_rfl, Option.bind_some, gd_t (p := (firstB.map B).length = 8) _ rfl]
  dsimp only
  rw [show padS (s ++ [128]) ++ lbs (Tb s.length) = full s from rfl]
  rw [q3, Option.bind_some]
  dsimp only
  rw [gd_t _ g8, q4, Option.bind_some]; rfl
end Go.Proofs.YtjhgkcbhllomaaaDoor.V.M
end

section
/- Roots, by evaluation. -/
namespace Go.Proofs.YtjhgkcbhllomaaaDoor.V.M
open Go Go.RowKit
theorem root3_2 : f_ref02_root 2 3 = some 1116352408 := by kernel_rfl
theorem root3_17 : f_ref02_root 17 3 = some 2453635748 := by kernel_rfl
theorem root3_41 : f_ref02_root 41 3 = some 1925078388 := by kernel_rfl
theorem root3_67 : f_ref02_root 67 3 = some 264347078 := by kernel_rfl
theorem root3_97 : f_ref02_root 97 3 = some 2554220882 := by kernel_rfl
theorem root3_127 : f_ref02_root 127 3 = some 113926993 := by kernel_rfl
theorem root3_157 : f_ref02_root 157 3 = some 1695183700 := by kernel_rfl
theorem root3_191 : f_ref02_root 191 3 = some 3259730800 := by kernel_rfl
theorem root3_227 : f_ref02_root 227 3 = some 430227734 := by kernel_rfl
theorem root3_257 : f_ref02_root 257 3 = some 1537002063 := by kernel_rfl
theorem root3_283 : f_ref02_root 283 3 = some 2428436474 := by kernel_rfl
theorem root2_5 : f_ref02_root 5 2 = some 1013904242 := by kernel_rfl
end Go.Proofs.YtjhgkcbhllomaaaDoor.V.M
end

section
/- Roots, by evaluation. -/
namespace Go.Proofs.YtjhgkcbhllomaaaDoor.V.M
open Go Go.RowKit
theorem root3_3 : f_ref02_root 3 3 = some 1899447441 := by kernel_rfl
theorem root3_19 : f_ref02_root 19 3 = some 2870763221 := by kernel_rfl
theorem root3_43 : f_ref02_root 43 3 = some 2162078206 := by kernel_rfl
theorem root3_71 : f_ref02_root 71 3 = some 604807628 := by kernel_rfl
theorem root3_101 : f_ref02_root 101 3 = some 2821834349 := by kernel_rfl
theorem root3_131 : f_ref02_root 131 3 = some 338241895 := by kernel_rfl
theorem root3_163 : f_ref02_root 163 3 = some 1986661051 := by kernel_rfl
theorem root3_193 : f_ref02_root 193 3 = some 3345764771 := by kernel_rfl
theorem root3_229 : f_ref02_root 229 3 = some 506948616 := by kernel_rfl
theorem root3_263 : f_ref02_root 263 3 = some 1747873779 := by kernel_rfl
theorem root3_293 : f_ref02_root 293 3 = some 2756734187 := by kernel_rfl
theorem root2_7 : f_ref02_root 7 2 = some 2773480762 := by kernel_rfl
end Go.Proofs.YtjhgkcbhllomaaaDoor.V.M
end

section
/- Roots, by evaluation. -/
namespace Go.Proofs.YtjhgkcbhllomaaaDoor.V.M
open Go Go.RowKit
theorem root3_5 : f_ref02_root 5 3 = some 3049323471 := by kernel_rfl
theorem root3_23 : f_ref02_root 23 3 = some 3624381080 := by kernel_rfl
theorem root3_47 : f_ref02_root 47 3 = some 2614888103 := by kernel_rfl
theorem root3_73 : f_ref02_root 73 3 = some 770255983 := by kernel_rfl
theorem root3_103 : f_ref02_root 103 3 = some 2952996808 := by kernel_rfl
theorem root3_137 : f_ref02_root 137 3 = some 666307205 := by kernel_rfl
theorem root3_167 : f_ref02_root 167 3 = some 2177026350 := by kernel_rfl
theorem root3_197 : f_ref02_root 197 3 = some 3516065817 := by kernel_rfl
theorem root3_233 : f_ref02_root 233 3 = some 659060556 := by kernel_rfl
theorem root3_269 : f_ref02_root 269 3 = some 1955562222 := by kernel_rfl
theorem root3_307 : f_ref02_root 307 3 = some 3204031479 := by kernel_rfl
theorem root2_11 : f_ref02_root 11 2 = some 1359893119 := by kernel_rfl
end Go.Proofs.YtjhgkcbhllomaaaDoor.V.M
end

section
/- Roots, by evaluation. -/
namespace Go.Proofs.YtjhgkcbhllomaaaDoor.V.M
open Go Go.RowKit
theorem root3_7 : f_ref02_root 7 3 = some 3921009573 := by kernel_rfl
theorem root3_29 : f_ref02_root 29 3 = some 310598401 := by kernel_rfl
theorem root3_53 : f_ref02_root 53 3 = some 3248222580 := by kernel_rfl
theorem root3_79 : f_ref02_root 79 3 = some 1249150122 := by kernel_rfl
theorem root3_107 : f_ref02_root 107 3 = some 3210313671 := by kernel_rfl
theorem root3_139 : f_ref02_root 139 3 = some 773529912 := by kernel_rfl
theorem root3_173 : f_ref02_root 173 3 = some 2456956037 := by kernel_rfl
theorem root3_199 : f_ref02_root 199 3 = some 3600352804 := by kernel_rfl
theorem root3_239 : f_ref02_root 239 3 = some 883997877 := by kernel_rfl
theorem root3_271 : f_ref02_root 271 3 = some 2024104815 := by kernel_rfl
theorem root3_311 : f_ref02_root 311 3 = some 3329325298 := by kernel_rfl
theorem root2_13 : f_ref02_root 13 2 = some 2600822924 := by kernel_rfl
end Go.Proofs.YtjhgkcbhllomaaaDoor.V.M
end

section
/- Roots, by evaluation. -/
namespace Go.Proofs.YtjhgkcbhllomaaaDoor.V.M
open Go Go.RowKit
theorem root3_11 : f_ref02_root 11 3 = some 961987163 := by kernel_rfl
theorem root3_31 : f_ref02_root 31 3 = some 607225278 := by kernel_rfl
theorem root3_59 : f_ref02_root 59 3 = some 3835390401 := by kernel_rfl
theorem root3_83 : f_ref02_root 83 3 = some 1555081692 := by kernel_rfl
theorem root3_109 : f_ref02_root 109 3 = some 3336571891 := by kernel_rfl
theorem root3_149 : f_ref02_root 149 3 = some 1294757372 := by kernel_rfl
theorem root3_179 : f_ref02_root 179 3 = some 2730485921 := by kernel_rfl
theorem root3_211 : f_ref02_root 211 3 = some 4094571909 := by kernel_rfl
theorem root3_241 : f_ref02_root 241 3 = some 958139571 := by kernel_rfl
theorem root3_277 : f_ref02_root 277 3 = some 2227730452 := by kernel_rfl
theorem root2_2 : f_ref02_root 2 2 = some 1779033703 := by kernel_rfl
theorem root2_17 : f_ref02_root 17 2 = some 528734635 := by kernel_rfl
end Go.Proofs.YtjhgkcbhllomaaaDoor.V.M
end

section
/- Roots, by evaluation. -/
namespace Go.Proofs.YtjhgkcbhllomaaaDoor.V.M
open Go Go.RowKit
theorem root3_13 : f_ref02_root 13 3 = some 1508970993 := by kernel_rfl
theorem root3_37 : f_ref02_root 37 3 = some 1426881987 := by kernel_rfl
theorem root3_61 : f_ref02_root 61 3 = some 4022224774 := by kernel_rfl
theorem root3_89 : f_ref02_root 89 3 = some 1996064986 := by kernel_rfl
theorem root3_113 : f_ref02_root 113 3 = some 3584528711 := by kernel_rfl
theorem root3_151 : f_ref02_root 151 3 = some 1396182291 := by kernel_rfl
theorem root3_181 : f_ref02_root 181 3 = some 2820302411 := by kernel_rfl
theorem root3_223 : f_ref02_root 223 3 = some 275423344 := by kernel_rfl
theorem root3_251 : f_ref02_root 251 3 = some 1322822218 := by kernel_rfl
theorem root3_281 : f_ref02_root 281 3 = some 2361852424 := by kernel_rfl
theorem root2_3 : f_ref02_root 3 2 = some 3144134277 := by kernel_rfl
theorem root2_19 : f_ref02_root 19 2 = some 1541459225 := by kernel_rfl
end Go.Proofs.YtjhgkcbhllomaaaDoor.V.M
end

section
/- Roots, by evaluation. -/
namespace Go.Proofs.YtjhgkcbhllomaaaDoor.V.M
open Go Go.RowKit
inductive All2 (R : Int → Int → Prop) : List Int → List Int → Prop
  | nil : All2 R [] []
  | cons {a b : Int} {l m : List Int} : R a b → All2 R l m → All2 R (a :: l) (b :: m)
def prims (n : Nat) : List Int := ([2, 3, 5, 7, 11, 13, 17, 19, 23, 29, 31, 37, 41, 43, 47, 53, 59, 61, 67, 71, 73, 79, 83, 89, 97, 101, 103, 107, 109, 113, 127, 131, 137, 139, 149, 151, 157, 163, 167, 173, 179, 181, 191, 193, 197, 199, 211, 223, 227, 229, 233, 239, 241, 251, 257, 263, 269, 271, 277, 281, 283, 293, 307, 311] : List Int).take n
theorem primes64 : f_ref02_primes 64 = some (prims 64) := by kernel_rfl
theorem primes8 : f_ref02_primes 8 = some (prims 8) := by kernel_rfl
def kys : List Int := [1116352408, 1899447441, 3049323471, 3921009573, 961987163, 1508970993, 2453635748, 2870763221, 3624381080, 310598401, 607225278, 1426881987, 1925078388, 2162078206, 2614888103, 3248222580, 3835390401, 4022224774, 264347078, 604807628, 770255983, 1249150122, 1555081692, 1996064986, 2554220882, 2821834349, 2952996808, 3210313671, 3336571891, 3584528711, 113926993, 338241895, 666307205, 773529912, 1294757372, 1396182291, 1695183700, 1986661051, 2177026350, 2456956037, 2730485921, 2820302411, 3259730800, 3345764771, 3516065817, 3600352804, 4094571909, 275423344, 430227734, 506948616, 659060556, 883997877, 958139571, 1322822218, 1537002063, 1747873779, 1955562222, 2024104815, 2227730452, 2361852424, 2428436474, 2756734187, 3204031479, 3329325298]
def fst8 : List Int := [1779033703, 3144134277, 1013904242, 2773480762, 1359893119, 2600822924, 528734635, 1541459225]
theorem all64 : All2 (fun x y => f_ref02_root x 3 = some y) (prims 64) kys := (.cons root3_2 (.cons root3_3 (.cons root3_5 (.cons root3_7 (.cons root3_11 (.cons root3_13 (.cons root3_17 (.cons root3_19 (.cons root3_23 (.cons root3_29 (.cons root3_31 (.cons root3_37 (.cons root3_41 (.cons root3_43 (.cons root3_47 (.cons root3_53 (.cons root3_59 (.cons root3_61 (.cons root3_67 (.cons root3_71 (.cons root3_73 (.cons root3_79 (.cons root3_83 (.cons root3_89 (.cons root3_97 (.cons root3_101 (.cons root3_103 (.cons root3_107 (.cons root3_109 (.cons root3_113 (.cons root3_127 (.cons root3_131 (.cons root3_137 (.cons root3_139 (.cons root3_149 (.cons root3_151 (.cons root3_157 (.cons root3_163 (.cons root3_167 (.cons root3_173 (.cons root3_179 (.cons root3_181 (.cons root3_191 (.cons root3_193 (.cons root3_197 (.cons root3_199 (.cons root3_211 (.cons root3_223 (.cons root3_227 (.cons root3_229 (.cons root3_233 (.cons root3_239 (.cons root3_241 (.cons root3_251 (.cons root3_257 (.cons root3_263 (.cons root3_269 (.cons root3_271 (.cons root3_277 (.cons root3_281 (.cons root3_283 (.cons root3_293 (.cons root3_307 (.cons root3_311 .nil))))))))))))))))))))))))))))))))))))))))))))))))))))))))))))))))
theorem all8 : All2 (fun x y => f_ref02_root x 2 = some y) (prims 8) fst8 := (.cons root2_2 (.cons root2_3 (.cons root2_5 (.cons root2_7 (.cons root2_11 (.cons root2_13 (.cons root2_17 (.cons root2_19 .nil))))))))
theorem Roots_l7 (ps rs : List Int) (h : All2 (fun x y => f_ref02_root x 3 = some y) ps rs) : ∀ (pre rp : List Int), (pre ++ ps).length ≤ 1000 → rp.length = pre.length →
    f_ref02_Roots_l7 (pre ++ ps) (ps.length + 1) (pre.length : Int) rp = some (((pre ++ ps).length : Int), rp ++ rs) := by
  induction h with
  | nil => intro pre rp _ _; rw [f_ref02_Roots_l7, if_neg (by simp), List.append_nil, List.append_nil]
  | @cons a b l m hr _ ih =>
    intro pre rp hl hp
    have e : IntKind.i64.wrap ((pre.length : Int) + 1) = ((pre ++ [a]).length : Int) := by rw [List.length_append] at *; rw [w_i64 (by omega) (by omega)]; rfl
    have x : ix (pre ++ a :: l) (pre.length : Int) = some a := by rw [ix_nat, List.getElem?_append_right (Nat.le_refl _)]; simp
    have g : (rp.length + 1) * 4 ≤ 140737488355328 := by rw [List.length_append] at hl; omega
    rw [List.length_cons, f_ref02_Roots_l7, if_pos (decide_eq_true (by simp; omega)), x, Option.bind_some, hr, Option.bind_some, gd_t _ g, e]
    have := ih (pre ++ [a]) (rp ++ [b]) (by simpa using hl) (by simp [hp])
    rw [List.append_assoc, List.append_assoc] at this
    exact this
theorem Begins_l7 (ps rs : List Int) (h : All2 (fun x y => f_ref02_root x 2 = some y) ps rs) : ∀ (pre rp : List Int), (pre ++ ps).length ≤ 1000 → rp.length = pre.length →
    f_ref02_Begins_l7 (pre ++ ps) (ps.length + 1) (pre.length : Int) rp = some (((pre ++ ps).length : Int), rp ++ rs) := by
  induction h with
  | nil => intro pre rp _ _; rw [f_ref02_Begins_l7, if_neg (by simp), List.append_nil, List.append_nil]
  | @cons a b l m hr _ ih =>
    intro pre rp hl hp
    have e : IntKind.i64.wrap ((pre.length : Int) + 1) = ((pre ++ [a]).length : Int) := by rw [List.length_append] at *; rw [w_i64 (by omega) (by omega)]; rfl
    have x : ix (pre ++ a :: l) (pre.length : Int) = some a := by rw [ix_nat, List.getElem?_append_right (Nat.le_refl _)]; simp
    have g : (rp.length + 1) * 4 ≤ 140737488355328 := by rw [List.length_append] at hl; omega
    rw [List.length_cons, f_ref02_Begins_l7, if_pos (decide_eq_true (by simp; omega)), x, Option.bind_some, hr, Option.bind_some, gd_t _ g, e]
    have := ih (pre ++ [a]) (rp ++ [b]) (by simpa using hl) (by simp [hp])
    rw [List.append_assoc, List.append_assoc] at this
    exact this
theorem roots_ok : f_ref02_Roots = some kys := by
  have q := Roots_l7 (prims 64) kys all64 [] [] (Nat.le_of_ble_eq_true (by kernel_rfl)) rfl
  unfold f_ref02_Roots
  rw [primes64, Option.bind_some]
  have e : (((((prims 64).length : Int) : Int) - 0).toNat + 1) = (prims 64).length + 1 := by kernel_rfl
  rw [e, show (0 : Int) = (([] : List Int).length : Int) from rfl, show (prims 64) = [] ++ prims 64 from rfl]
  rw [show [] ++ prims 64 = prims 64 from rfl] at *
  rw [q, Option.bind_some]; rfl
theorem begins_ok : f_ref02_Begins = some fst8 := by
  have q := Begins_l7 (prims 8) fst8 all8 [] [] (Nat.le_of_ble_eq_true (by kernel_rfl)) rfl
  unfold f_ref02_Begins
  rw [primes8, Option.bind_some]
  have e : (((((prims 8).length : Int) : Int) - 0).toNat + 1) = (prims 8).length + 1 := by kernel_rfl
  rw [e, show (0 : Int) = (([] : List Int).length : Int) from rfl, show (prims 8) = [] ++ prims 8 from rfl]
  rw [show [] ++ prims 8 = prims 8 from rfl] at *
  rw [q, Option.bind_some]; rfl
theorem sameK : f_ref02_Same kys kys = some true := by kernel_rfl
theorem sameF : f_ref02_Same fst8 fst8 = some true := by kernel_rfl
theorem keys_ok : ((f_ref02_Keys).bind fun t7 => (f_ref02_Roots).bind fun t8 => f_ref02_Same t7 t8) = some true := by
  rw [roots_ok, show f_ref02_Keys = some kys from by kernel_rfl, Option.bind_some, Option.bind_some, sameK]
theorem first_ok : ((f_ref02_First).bind fun t7 => (f_ref02_Begins).bind fun t8 => f_ref02_Same t7 t8) = some true := by
  rw [begins_ok, show f_ref02_First = some fst8 from rfl, Option.bind_some, Option.bind_some, sameF]
end Go.Proofs.YtjhgkcbhllomaaaDoor.V.M
end

section
/- Hex, read and written, in both ways. -/
namespace Go.Proofs.YtjhgkcbhllomaaaDoor.V.M
open Go Go.RowKit
theorem bn_dig (n : Nat) (h : n < 16) : bn (dig n) = if n < 10 then 48 + (n : Int) else 97 + (n : Int) - 10 := by
  have : ∀ n : Fin 16, bn (dig n.val) = if n.val < 10 then 48 + (n.val : Int) else 97 + (n.val : Int) - 10 := by decide
  exact this ⟨n, h⟩
theorem h11_step (s : Str) (i : Int) (b : List Int) (c c2 : UInt8) (m : Nat) (j : Int) (b2 : List Int) (n : Nat) (hn : n < 16) (hj : 0 ≤ j ∧ j < 2)
    (hx : ix ([(IntKind.u8.wrap ((bn c).tdiv 16)), ((bn c2).tmod 16)] : List Int) j = some (n : Int)) (hb : (b2.length + 1) * 1 ≤ 140737488355328) :
    f_ref01_Hex_l11 s i b c c2 (m + 1) j b2 = f_ref01_Hex_l11 s i b c c2 m (j + 1) (b2 ++ [bn (dig n)]) := by
  rw [f_ref01_Hex_l11, if_pos (decide_eq_true hj.2), hx, Option.bind_some, w_i64 (n := j + 1) (by omega) (by omega), bn_dig n hn]
  by_cases d : n < 10
  · rw [if_pos (decide_eq_true (by omega)), gd_t _ hb, if_pos d, w_u8, show ((48 + (n : Int)) % 256) = 48 + n by omega]
  · rw [if_neg (by simp; omega), gd_t _ hb, if_neg d, w_u8, w_u8, show ((97 + (n : Int)) % 256 - 10) % 256 = 97 + (n : Int) - 10 by omega]
theorem h11_ok (s : Str) (i : Int) (b : List Int) (c : UInt8) (hb : b.length + 2 ≤ 140737488355328) :
    f_ref01_Hex_l11 s i b c c (((2 : Int) - 0).toNat + 1) 0 b = some (2, b ++ (hex2 c).map bn) := by
  have hc := c.toNat_lt
  have e0 : ix ([(IntKind.u8.wrap ((bn c).tdiv 16)), ((bn c).tmod 16)] : List Int) 0 = some ((c.toNat / 16 : Nat) : Int) := by
    show some _ = _; rw [w_u8]; unfold bn; rw [Int.tdiv_eq_ediv_of_nonneg (Int.natCast_nonneg _)]; congr 1; omega
  have e1 : ix ([(IntKind.u8.wrap ((bn c).tdiv 16)), ((bn c).tmod 16)] : List Int) (0 + 1) = some ((c.toNat % 16 : Nat) : Int) := by
    show some _ = _; unfold bn; rw [Int.tmod_eq_emod_of_nonneg (Int.natCast_nonneg _)]; rfl
  show f_ref01_Hex_l11 s i b c c (2 + 1) 0 b = _
  rw [h11_step s i b c c 2 0 b _ (by omega) (by decide) e0 (by omega), h11_step s i b c c 1 _ _ _ (by omega) (by decide) e1 (by simp; omega), f_ref01_Hex_l11, if_neg (by decide), List.append_assoc]; rfl
theorem h13_ok (s : Str) (hs : 2 * s.length ≤ 140737488355328) (k : Nat) : ∀ i : Nat, i + k = s.length → f_ref01_Hex_l13 s (k + 1) (i : Int) ((hexl (s.take i)).map bn) = some ((s.length : Int), (hexl s).map bn) := by
  induction k with
  | zero => intro i hi; obtain rfl : i = s.length := by omega
            rw [f_ref01_Hex_l13, if_neg (by simp), List.take_length]
  | succ k ih =>
    intro i hi
    have e : IntKind.i64.wrap ((i : Int) + 1) = ((i + 1 : Nat) : Int) := by rw [w_i64 (by omega) (by omega)]; omega
    have l : ((hexl (s.take i)).map bn).length + 2 ≤ 140737488355328 := by rw [List.length_map, hexl_length, List.length_take]; omega
    rw [f_ref01_Hex_l13, if_pos (decide_eq_true (by omega)), ix_lt s 0 i (by omega), Option.bind_some, Option.bind_some, h11_ok _ _ _ _ l, Option.bind_some, e]
    rw [← ih (i + 1) (by omega)]
    congr 1
    rw [← List.map_append]
    congr 1
    rw [List.take_add_one, hexl_append, List.getD_eq_getElem?_getD, List.getElem?_eq_getElem (by omega)]; simp [hexl]
theorem refHex_ok (s : Str) (hs : 2 * s.length ≤ 140737488355328) : f_ref01_Hex s = some (hexl s) := by
  have q := h13_ok s hs s.length 0 (by omega)
  unfold f_ref01_Hex
  rw [show (((s.length : Int) - 0).toNat + 1) = s.length + 1 by omega]
  rw [show ((0 : Nat) : Int) = 0 from rfl, show (hexl (s.take 0)).map bn = [] from rfl] at q
  rw [q, Option.bind_some]; exact congrArg some (nb_bn _)
def ofS (s : Str) : Str := ([115, 104, 97, 50, 53, 54, 58] : Str) ++ hexl (sumS s)
theorem digestOf_ok (s : Str) (h : s.length + 100 ≤ 140737488355328) : f_digest_Of s = some (ofS s) := by
  have l := sum_len s
  unfold f_digest_Of f_octet_Hex
  rw [digestSum_ok [s] (by simp) (by rw [Lib.join_one]; exact h), Option.bind_some, Lib.join_one, gd_t _ (by omega), Option.bind_some, gd_t _ (by rw [hexl_length]; omega)]; rfl
theorem refOf_ok (s : Str) (h : s.length + 100 ≤ 140737488355328) : f_ref02_Of s = some (ofS s) := by
  have l := sum_len s
  unfold f_ref02_Of
  rw [refSum_ok s h, Option.bind_some, refHex_ok _ (by omega), Option.bind_some, gd_t _ (by rw [hexl_length]; omega)]; rfl
theorem short_ok (s : Str) : f_law02_short s = some (s.take 300) := by
  unfold f_law02_short
  by_cases c : 300 < s.length
  · rw [if_pos (by omega), gd_t _ (by omega)]; exact congrArg some (cut_zero s 300)
  · rw [if_neg (by omega), gd_t _ (by omega), cut_zero, List.take_of_length_le (by omega), List.take_of_length_le (by omega)]
theorem alive_ok : f_law02_alive = some true := by kernel_rfl
theorem digestSums_true (s : Str) (w : s.length ≤ 140737488351232) : f_law02_DigestSums s = some true := by
  have l : (s.take 300).length + 100 ≤ 140737488355328 := by rw [List.length_take]; omega
  have k := keys_ok
  have f := first_ok
  unfold f_law02_DigestSums
  rw [short_ok, Option.bind_some, alive_ok, Option.bind_some, if_pos rfl, digestSum_ok _ (by simp) (by rw [Lib.join_one]; exact l), Option.bind_some, Lib.join_one, refSum_ok _ l, Option.bind_some, if_pos (by simp), digestOf_ok _ l, Option.bind_some, refOf_ok _ l, Option.bind_some, if_pos (by simp)]
  obtain ⟨a, e1, k⟩ := Option.bind_eq_some_iff.mp k
  obtain ⟨b, e2, k⟩ := Option.bind_eq_some_iff.mp k
  obtain ⟨c, e3, f⟩ := Option.bind_eq_some_iff.mp f
  obtain ⟨d, e4, f⟩ := Option.bind_eq_some_iff.mp f
  rw [e1, Option.bind_some, e2, Option.bind_some, k, Option.bind_some, if_pos rfl, e3, Option.bind_some, e4, Option.bind_some, f]; rfl
end Go.Proofs.YtjhgkcbhllomaaaDoor.V.M
end

section
/- The functions' proofs and the plain law, side by side. -/
namespace Go.Proofs.YtjhgkcbhllomaaaDoor.V
theorem digestSums_true (s : Str) (w : s.length ≤ 140737488351232) : f_law02_DigestSums s = some true := M.digestSums_true s w
end Go.Proofs.YtjhgkcbhllomaaaDoor.V
end

section
/- Package variables that hold rows of numbers, as the rows tell; a law whose function reads them. -/
namespace Go.Proofs.YtjhgkcbhllomaaaDoor.V
open Go Go.RowKit
set_option linter.unusedVariables false
set_option linter.unusedSimpArgs false
theorem laid_ints {P : Program} {w : World} {nm : String} {g t e n base fuel : Nat} {k : IntKind} {l : List Int} {cs : Array Value} {H : Type} {enc : TypeId × Value → H} {spare : Nat → Bool} {held : Bool} {ps : List MemPlace} (hg : P.globalNamed nm = some g) (hu : P.underlying t = some (.array n e)) (hi : P.underlying e = some (.int k)) (hc : P.cellsOf e = 1) (hv : w.var? P nm = some cs)
    (hd : DataW.trod enc P w base spare held fuel t cs.toList = some (.agg (l.map fun x => .lit (.int k x)), ps)) : ∀ (j : Nat) x, l[j]? = some x → w.cell? ⟨g, j, none⟩ = some (.int k x) := by
  obtain ⟨xs, m, rfl, hx, hl, hn, hel⟩ := DataW.trod_array hu hd
  simp only [Prod.mk.injEq, DataW.agg.injEq] at hx
  intro j x hj
  have h1 : (xs.map (·.1))[j]? = some (.lit (.int k x)) := by rw [← hx.1, List.getElem?_map, hj]; rfl
  rw [List.getElem?_map, Option.map_eq_some_iff] at h1
  obtain ⟨y, hy, hy2⟩ := h1
  have hjn : j < n := by rw [← hn]; exact (List.getElem?_eq_some_iff.1 hy).1
  have h2 := hel j hjn
  rw [hy, hc] at h2
  obtain ⟨q, hq, hq2, _⟩ := DataW.trod_int hi h2
  rw [hq2] at hy2
  simp only [DataW.lit.injEq, Lit.int.injEq, true_and] at hy2
  subst hy2
  have h3 : cs.toList[j]? = some (.int k q) := by
    have h4 : ((cs.toList.drop (j * 1)).take 1)[0]? = some (.int k q) := by rw [hq]; rfl
    simpa using h4
  rw [World.var?_cell hg hv j]
  simpa using h3
theorem flat_eI (k : IntKind) (l : List Int) : (l.map (eI k)).flatten = l.map (Sc.int k) := by
  induction l with
  | nil => rfl
  | cons x l ih => rw [List.map_cons, List.flatten_cons, ih]; rfl
theorem glrep {w : World} {g : Nat} {k : IntKind} {l : List Int} (h : ∀ (j : Nat) (x : Int), l[j]? = some x → w.cell? ⟨g, j, none⟩ = some (.int k x)) (hne : l ≠ []) : RepD w (fun b => b < w.heap.size) (.ref ((l.map (eI k)).flatten) 0) (.pointer (some ⟨g, 0, none⟩)) := by
  have key : ∀ (j : Nat) (sc : Sc), ((l.map (eI k)).flatten)[j]? = some sc → ∃ x : Int, l[j]? = some x ∧ sc = Sc.int k x := by
    intro j sc hj
    rw [flat_eI, List.getElem?_map, Option.map_eq_some_iff] at hj
    obtain ⟨x, hx, rfl⟩ := hj
    exact ⟨x, hx, rfl⟩
  have hb : g < w.heap.size := by
    cases l with
    | nil => exact absurd rfl hne
    | cons x l => exact cell?_lt (h 0 x rfl)
  refine .ref _ 0 g 0 (fun j => (w.cell? ⟨g, j, none⟩).getD undef) hb (fun j sc hj => ?_) (fun j sc hj => ?_)
  · obtain ⟨x, hx, rfl⟩ := key j sc hj
    rw [Nat.zero_add, h j x hx]; rfl
  · obtain ⟨x, hx, rfl⟩ := key j sc hj
    simp only [h j x hx, Option.getD_some]
    exact .int k x
/-- A law whose function reads package variables, out of what is shown of its function. -/
theorem Fun.lawG {P : Program} {gl : Gl} {f : FuncId} {xs : List Vb} {b : Bool} {vs : List Value} {w : World} (h : Fun P gl f (xs.map Va.b) (.bo b)) (hg : GlOk gl w (fun k => k < w.heap.size)) (hx : AtAll w xs vs) : Calls P f vs.toArray w fun e w1 => e = .returned (.bool b) ∧ Below w.heap.size w w1 := by
  obtain ⟨hl, hg2⟩ := hx.get
  refine (h.2 w (fun k => k < w.heap.size) vs.toArray (fun _ h => h) hg ⟨by simpa using hl, fun j x hj => ?_⟩).mono fun e w1 => ?_
  · rw [List.getElem?_map, Option.map_eq_some_iff] at hj
    obtain ⟨y, hj, rfl⟩ := hj
    have := hg2 j y hj
    show At w y _
    simpa [Array.getD_eq_getD_getElem?, List.getD] using this
  · rintro ⟨u, S1, rfl, _, _, hr, hb⟩
    refine ⟨?_, hb⟩
    cases hr with
    | d _ _ h => cases h with | bool _ => rfl
end Go.Proofs.YtjhgkcbhllomaaaDoor.V
end

section
/- The row of the law DigestSums: for every input that the row speaks of the law returns true; each argument reads behind the call as it read before. -/
namespace Go.Proofs.YtjhgkcbhllomaaaDoor.digestSums
open Go.ChangeShapes Go.WideShapes Go.ChangeAt Go.RowKit Go.Proofs.YtjhgkcbhllomaaaDoor.V Go.Proofs.YtjhgkcbhllomaaaDoorW.PrintWords
set_option linter.unusedVariables false
theorem own : ownKnob Tryd.prog.godebug = none := by kernel_rfl
theorem laidOut : laidOutB Tryd.prog = true := by kernel_rfl
theorem gn0 : Tryd.prog.globalNamed "consignor/digest.keys" = some 0 := by kernel_rfl
theorem gt0 : (Tryd.prog.globals[0]?).map (·.type) = some 80 := by kernel_rfl
theorem door_met (os : Os) (args : Array Value) : laidMetH Tryd.prog Rows.digestSumsRow.laid ((World.doorLaid Tryd.prog 400 os).forCall (fun _ _ => 0) ⟨#[], args, []⟩).memory :=
  laidMetH_of_parts3 (fuel := 8) (laidMet_of_run' 8 (by kernel_rfl) (by kernel_rfl)) (by kernel_rfl) (by kernel_rfl)
theorem gl_ok {W : World} (h : laidMetH Tryd.prog Rows.digestSumsRow.laid W) : GlOk glP W (fun k => k < W.heap.size) := by
  rw [MakeChecks.laidMetH_plain _ _ _ (by kernel_rfl)] at h
  obtain ⟨ps, ⟨g0, t0, cs0, f0, p0, q0, hg0, ht0, hv0, hd0, _, _⟩, _, _⟩ := h
  obtain rfl := Option.some.inj (gn0.symm.trans hg0)
  obtain rfl := Option.some.inj (gt0.symm.trans ht0)
  have r0 := glrep (laid_ints (l := g_digest_keys) (k := .u32) gn0 Tryd.underlying80 Tryd.underlying54 (by kernel_rfl) hv0 (show _ = some (DataW.agg (g_digest_keys.map fun x => DataW.lit (Lit.int .u32 x)), _) from hd0)) (by intro h; cases h)
  intro g cs hg
  unfold glP at hg
  split at hg
  · rename_i hgi
    subst hgi
    cases hg
    exact r0
  · cases hg
set_option maxRecDepth 100000 in
theorem lifted (os : Os) (started : os.Started) (H : Type) (enc : TypeId × Value → H) :
    ReturnsInHanded {} Tryd.checked os 3 .any (fun w args => (Rows.digestSumsSpec.pre enc Tryd.prog Tryd.f3 [] false w args ∧ laidMetH Tryd.prog Rows.digestSumsRow.laid w) ∧ sizedMet enc Tryd.prog Tryd.f3 (OpenSpec.ofChange Rows.digestSumsSpec) false w args) (Rows.digestSumsSpec.post enc Tryd.prog Tryd.f3 false true false false) := by
  refine returnsInHanded_of_change_and (C := Tryd.checked) (X := fun w _ => laidMetH Tryd.prog Rows.digestSumsRow.laid w) (fun _ _ _ hh h => h.of_heap hh) own started (by kernel_rfl) Tryd.func3
    (ChangeSpec.witness_shaped (enc := enc) (C := Tryd.checked) (os := os) (X := fun w _ => laidMetH Tryd.prog Rows.digestSumsRow.laid w) false (World.doorLaid Tryd.prog 400 os) #[.string ByteArray.empty] 8 rfl (World.shaped_of_RefB (by kernel_rfl) (by kernel_rfl)) (by kernel_rfl) (by kernel_rfl) (by kernel_rfl) (door_met os _)) ?_
  intro W base args ds gs before hval0 hW hcnd hsz0 hL _
  have hsz : (DataW.weightsEach Tryd.prog (Tryd.f3.params.toList ++ Rows.digestSumsSpec.plain.varTypes Tryd.prog) (ds ++ gs)).all (· ≤ reachBytes) = true := hsz0
  have hval : ∀ (j : Nat) t v, Tryd.f3.params[j]? = some t → args[j]? = some v → Value.okWide Tryd.prog W .any base t v := hval0
  have hW' := hW
  obtain ⟨p, q, hA0, hV, rfl, hfz, hnd⟩ := hW
  have hA : DataW.TrodAll enc Tryd.prog W 0 (fun _ => true) true Tryd.f3.params.toList args.toList ds p := hA0
  rw [Tryd.params3] at hA hval hsz
  obtain ⟨v0, vs0, d0, ds0, p0, q0, hargs, rfl, rfl, h0, r0⟩ := trodAll_cons hA
  obtain ⟨rfl, rfl, rfl⟩ := trodAll_nil r0
  obtain rfl : args = #[v0] := by cases args; simp_all
  obtain ⟨rfl, rfl⟩ := trodVars_none hV
  have k0 := h0
  have lt0 : ∀ x ∈ p0, x.block < W.heap.size := by obtain ⟨m, hm⟩ := k0; exact DataW.trod_lt m _ _ _ hm
  obtain ⟨a0, e0, rfl, z0⟩ := arg_str Tryd.underlying9 (hval 0 9 v0 rfl rfl) h0
  have w0 : a0.length ≤ 140737488351232 := sized_string hsz (j := 0) (t := 9) rfl rfl
  refine (Fun.lawG (xs := [_]) (vs := [v0]) (w := W) (f_law02_DigestSums_ok a0 true (digestSums_true a0 w0)) (gl_ok hL) ⟨e0, trivial⟩).mono fun e W' ⟨he, bel⟩ => ?_
  subst he
  exact ⟨_, rfl, _, _, _, [], _, [], hW', trodAll_mk1 (shut_bool Tryd.underlying4 _), (trodAll_cons_mk (Below.trod laidOut (by kernel_rfl) (of_decide_eq_true (by kernel_rfl)) k0 bel lt0) trodAll_mk0), rfl, bel.frame _, fun h => by cases h⟩
theorem over : Rows.digestSumsRow.holds Tryd.pinned (OpenSpec.ofChange Rows.digestSumsSpec) :=
  OpenClaim.holds_of_wide 3 Tryd.f3 rfl rfl rfl rfl rfl rfl rfl ⟨rfl, rfl, rfl, rfl, rfl⟩ rfl rfl rfl rfl rfl (by kernel_rfl) Tryd.func3 (by kernel_rfl)
    (of_decide_eq_true (by kernel_rfl)) (by unfold Func.isWrapper; first | (rw [if_pos (by decide +kernel)]; kernel_rfl) | (rw [if_neg (by decide +kernel)]; exact ⟨rfl, rfl⟩))
    (fun os started H enc _ => lifted os started H enc)
theorem proved : Rows.DigestSumsSaid := over
end Go.Proofs.YtjhgkcbhllomaaaDoor.digestSums
namespace Go.Proofs.YtjhgkcbhllomaaaDoor
/-- The statement, under a short name, for the claim. -/
theorem digestSums_holds : Rows.DigestSumsCardSaid :=
  Claim7.holds_tied_plain_at .later [] [.data] true (true, "cb983233ca39e7e5f5d2dea36e9c57c2fb3ccb1295660e3fea98415589665de9") true
    digestSums.proved (fun _ h => by cases h) (by kernel_rfl) (fun _ h => by cases h) digestSums_row_tie rfl ⟨rfl, rfl⟩ (by kernel_rfl) rfl
    (fun f fn hf hfn => by
      obtain rfl : f = 3 := Option.some.inj ((show Tryd.prog.funcNamed "consignor/consignorlaw02.DigestSums" = some 3 by kernel_rfl).symm.trans hf) |>.symm
      obtain rfl : fn = Tryd.f3 := (Option.some.inj (Tryd.func3.symm.trans hfn)).symm
      exact ⟨by kernel_rfl, fun j t ht => by
        rw [Tryd.params3] at ht
        have hm : t ∈ [9] := by simpa using Array.mem_of_getElem? ht
        have hall : ([9].all fun u => !Tryd.prog.wantsStandIn u) = true := by kernel_rfl
        exact (show Tryd.prog.wantsStandIn t = false by simpa using List.all_eq_true.1 hall t hm)⟩)
    (by kernel_rfl)
#print axioms digestSums_holds
end Go.Proofs.YtjhgkcbhllomaaaDoor
end
