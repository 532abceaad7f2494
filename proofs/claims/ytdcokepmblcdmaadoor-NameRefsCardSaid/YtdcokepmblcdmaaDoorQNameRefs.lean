/- The row of the law NameRefs: for every input that the row speaks of the law returns true; each argument reads behind the call as it read before. -/
import Derived.Test.YtdcokepmblcdmaaDoorProg
import Derived.Test.YtdcokepmblcdmaaDoorQNameRefsB
import Derived.Test.YtdcokepmblcdmaaDoorQNameRefsC
import Derived.KernelRfl
import Derived.Lib.Join
import Derived.Test.YtdcokepmblcdmaaDoorRows
import Derived.Test.YtdcokepmblcdmaaDoorTie
import Derived.Test.YtdcokepmblcdmaaDoorCards
import Derived.WalkKit
import Derived.ProofKit
import Derived.OpenShut
import Derived.ShutString
import Derived.ChangeOld
import Derived.Below
import Derived.SizedLaws
import Derived.SliceStrings
import Derived.Carry
import Derived.LaidMore
import Derived.Stop.Joined
import Derived.SevenTiedAt
import Derived.Test.YtdcokepmblcdmaaDoorWSized
section
/- Go functions compute what Lean functions do. -/
namespace Go.Proofs.YtdcokepmblcdmaaDoor.V
open Go Go.RowKit
set_option linter.unusedVariables false
set_option linter.unusedSimpArgs false
set_option maxHeartbeats 1000000
-- 43 internal/stringslite.CutPrefix
def c43r0 : List Opn := [
  ⟨(some 4), none, .mv (.c (.s (.d (.str []))))⟩, 
  ⟨(some 5), none, .mv (.c (.s (.d (.bool false))))⟩]
def c43r1 : List Opn := [
  ⟨(some 6), none, .mv (.t 0)⟩, 
  ⟨(some 7), none, .mv (.t 1)⟩, 
  ⟨(some 8), none, .call (.fn 55) [(.t 6), (.t 7)]⟩, 
  ⟨(some 9), none, .un .not (.t 8)⟩]
def c43r2 : List Opn := [
  ⟨(some 10), none, .mv (.t 0)⟩, 
  ⟨(some 4), none, .mv (.t 10)⟩, 
  ⟨(some 5), none, .mv (.c (.s (.d (.bool false))))⟩]
def c43r3 : List Opn := [
  ⟨(some 11), none, .mv (.t 0)⟩, 
  ⟨(some 12), none, .mv (.t 1)⟩, 
  ⟨(some 13), none, .len .str (.t 12)⟩, 
  ⟨(some 14), none, .slc .str (.t 11) (some (.t 13)) none none⟩, 
  ⟨(some 4), none, .mv (.t 14)⟩, 
  ⟨(some 5), none, .mv (.c (.s (.d (.bool true))))⟩]
def c43 : C := .seq (.reg c43r0 none [0, 1]) (.seq (.seq (.reg c43r1 none [0, 1, 9]) (.cond (.t 9) (.seq (.reg c43r2 none [4, 5]) (.ret)) (.skip))) (.seq (.reg c43r3 none [4, 5]) (.ret)))
def k43 : List (Nat × List Nat) := [(3, [4, 5]), (2, [4, 5]), (1, [0, 1, 9]), (0, [0, 1])]
theorem cc43 : (Tryd.f43.body).bind (cC Tryd.prog 15 k43) = some c43 := by kernel_rfl
def rv43 : List RV := [.t 4, .t 5]
theorem cr43 : cRVs Tryd.prog Tryd.f43.results.toList = some rv43 := by kernel_rfl
theorem f_internal_stringslite_CutPrefix_ok (s : Str) (prefixv : Str) (y_ : Str × Bool) (h : f_internal_stringslite_CutPrefix s prefixv = some y_) : Fun Tryd.prog glP 43 [.b (.s (.d (.str s))), .b (.s (.d (.str prefixv)))] (.tup [.s (.d (.str y_.1)), .s (.d (.bool y_.2))]) := by
  refine fun_walk [] Tryd.func43 Tryd.ntmps43 cc43 cr43 (by kernel_rfl) (by simp only [List.length_cons, List.length_nil]; decide) ?_
  generalize hR : Ret _ _ _ _ _ = R_
  simp only [wz, wd, ws, Nat.reduceAdd, Nat.reduceSub, Nat.reduceMul, Nat.reduceLeDiff, Nat.reduceEqDiff, Nat.reduceLT, Nat.reduceBEq, reduceIte, reduceCtorEq, Int.reduceToNat, Nat.reduceShiftRight, Nat.reduceAnd, Nat.reduceBneDiff, Nat.reduceBNe]
  unfold f_internal_stringslite_CutPrefix at h; unfold c43
  refine .seq ?_
  refine Rw.walk ?_
  simp only [wz, wd, ws, Nat.reduceAdd, Nat.reduceSub, Nat.reduceMul, Nat.reduceLeDiff, Nat.reduceEqDiff, Nat.reduceLT, Nat.reduceBEq, reduceIte, reduceCtorEq, Int.reduceToNat, Nat.reduceShiftRight, Nat.reduceAnd, Nat.reduceBneDiff, Nat.reduceBNe, c43r0, semI.eq_10, semI.eq_11, semI.eq_3, semI.eq_5, semI.eq_7]
  refine .seq ?_
  refine .seq ?_
  refine Rw.walk ?_
  simp only [wz, wd, ws, Nat.reduceAdd, Nat.reduceSub, Nat.reduceMul, Nat.reduceLeDiff, Nat.reduceEqDiff, Nat.reduceLT, Nat.reduceBEq, reduceIte, reduceCtorEq, Int.reduceToNat, Nat.reduceShiftRight, Nat.reduceAnd, Nat.reduceBneDiff, Nat.reduceBNe, c43r1, semI.eq_10, semI.eq_11, semI.eq_3, semI.eq_5, semI.eq_7]
  obtain ⟨t, e1, h⟩ := Option.bind_eq_some_iff.1 h
  refine call_fun [] false ⟨trivial, trivial, trivial, trivial⟩ rfl ?_ (f_internal_stringslite_HasPrefix_ok _ _ _ e1) (fun _ => rfl) (fun i hi => by cases hi) ?_
  · simp only [wz, wd, ws, Nat.reduceAdd, Nat.reduceSub, Nat.reduceMul, Nat.reduceLeDiff, Nat.reduceEqDiff, Nat.reduceLT, Nat.reduceBEq, reduceIte, reduceCtorEq, Int.reduceToNat, Nat.reduceShiftRight, Nat.reduceAnd, Nat.reduceBneDiff, Nat.reduceBNe]
  simp only [wz, wd, ws, Nat.reduceAdd, Nat.reduceSub, Nat.reduceMul, Nat.reduceLeDiff, Nat.reduceEqDiff, Nat.reduceLT, Nat.reduceBEq, reduceIte, reduceCtorEq, Int.reduceToNat, Nat.reduceShiftRight, Nat.reduceAnd, Nat.reduceBneDiff, Nat.reduceBNe, c43r1, semI.eq_10, semI.eq_11, semI.eq_3, semI.eq_5, semI.eq_7]
  refine .cond (p := (!t)) (by first | rfl | simp only [wz, wd, ws, Nat.reduceAdd, Nat.reduceSub, Nat.reduceMul, Nat.reduceLeDiff, Nat.reduceEqDiff, Nat.reduceLT, Nat.reduceBEq, reduceIte, reduceCtorEq, Int.reduceToNat, Nat.reduceShiftRight, Nat.reduceAnd, Nat.reduceBneDiff, Nat.reduceBNe]) (fun h1 => ?_) (fun h1 => ?_)
  · rw [ite_t h1] at h
    refine .seq ?_
    refine Rw.walk ?_
    simp only [wz, wd, ws, Nat.reduceAdd, Nat.reduceSub, Nat.reduceMul, Nat.reduceLeDiff, Nat.reduceEqDiff, Nat.reduceLT, Nat.reduceBEq, reduceIte, reduceCtorEq, Int.reduceToNat, Nat.reduceShiftRight, Nat.reduceAnd, Nat.reduceBneDiff, Nat.reduceBNe, c43r2, semI.eq_10, semI.eq_11, semI.eq_3, semI.eq_5, semI.eq_7]
    obtain rfl := Option.some.inj h
    refine .ret ?_
    rw [← hR]
    simp only [wz, wd, ws, Nat.reduceAdd, Nat.reduceSub, Nat.reduceMul, Nat.reduceLeDiff, Nat.reduceEqDiff, Nat.reduceLT, Nat.reduceBEq, reduceIte, reduceCtorEq, Int.reduceToNat, Nat.reduceShiftRight, Nat.reduceAnd, Nat.reduceBneDiff, Nat.reduceBNe, rv43]
  · rw [ite_f h1] at h
    refine .skip ?_
    refine .seq ?_
    refine Rw.walk ?_
    obtain ⟨g2, h⟩ := gd_iff.1 h
    simp only [wz, wd, ws, Nat.reduceAdd, Nat.reduceSub, Nat.reduceMul, Nat.reduceLeDiff, Nat.reduceEqDiff, Nat.reduceLT, Nat.reduceBEq, reduceIte, reduceCtorEq, Int.reduceToNat, Nat.reduceShiftRight, Nat.reduceAnd, Nat.reduceBneDiff, Nat.reduceBNe, c43r3, semI.eq_10, semI.eq_11, semI.eq_3, semI.eq_5, semI.eq_7]
    repeat (refine And.intro ?_ ?_; · first | omega | (intro q; simp only [wz, wd, ws, Nat.reduceAdd, Nat.reduceSub, Nat.reduceMul, Nat.reduceLeDiff, Nat.reduceEqDiff, Nat.reduceLT, Nat.reduceBEq, reduceIte, reduceCtorEq, Int.reduceToNat, Nat.reduceShiftRight, Nat.reduceAnd, Nat.reduceBneDiff, Nat.reduceBNe, q]; done))
    obtain rfl := Option.some.inj h
    refine .ret ?_
    rw [← hR]
    simp only [wz, wd, ws, Nat.reduceAdd, Nat.reduceSub, Nat.reduceMul, Nat.reduceLeDiff, Nat.reduceEqDiff, Nat.reduceLT, Nat.reduceBEq, reduceIte, reduceCtorEq, Int.reduceToNat, Nat.reduceShiftRight, Nat.reduceAnd, Nat.reduceBneDiff, Nat.reduceBNe, rv43]
-- 32 strings.CutPrefix
def c32r0 : List Opn := [
  ⟨(some 4), none, .mv (.c (.s (.d (.str []))))⟩, 
  ⟨(some 5), none, .mv (.c (.s (.d (.bool false))))⟩]
def c32r1 : List Opn := [
  ⟨(some 6), none, .mv (.t 0)⟩, 
  ⟨(some 7), none, .mv (.t 1)⟩, 
  ⟨(some 8), none, .call (.fn 43) [(.t 6), (.t 7)]⟩, 
  ⟨(some 9), none, .ext (.t 8) 0⟩, 
  ⟨(some 10), none, .ext (.t 8) 1⟩, 
  ⟨(some 4), none, .mv (.t 9)⟩, 
  ⟨(some 5), none, .mv (.t 10)⟩]
def c32 : C := .seq (.reg c32r0 none [0, 1]) (.seq (.reg c32r1 none [4, 5]) (.ret))
def k32 : List (Nat × List Nat) := [(1, [4, 5]), (0, [0, 1])]
theorem cc32 : (Tryd.f32.body).bind (cC Tryd.prog 11 k32) = some c32 := by kernel_rfl
def rv32 : List RV := [.t 4, .t 5]
theorem cr32 : cRVs Tryd.prog Tryd.f32.results.toList = some rv32 := by kernel_rfl
theorem f_strings_CutPrefix_ok (s : Str) (prefixv : Str) (y_ : Str × Bool) (h : f_strings_CutPrefix s prefixv = some y_) : Fun Tryd.prog glP 32 [.b (.s (.d (.str s))), .b (.s (.d (.str prefixv)))] (.tup [.s (.d (.str y_.1)), .s (.d (.bool y_.2))]) := by
  refine fun_walk [] Tryd.func32 Tryd.ntmps32 cc32 cr32 (by kernel_rfl) (by simp only [List.length_cons, List.length_nil]; decide) ?_
  generalize hR : Ret _ _ _ _ _ = R_
  simp only [wz, wd, ws, Nat.reduceAdd, Nat.reduceSub, Nat.reduceMul, Nat.reduceLeDiff, Nat.reduceEqDiff, Nat.reduceLT, Nat.reduceBEq, reduceIte, reduceCtorEq, Int.reduceToNat, Nat.reduceShiftRight, Nat.reduceAnd, Nat.reduceBneDiff, Nat.reduceBNe]
  unfold f_strings_CutPrefix at h; unfold c32
  refine .seq ?_
  refine Rw.walk ?_
  simp only [wz, wd, ws, Nat.reduceAdd, Nat.reduceSub, Nat.reduceMul, Nat.reduceLeDiff, Nat.reduceEqDiff, Nat.reduceLT, Nat.reduceBEq, reduceIte, reduceCtorEq, Int.reduceToNat, Nat.reduceShiftRight, Nat.reduceAnd, Nat.reduceBneDiff, Nat.reduceBNe, c32r0, semI.eq_10, semI.eq_11, semI.eq_3, semI.eq_5, semI.eq_7]
  refine .seq ?_
  refine Rw.walk ?_
  simp only [wz, wd, ws, Nat.reduceAdd, Nat.reduceSub, Nat.reduceMul, Nat.reduceLeDiff, Nat.reduceEqDiff, Nat.reduceLT, Nat.reduceBEq, reduceIte, reduceCtorEq, Int.reduceToNat, Nat.reduceShiftRight, Nat.reduceAnd, Nat.reduceBneDiff, Nat.reduceBNe, c32r1, semI.eq_10, semI.eq_11, semI.eq_3, semI.eq_5, semI.eq_7]
  obtain ⟨t, e1, h⟩ := Option.bind_eq_some_iff.1 h
  refine call_fun [] false ⟨trivial, trivial, trivial, trivial⟩ rfl ?_ (f_internal_stringslite_CutPrefix_ok _ _ _ e1) (fun _ => rfl) (fun i hi => by cases hi) ?_
  · simp only [wz, wd, ws, Nat.reduceAdd, Nat.reduceSub, Nat.reduceMul, Nat.reduceLeDiff, Nat.reduceEqDiff, Nat.reduceLT, Nat.reduceBEq, reduceIte, reduceCtorEq, Int.reduceToNat, Nat.reduceShiftRight, Nat.reduceAnd, Nat.reduceBneDiff, Nat.reduceBNe]
  simp only [wz, wd, ws, Nat.reduceAdd, Nat.reduceSub, Nat.reduceMul, Nat.reduceLeDiff, Nat.reduceEqDiff, Nat.reduceLT, Nat.reduceBEq, reduceIte, reduceCtorEq, Int.reduceToNat, Nat.reduceShiftRight, Nat.reduceAnd, Nat.reduceBneDiff, Nat.reduceBNe, c32r1, semI.eq_10, semI.eq_11, semI.eq_3, semI.eq_5, semI.eq_7]
  obtain rfl := Option.some.inj h
  refine .ret ?_
  rw [← hR]
  simp only [wz, wd, ws, Nat.reduceAdd, Nat.reduceSub, Nat.reduceMul, Nat.reduceLeDiff, Nat.reduceEqDiff, Nat.reduceLT, Nat.reduceBEq, reduceIte, reduceCtorEq, Int.reduceToNat, Nat.reduceShiftRight, Nat.reduceAnd, Nat.reduceBneDiff, Nat.reduceBNe, rv32]
-- 44 strings.IndexByte
def c44r0 : List Opn := [
  ⟨(some 4), none, .mv (.c (.s (.d (.int .i64 0))))⟩]
def c44r1 : List Opn := [
  ⟨(some 5), none, .mv (.t 0)⟩, 
  ⟨(some 6), none, .mv (.t 1)⟩, 
  ⟨(some 7), none, .call (.fn 56) [(.t 5), (.t 6)]⟩, 
  ⟨(some 4), none, .mv (.t 7)⟩]
def c44 : C := .seq (.reg c44r0 none [0, 1]) (.seq (.reg c44r1 none [4]) (.ret))
def k44 : List (Nat × List Nat) := [(1, [4]), (0, [0, 1])]
theorem cc44 : (Tryd.f44.body).bind (cC Tryd.prog 8 k44) = some c44 := by kernel_rfl
def rv44 : List RV := [.t 4]
theorem cr44 : cRVs Tryd.prog Tryd.f44.results.toList = some rv44 := by kernel_rfl
theorem f_strings_IndexByte_ok (s : Str) (c : Int) (y_ : Int) (h : f_strings_IndexByte s c = some y_) : Fun Tryd.prog glP 44 [.b (.s (.d (.str s))), .b (.s (.d (.int .u8 c)))] (.b (.s (.d (.int .i64 y_)))) := by
  refine fun_walk [] Tryd.func44 Tryd.ntmps44 cc44 cr44 (by kernel_rfl) (by simp only [List.length_cons, List.length_nil]; decide) ?_
  generalize hR : Ret _ _ _ _ _ = R_
  simp only [wz, wd, ws, Nat.reduceAdd, Nat.reduceSub, Nat.reduceMul, Nat.reduceLeDiff, Nat.reduceEqDiff, Nat.reduceLT, Nat.reduceBEq, reduceIte, reduceCtorEq, Int.reduceToNat, Nat.reduceShiftRight, Nat.reduceAnd, Nat.reduceBneDiff, Nat.reduceBNe]
  unfold f_strings_IndexByte at h; unfold c44
  refine .seq ?_
  refine Rw.walk ?_
  simp only [wz, wd, ws, Nat.reduceAdd, Nat.reduceSub, Nat.reduceMul, Nat.reduceLeDiff, Nat.reduceEqDiff, Nat.reduceLT, Nat.reduceBEq, reduceIte, reduceCtorEq, Int.reduceToNat, Nat.reduceShiftRight, Nat.reduceAnd, Nat.reduceBneDiff, Nat.reduceBNe, c44r0, semI.eq_10, semI.eq_11, semI.eq_3, semI.eq_5, semI.eq_7]
  refine .seq ?_
  refine Rw.walk ?_
  simp only [wz, wd, ws, Nat.reduceAdd, Nat.reduceSub, Nat.reduceMul, Nat.reduceLeDiff, Nat.reduceEqDiff, Nat.reduceLT, Nat.reduceBEq, reduceIte, reduceCtorEq, Int.reduceToNat, Nat.reduceShiftRight, Nat.reduceAnd, Nat.reduceBneDiff, Nat.reduceBNe, c44r1, semI.eq_10, semI.eq_11, semI.eq_3, semI.eq_5, semI.eq_7]
  obtain ⟨t, e1, h⟩ := Option.bind_eq_some_iff.1 h
  refine call_fun [] false ⟨trivial, trivial, trivial, trivial⟩ rfl ?_ (f_internal_stringslite_IndexByte_ok _ _ _ e1) (fun _ => rfl) (fun i hi => by cases hi) ?_
  · simp only [wz, wd, ws, Nat.reduceAdd, Nat.reduceSub, Nat.reduceMul, Nat.reduceLeDiff, Nat.reduceEqDiff, Nat.reduceLT, Nat.reduceBEq, reduceIte, reduceCtorEq, Int.reduceToNat, Nat.reduceShiftRight, Nat.reduceAnd, Nat.reduceBneDiff, Nat.reduceBNe]
  simp only [wz, wd, ws, Nat.reduceAdd, Nat.reduceSub, Nat.reduceMul, Nat.reduceLeDiff, Nat.reduceEqDiff, Nat.reduceLT, Nat.reduceBEq, reduceIte, reduceCtorEq, Int.reduceToNat, Nat.reduceShiftRight, Nat.reduceAnd, Nat.reduceBneDiff, Nat.reduceBNe, c44r1, semI.eq_10, semI.eq_11, semI.eq_3, semI.eq_5, semI.eq_7]
  obtain rfl := Option.some.inj h
  refine .ret ?_
  rw [← hR]
  simp only [wz, wd, ws, Nat.reduceAdd, Nat.reduceSub, Nat.reduceMul, Nat.reduceLeDiff, Nat.reduceEqDiff, Nat.reduceLT, Nat.reduceBEq, reduceIte, reduceCtorEq, Int.reduceToNat, Nat.reduceShiftRight, Nat.reduceAnd, Nat.reduceBneDiff, Nat.reduceBNe, rv44]
-- 33 consignor/octet.Bytes
def c33r0 : List Opn := [
  ⟨(some 2), none, .mv (.c (.s (.d (.str []))))⟩, 
  ⟨(some 3), none, .mv (.c (.s (.d (.int .i64 0))))⟩]
def c33r1 : List Opn := [
  ⟨(some 8), none, .mv (.t 0)⟩, 
  ⟨(some 9), none, .len .str (.t 8)⟩, 
  ⟨(some 10), none, .bin .rem (.t 9) (.c (.s (.d (.int .i64 2))))⟩, 
  ⟨(some 11), none, .bin .neq (.t 10) (.c (.s (.d (.int .i64 0))))⟩]
def c33r2 : List Opn := [
  ⟨(some 2), none, .mv (.c (.s (.d (.str []))))⟩, 
  ⟨(some 3), none, .mv (.c (.s (.d (.int .i64 4))))⟩]
def c33r3 : List Opn := [
  ⟨(some 12), none, .mv (.t 0)⟩, 
  ⟨(some 13), none, .len .str (.t 12)⟩, 
  ⟨(some 14), none, .bin .quo (.t 13) (.c (.s (.d (.int .i64 2))))⟩, 
  ⟨(some 15), none, .mksl 1 1 [(.d (.int .u8 0))] (.t 14) (.t 14)⟩, 
  ⟨(some 4), none, .mv (.t 15)⟩]
def c33r4 : List Opn := [
  ⟨(some 16), none, .mv (.t 4)⟩, 
  ⟨(some 17), none, .len (.sl 0) (.t 16)⟩, 
  ⟨(some 18), none, .mv (.c (.s (.d (.int .i64 0))))⟩]
def c33r5 : List Opn := [
  ⟨(some 19), none, .bin .lss (.t 18) (.t 17)⟩]
def c33r6 : List Opn := [
  ⟨(some 20), none, .mv (.t 18)⟩, 
  ⟨(some 5), none, .mv (.t 20)⟩]
def c33r7 : List Opn := [
  ⟨(some 21), none, .mv (.t 0)⟩, 
  ⟨(some 22), none, .mv (.t 5)⟩, 
  ⟨(some 23), none, .bin .mul (.c (.s (.d (.int .i64 2)))) (.t 22)⟩, 
  ⟨(some 24), none, .idx .str (.t 21) (.t 23)⟩, 
  ⟨(some 25), none, .call (.fn 44) [(.c (.s (.d (.str [48, 49, 50, 51, 52, 53, 54, 55, 56, 57, 97, 98, 99, 100, 101, 102])))), (.t 24)]⟩, 
  ⟨(some 26), none, .mv (.t 0)⟩, 
  ⟨(some 27), none, .mv (.t 5)⟩, 
  ⟨(some 28), none, .bin .mul (.c (.s (.d (.int .i64 2)))) (.t 27)⟩, 
  ⟨(some 29), none, .bin .add (.t 28) (.c (.s (.d (.int .i64 1))))⟩, 
  ⟨(some 30), none, .idx .str (.t 26) (.t 29)⟩, 
  ⟨(some 31), none, .call (.fn 44) [(.c (.s (.d (.str [48, 49, 50, 51, 52, 53, 54, 55, 56, 57, 97, 98, 99, 100, 101, 102])))), (.t 30)]⟩, 
  ⟨(some 6), none, .mv (.t 25)⟩, 
  ⟨(some 7), none, .mv (.t 31)⟩]
def c33r8 : List Opn := [
  ⟨(some 32), none, .mv (.t 6)⟩, 
  ⟨(some 33), none, .bin .lss (.t 32) (.c (.s (.d (.int .i64 0))))⟩, 
  ⟨(some 34), none, .mv (.t 33)⟩, 
  ⟨(some 35), some (34, false), .mv (.t 7)⟩, 
  ⟨(some 36), some (34, false), .bin .lss (.t 35) (.c (.s (.d (.int .i64 0))))⟩, 
  ⟨(some 37), none, .pick (.t 34) (.c (.s (.d (.bool true)))) (.t 36)⟩]
def c33r9 : List Opn := [
  ⟨(some 2), none, .mv (.c (.s (.d (.str []))))⟩, 
  ⟨(some 3), none, .mv (.c (.s (.d (.int .i64 4))))⟩]
def c33r10 : List Opn := [
  ⟨(some 38), none, .mv (.t 4)⟩, 
  ⟨(some 39), none, .mv (.t 5)⟩, 
  ⟨(some 40), none, .mv (.t 6)⟩, 
  ⟨(some 41), none, .bin .mul (.t 40) (.c (.s (.d (.int .i64 16))))⟩, 
  ⟨(some 42), none, .mv (.t 7)⟩, 
  ⟨(some 43), none, .bin .add (.t 41) (.t 42)⟩, 
  ⟨(some 44), none, .cv (.toInt .u8) (.t 43)⟩, 
  ⟨(some 45), none, .iadr (.sl 1) (.t 38) (.t 39)⟩, 
  ⟨none, none, .store 1 (.t 45) (.t 44)⟩]
def c33r11 : List Opn := [
  ⟨(some 46), none, .bin .add (.t 18) (.c (.s (.d (.int .i64 1))))⟩, 
  ⟨(some 18), none, .mv (.t 46)⟩]
def c33l12 : C := .seq (.reg c33r5 none [0, 4, 17, 18, 19]) (.seq (.cond (.t 19) (.skip) (.exit 0)) (.seq (.blk 1 (.seq (.reg c33r6 none [0, 4, 5, 17, 18]) (.seq (.reg c33r7 (some [0, 0, 2, 7, 15, 0, 0, 64, 192, 480, 1023, 2047, 4095]) [0, 4, 5, 6, 7, 17, 18]) (.seq (.seq (.reg c33r8 none [0, 4, 5, 6, 7, 17, 18, 37]) (.cond (.t 37) (.seq (.reg c33r9 none [2, 3]) (.ret)) (.skip))) (.reg c33r10 none [0, 4, 17, 18]))))) (.reg c33r11 none [0, 4, 17, 18])))
def c33r12 : List Opn := [
  ⟨(some 47), none, .mv (.t 4)⟩, 
  ⟨(some 48), none, .cv .b2s (.t 47)⟩, 
  ⟨(some 2), none, .mv (.t 48)⟩, 
  ⟨(some 3), none, .mv (.c (.s (.d (.int .i64 0))))⟩]
def c33 : C := .seq (.reg c33r0 none [0]) (.seq (.seq (.reg c33r1 none [0, 11]) (.cond (.t 11) (.seq (.reg c33r2 none [2, 3]) (.ret)) (.skip))) (.seq (.reg c33r3 none [0, 4]) (.seq (.seq (.reg c33r4 none [0, 4, 17, 18]) (.blk 0 (.loop c33l12))) (.seq (.reg c33r12 none [2, 3]) (.ret)))))
def k33 : List (Nat × List Nat) := [(12, [2, 3]), (11, [0, 4, 17, 18]), (10, [0, 4, 17, 18]), (9, [2, 3]), (8, [0, 4, 5, 6, 7, 17, 18, 37]), (7, [0, 4, 5, 6, 7, 17, 18]), (6, [0, 4, 5, 17, 18]), (5, [0, 4, 17, 18, 19]), (4, [0, 4, 17, 18]), (3, [0, 4]), (2, [2, 3]), (1, [0, 11]), (0, [0])]
theorem cc33 : (Tryd.f33.body).bind (cC Tryd.prog 49 k33) = some c33 := by kernel_rfl
def rv33 : List RV := [.t 2, .t 3]
theorem cr33 : cRVs Tryd.prog Tryd.f33.results.toList = some rv33 := by kernel_rfl
theorem f_octet_Bytes_l12_ok (s : Str) (y_ : Str × Int) (R_ : St → Prop) (hR : (Ret Tryd.prog glP [] rv33 (.tup [.s (.d (.str y_.1)), .s (.d (.int .i64 y_.2))])) = R_) : ∀ (m_ : Nat) (v18 : Int) (out : (List Int)) (res_ : (Int × (List Int)) ⊕ (Str × Int)) (h : f_octet_Bytes_l12 s m_ v18 out = some res_) (k_ : List It) (hx : ∀ s_ : Int × (List Int), res_ = .inl s_ → W Tryd.prog glP 49 k_ ⟨lkT [(0, .b (.s (.d (.str s)))), (4, .b (.s (.own 15 s_.2.length))), (17, .b (.s (.d (.int .i64 ((List.replicate (IntKind.i64.wrap ((s.length : Int).tdiv 2)).toNat 0).length : Int))))), (18, .b (.s (.d (.int .i64 s_.1))))], lkG [(15, ⟨1, er (eI .u8) s_.2, false⟩)]⟩ R_) (hr : ∀ z_ : Str × Int, res_ = .inr z_ → z_ = y_), W Tryd.prog glP 49 (.c c33l12 :: .lp c33l12 :: .blk 0 :: k_) ⟨lkT [(0, .b (.s (.d (.str s)))), (4, .b (.s (.own 15 out.length))), (17, .b (.s (.d (.int .i64 ((List.replicate (IntKind.i64.wrap ((s.length : Int).tdiv 2)).toNat 0).length : Int))))), (18, .b (.s (.d (.int .i64 v18))))], lkG [(15, ⟨1, er (eI .u8) out, false⟩)]⟩ R_ := by
  intro m_; induction m_ with
  | zero => intro v18 out res_ h; rw [f_octet_Bytes_l12.eq_1] at h; cases h
  | succ m_ ih =>
    intro v18 out res_ h k_ hx hr; rw [f_octet_Bytes_l12.eq_2] at h; refine W.cdef c33l12.eq_1 ?_
    refine .seq ?_
    refine Rw.walk ?_
    simp only [wz, wd, ws, Nat.reduceAdd, Nat.reduceSub, Nat.reduceMul, Nat.reduceLeDiff, Nat.reduceEqDiff, Nat.reduceLT, Nat.reduceBEq, reduceIte, reduceCtorEq, Int.reduceToNat, Nat.reduceShiftRight, Nat.reduceAnd, Nat.reduceBneDiff, Nat.reduceBNe, c33r5, semI.eq_10, semI.eq_11, semI.eq_3, semI.eq_5, semI.eq_7]
    refine .seq ?_
    refine .cond (p := (decide (v18 < ((List.replicate (IntKind.i64.wrap ((s.length : Int).tdiv 2)).toNat 0).length : Int)))) (by first | rfl | simp only [wz, wd, ws, Nat.reduceAdd, Nat.reduceSub, Nat.reduceMul, Nat.reduceLeDiff, Nat.reduceEqDiff, Nat.reduceLT, Nat.reduceBEq, reduceIte, reduceCtorEq, Int.reduceToNat, Nat.reduceShiftRight, Nat.reduceAnd, Nat.reduceBneDiff, Nat.reduceBNe]) (fun h1 => ?_) (fun h1 => ?_)
    · rw [ite_t h1] at h
      refine .skip ?_
      refine .seq ?_
      refine .blk ?_
      refine .seq ?_
      refine Rw.walk ?_
      simp only [wz, wd, ws, Nat.reduceAdd, Nat.reduceSub, Nat.reduceMul, Nat.reduceLeDiff, Nat.reduceEqDiff, Nat.reduceLT, Nat.reduceBEq, reduceIte, reduceCtorEq, Int.reduceToNat, Nat.reduceShiftRight, Nat.reduceAnd, Nat.reduceBneDiff, Nat.reduceBNe, c33r6, semI.eq_10, semI.eq_11, semI.eq_3, semI.eq_5, semI.eq_7]
      refine .seq ?_
      refine RwD.walk ?_
      simp only [wz, wd, ws, Nat.reduceAdd, Nat.reduceSub, Nat.reduceMul, Nat.reduceLeDiff, Nat.reduceEqDiff, Nat.reduceLT, Nat.reduceBEq, reduceIte, reduceCtorEq, Int.reduceToNat, Nat.reduceShiftRight, Nat.reduceAnd, Nat.reduceBneDiff, Nat.reduceBNe, c33r7, semI.eq_10, semI.eq_11, semI.eq_3, semI.eq_5, semI.eq_7]
      obtain ⟨c, e2, h⟩ := Option.bind_eq_some_iff.1 h
      refine GoD1.of (sem_idx e2 (by rfl) (by rfl)) ?_
      simp only [wz, wd, ws, Nat.reduceAdd, Nat.reduceSub, Nat.reduceMul, Nat.reduceLeDiff, Nat.reduceEqDiff, Nat.reduceLT, Nat.reduceBEq, reduceIte, reduceCtorEq, Int.reduceToNat, Nat.reduceShiftRight, Nat.reduceAnd, Nat.reduceBneDiff, Nat.reduceBNe, c33r7, semI.eq_10, semI.eq_11, semI.eq_3, semI.eq_5, semI.eq_7]
      obtain ⟨t, e3, h⟩ := Option.bind_eq_some_iff.1 h
      refine call_fun [] false ⟨trivial, trivial, trivial, trivial⟩ rfl ?_ (f_strings_IndexByte_ok _ _ _ e3) (fun _ => rfl) (fun i hi => by cases hi) ?_
      · simp only [wz, wd, ws, Nat.reduceAdd, Nat.reduceSub, Nat.reduceMul, Nat.reduceLeDiff, Nat.reduceEqDiff, Nat.reduceLT, Nat.reduceBEq, reduceIte, reduceCtorEq, Int.reduceToNat, Nat.reduceShiftRight, Nat.reduceAnd, Nat.reduceBneDiff, Nat.reduceBNe]
      simp only [wz, wd, ws, Nat.reduceAdd, Nat.reduceSub, Nat.reduceMul, Nat.reduceLeDiff, Nat.reduceEqDiff, Nat.reduceLT, Nat.reduceBEq, reduceIte, reduceCtorEq, Int.reduceToNat, Nat.reduceShiftRight, Nat.reduceAnd, Nat.reduceBneDiff, Nat.reduceBNe, c33r7, semI.eq_10, semI.eq_11, semI.eq_3, semI.eq_5, semI.eq_7]
      obtain ⟨c2, e4, h⟩ := Option.bind_eq_some_iff.1 h
      refine GoD1.of (sem_idx e4 (by rfl) (by rfl)) ?_
      simp only [wz, wd, ws, Nat.reduceAdd, Nat.reduceSub, Nat.reduceMul, Nat.reduceLeDiff, Nat.reduceEqDiff, Nat.reduceLT, Nat.reduceBEq, reduceIte, reduceCtorEq, Int.reduceToNat, Nat.reduceShiftRight, Nat.reduceAnd, Nat.reduceBneDiff, Nat.reduceBNe, c33r7, semI.eq_10, semI.eq_11, semI.eq_3, semI.eq_5, semI.eq_7]
      obtain ⟨t2, e5, h⟩ := Option.bind_eq_some_iff.1 h
      refine call_fun [] false ⟨trivial, trivial, trivial, trivial⟩ rfl ?_ (f_strings_IndexByte_ok _ _ _ e5) (fun _ => rfl) (fun i hi => by cases hi) ?_
      · simp only [wz, wd, ws, Nat.reduceAdd, Nat.reduceSub, Nat.reduceMul, Nat.reduceLeDiff, Nat.reduceEqDiff, Nat.reduceLT, Nat.reduceBEq, reduceIte, reduceCtorEq, Int.reduceToNat, Nat.reduceShiftRight, Nat.reduceAnd, Nat.reduceBneDiff, Nat.reduceBNe]
      simp only [wz, wd, ws, Nat.reduceAdd, Nat.reduceSub, Nat.reduceMul, Nat.reduceLeDiff, Nat.reduceEqDiff, Nat.reduceLT, Nat.reduceBEq, reduceIte, reduceCtorEq, Int.reduceToNat, Nat.reduceShiftRight, Nat.reduceAnd, Nat.reduceBneDiff, Nat.reduceBNe, c33r7, semI.eq_10, semI.eq_11, semI.eq_3, semI.eq_5, semI.eq_7]
      refine .seq ?_
      refine .seq ?_
      refine Rw.walk ?_
      simp only [wz, wd, ws, Nat.reduceAdd, Nat.reduceSub, Nat.reduceMul, Nat.reduceLeDiff, Nat.reduceEqDiff, Nat.reduceLT, Nat.reduceBEq, reduceIte, reduceCtorEq, Int.reduceToNat, Nat.reduceShiftRight, Nat.reduceAnd, Nat.reduceBneDiff, Nat.reduceBNe, c33r8, semI.eq_10, semI.eq_11, semI.eq_3, semI.eq_5, semI.eq_7]
      repeat (refine And.intro ?_ ?_; · first | omega | (intro q; simp only [wz, wd, ws, Nat.reduceAdd, Nat.reduceSub, Nat.reduceMul, Nat.reduceLeDiff, Nat.reduceEqDiff, Nat.reduceLT, Nat.reduceBEq, reduceIte, reduceCtorEq, Int.reduceToNat, Nat.reduceShiftRight, Nat.reduceAnd, Nat.reduceBneDiff, Nat.reduceBNe, q]; done))
      refine .cond (p := ((decide (t < 0)) || (decide (t2 < 0)))) (by first | rfl | simp only [wz, wd, ws, Nat.reduceAdd, Nat.reduceSub, Nat.reduceMul, Nat.reduceLeDiff, Nat.reduceEqDiff, Nat.reduceLT, Nat.reduceBEq, reduceIte, reduceCtorEq, Int.reduceToNat, Nat.reduceShiftRight, Nat.reduceAnd, Nat.reduceBneDiff, Nat.reduceBNe]) (fun h1 => ?_) (fun h1 => ?_)
      · rw [ite_t h1] at h
        refine .seq ?_
        refine Rw.walk ?_
        simp only [wz, wd, ws, Nat.reduceAdd, Nat.reduceSub, Nat.reduceMul, Nat.reduceLeDiff, Nat.reduceEqDiff, Nat.reduceLT, Nat.reduceBEq, reduceIte, reduceCtorEq, Int.reduceToNat, Nat.reduceShiftRight, Nat.reduceAnd, Nat.reduceBneDiff, Nat.reduceBNe, c33r9, semI.eq_10, semI.eq_11, semI.eq_3, semI.eq_5, semI.eq_7]
        obtain rfl := Option.some.inj h; obtain rfl := hr _ rfl
        refine .ret ?_
        rw [← hR]
        simp only [wz, wd, ws, Nat.reduceAdd, Nat.reduceSub, Nat.reduceMul, Nat.reduceLeDiff, Nat.reduceEqDiff, Nat.reduceLT, Nat.reduceBEq, reduceIte, reduceCtorEq, Int.reduceToNat, Nat.reduceShiftRight, Nat.reduceAnd, Nat.reduceBneDiff, Nat.reduceBNe, rv33]
      · rw [ite_f h1] at h
        refine .skip ?_
        refine Rw.walk ?_
        simp only [wz, wd, ws, Nat.reduceAdd, Nat.reduceSub, Nat.reduceMul, Nat.reduceLeDiff, Nat.reduceEqDiff, Nat.reduceLT, Nat.reduceBEq, reduceIte, reduceCtorEq, Int.reduceToNat, Nat.reduceShiftRight, Nat.reduceAnd, Nat.reduceBneDiff, Nat.reduceBNe, c33r10, semI.eq_3, semI.eq_5, semI.eq_7]
        obtain ⟨x, e6, h⟩ := Option.bind_eq_some_iff.1 h
        refine Go1.of (sem_iadrO (l := out) e6 (by rfl) (by rfl) (by rfl)) ?_
        simp only [wz, wd, ws, Nat.reduceAdd, Nat.reduceSub, Nat.reduceMul, Nat.reduceLeDiff, Nat.reduceEqDiff, Nat.reduceLT, Nat.reduceBEq, reduceIte, reduceCtorEq, Int.reduceToNat, Nat.reduceShiftRight, Nat.reduceAnd, Nat.reduceBneDiff, Nat.reduceBNe, c33r10, semI.eq_3, semI.eq_5, semI.eq_7, er_get e6]
        refine Go1.of (sem_store (enc := (eI .u8)) (l := out) (a := x) (a' := (IntKind.u8.wrap (IntKind.i64.wrap ((IntKind.i64.wrap (t * 16)) + t2)))) (v := .b (.s (.d (.int .u8 (IntKind.u8.wrap (IntKind.i64.wrap ((IntKind.i64.wrap (t * 16)) + t2))))))) (by rfl) (by rfl) (er_get e6) (by rfl) (by trivial) (by rfl) (Nat.le_of_ble_eq_true (by rfl)) (by rfl)) ?_
        simp only [wz, wd, ws, Nat.reduceAdd, Nat.reduceSub, Nat.reduceMul, Nat.reduceLeDiff, Nat.reduceEqDiff, Nat.reduceLT, Nat.reduceBEq, reduceIte, reduceCtorEq, Int.reduceToNat, Nat.reduceShiftRight, Nat.reduceAnd, Nat.reduceBneDiff, Nat.reduceBNe, c33r10, semI.eq_3, semI.eq_5, semI.eq_7, er_get e6]
        refine .eblk ?_
        refine Rw.walk ?_
        simp only [wz, wd, ws, Nat.reduceAdd, Nat.reduceSub, Nat.reduceMul, Nat.reduceLeDiff, Nat.reduceEqDiff, Nat.reduceLT, Nat.reduceBEq, reduceIte, reduceCtorEq, Int.reduceToNat, Nat.reduceShiftRight, Nat.reduceAnd, Nat.reduceBneDiff, Nat.reduceBNe, c33r11, semI.eq_10, semI.eq_11, semI.eq_3, semI.eq_5, semI.eq_7, er_get e6]
        refine .lp ?_
        refine .weak (Imp.co [] _ _ ?_ ?_ ?_ ?_ ?_) (ih (IntKind.i64.wrap (v18 + 1)) (out.set v18.toNat (IntKind.u8.wrap (IntKind.i64.wrap ((IntKind.i64.wrap (t * 16)) + t2)))) _ h k_ hx hr) <;> simp only [wz, wd, ws, Nat.reduceAdd, Nat.reduceSub, Nat.reduceMul, Nat.reduceLeDiff, Nat.reduceEqDiff, Nat.reduceLT, Nat.reduceBEq, reduceIte, reduceCtorEq, Int.reduceToNat, Nat.reduceShiftRight, Nat.reduceAnd, Nat.reduceBneDiff, Nat.reduceBNe, wi, er_nil]
    · rw [ite_f h1] at h
      refine .exit rfl ?_
      obtain rfl := Option.some.inj h
      refine .weak (Imp.co [] _ _ ?_ ?_ ?_ ?_ ?_) (hx _ rfl) <;> simp only [wz, wd, ws, Nat.reduceAdd, Nat.reduceSub, Nat.reduceMul, Nat.reduceLeDiff, Nat.reduceEqDiff, Nat.reduceLT, Nat.reduceBEq, reduceIte, reduceCtorEq, Int.reduceToNat, Nat.reduceShiftRight, Nat.reduceAnd, Nat.reduceBneDiff, Nat.reduceBNe, wi, er_nil]
theorem f_octet_Bytes_ok (s : Str) (y_ : Str × Int) (h : f_octet_Bytes s = some y_) : Fun Tryd.prog glP 33 [.b (.s (.d (.str s)))] (.tup [.s (.d (.str y_.1)), .s (.d (.int .i64 y_.2))]) := by
  refine fun_walk [] Tryd.func33 Tryd.ntmps33 cc33 cr33 (by kernel_rfl) (by simp only [List.length_cons, List.length_nil]; decide) ?_
  generalize hR : Ret _ _ _ _ _ = R_
  simp only [wz, wd, ws, Nat.reduceAdd, Nat.reduceSub, Nat.reduceMul, Nat.reduceLeDiff, Nat.reduceEqDiff, Nat.reduceLT, Nat.reduceBEq, reduceIte, reduceCtorEq, Int.reduceToNat, Nat.reduceShiftRight, Nat.reduceAnd, Nat.reduceBneDiff, Nat.reduceBNe]
  unfold f_octet_Bytes at h; unfold c33
  refine .seq ?_
  refine Rw.walk ?_
  simp only [wz, wd, ws, Nat.reduceAdd, Nat.reduceSub, Nat.reduceMul, Nat.reduceLeDiff, Nat.reduceEqDiff, Nat.reduceLT, Nat.reduceBEq, reduceIte, reduceCtorEq, Int.reduceToNat, Nat.reduceShiftRight, Nat.reduceAnd, Nat.reduceBneDiff, Nat.reduceBNe, c33r0, semI.eq_10, semI.eq_11, semI.eq_3, semI.eq_5, semI.eq_7]
  refine .seq ?_
  refine .seq ?_
  refine Rw.walk ?_
  simp only [wz, wd, ws, Nat.reduceAdd, Nat.reduceSub, Nat.reduceMul, Nat.reduceLeDiff, Nat.reduceEqDiff, Nat.reduceLT, Nat.reduceBEq, reduceIte, reduceCtorEq, Int.reduceToNat, Nat.reduceShiftRight, Nat.reduceAnd, Nat.reduceBneDiff, Nat.reduceBNe, c33r1, semI.eq_10, semI.eq_11, semI.eq_3, semI.eq_5, semI.eq_7]
  repeat (refine And.intro ?_ ?_; · first | omega | (intro q; simp only [wz, wd, ws, Nat.reduceAdd, Nat.reduceSub, Nat.reduceMul, Nat.reduceLeDiff, Nat.reduceEqDiff, Nat.reduceLT, Nat.reduceBEq, reduceIte, reduceCtorEq, Int.reduceToNat, Nat.reduceShiftRight, Nat.reduceAnd, Nat.reduceBneDiff, Nat.reduceBNe, q]; done))
  refine .cond (p := (((s.length : Int).tmod 2) != 0)) (by first | rfl | simp only [wz, wd, ws, Nat.reduceAdd, Nat.reduceSub, Nat.reduceMul, Nat.reduceLeDiff, Nat.reduceEqDiff, Nat.reduceLT, Nat.reduceBEq, reduceIte, reduceCtorEq, Int.reduceToNat, Nat.reduceShiftRight, Nat.reduceAnd, Nat.reduceBneDiff, Nat.reduceBNe]) (fun h1 => ?_) (fun h1 => ?_)
  · rw [ite_t h1] at h
    refine .seq ?_
    refine Rw.walk ?_
    simp only [wz, wd, ws, Nat.reduceAdd, Nat.reduceSub, Nat.reduceMul, Nat.reduceLeDiff, Nat.reduceEqDiff, Nat.reduceLT, Nat.reduceBEq, reduceIte, reduceCtorEq, Int.reduceToNat, Nat.reduceShiftRight, Nat.reduceAnd, Nat.reduceBneDiff, Nat.reduceBNe, c33r2, semI.eq_10, semI.eq_11, semI.eq_3, semI.eq_5, semI.eq_7]
    obtain rfl := Option.some.inj h
    refine .ret ?_
    rw [← hR]
    simp only [wz, wd, ws, Nat.reduceAdd, Nat.reduceSub, Nat.reduceMul, Nat.reduceLeDiff, Nat.reduceEqDiff, Nat.reduceLT, Nat.reduceBEq, reduceIte, reduceCtorEq, Int.reduceToNat, Nat.reduceShiftRight, Nat.reduceAnd, Nat.reduceBneDiff, Nat.reduceBNe, rv33]
  · rw [ite_f h1] at h
    refine .skip ?_
    refine .seq ?_
    refine Rw.walk ?_
    simp only [wz, wd, ws, Nat.reduceAdd, Nat.reduceSub, Nat.reduceMul, Nat.reduceLeDiff, Nat.reduceEqDiff, Nat.reduceLT, Nat.reduceBEq, reduceIte, reduceCtorEq, Int.reduceToNat, Nat.reduceShiftRight, Nat.reduceAnd, Nat.reduceBneDiff, Nat.reduceBNe, c33r3, semI.eq_10, semI.eq_11, semI.eq_3, semI.eq_5, semI.eq_7]
    obtain ⟨g1, h⟩ := gd_iff.1 h
    repeat (refine And.intro ?_ ?_; · first | omega | (intro q; simp only [wz, wd, ws, Nat.reduceAdd, Nat.reduceSub, Nat.reduceMul, Nat.reduceLeDiff, Nat.reduceEqDiff, Nat.reduceLT, Nat.reduceBEq, reduceIte, reduceCtorEq, Int.reduceToNat, Nat.reduceShiftRight, Nat.reduceAnd, Nat.reduceBneDiff, Nat.reduceBNe, q]; done))
    refine Go1.of (sem_mksl (enc := (eI .u8)) (z1 := 0) (p := (IntKind.i64.wrap ((s.length : Int).tdiv 2))) (q := (IntKind.i64.wrap ((s.length : Int).tdiv 2))) (by rfl) (by rfl) (by rfl) (by rfl) (by rfl)) ?_
    simp only [wz, wd, ws, Nat.reduceAdd, Nat.reduceSub, Nat.reduceMul, Nat.reduceLeDiff, Nat.reduceEqDiff, Nat.reduceLT, Nat.reduceBEq, reduceIte, reduceCtorEq, Int.reduceToNat, Nat.reduceShiftRight, Nat.reduceAnd, Nat.reduceBneDiff, Nat.reduceBNe, c33r3, semI.eq_10, semI.eq_11, semI.eq_3, semI.eq_5, semI.eq_7]
    repeat (refine And.intro ?_ ?_; · first | omega | (intro q; simp only [wz, wd, ws, Nat.reduceAdd, Nat.reduceSub, Nat.reduceMul, Nat.reduceLeDiff, Nat.reduceEqDiff, Nat.reduceLT, Nat.reduceBEq, reduceIte, reduceCtorEq, Int.reduceToNat, Nat.reduceShiftRight, Nat.reduceAnd, Nat.reduceBneDiff, Nat.reduceBNe, q]; done))
    refine .seq ?_
    refine .seq ?_
    refine Rw.walk ?_
    simp only [wz, wd, ws, Nat.reduceAdd, Nat.reduceSub, Nat.reduceMul, Nat.reduceLeDiff, Nat.reduceEqDiff, Nat.reduceLT, Nat.reduceBEq, reduceIte, reduceCtorEq, Int.reduceToNat, Nat.reduceShiftRight, Nat.reduceAnd, Nat.reduceBneDiff, Nat.reduceBNe, c33r4, semI.eq_10, semI.eq_11, semI.eq_3, semI.eq_5, semI.eq_7]
    refine .blk ?_
    obtain ⟨s2, hf, h⟩ := Option.bind_eq_some_iff.1 h
    refine .loop (.weak (Imp.co [] _ _ ?c1 ?c2 ?c3 ?c4 ?c5) (f_octet_Bytes_l12_ok s _ _ hR _ _ _ _ hf _ ?_ ?_))
    case c1 | c2 | c3 | c4 | c5 => simp only [wz, wd, ws, Nat.reduceAdd, Nat.reduceSub, Nat.reduceMul, Nat.reduceLeDiff, Nat.reduceEqDiff, Nat.reduceLT, Nat.reduceBEq, reduceIte, reduceCtorEq, Int.reduceToNat, Nat.reduceShiftRight, Nat.reduceAnd, Nat.reduceBneDiff, Nat.reduceBNe, wi, er_nil]
    · intro s3 hs; subst hs; dsimp only at h
      refine .seq ?_
      refine Rw.walk ?_
      simp only [wz, wd, ws, Nat.reduceAdd, Nat.reduceSub, Nat.reduceMul, Nat.reduceLeDiff, Nat.reduceEqDiff, Nat.reduceLT, Nat.reduceBEq, reduceIte, reduceCtorEq, Int.reduceToNat, Nat.reduceShiftRight, Nat.reduceAnd, Nat.reduceBneDiff, Nat.reduceBNe, c33r12, semI.eq_10, semI.eq_11, semI.eq_3, semI.eq_5, semI.eq_7]
      refine Go1.of (sem_b2s (n := s3.2) (rowsV_own (m := s3.2) (by rfl) (by rfl))) ?_
      simp only [wz, wd, ws, Nat.reduceAdd, Nat.reduceSub, Nat.reduceMul, Nat.reduceLeDiff, Nat.reduceEqDiff, Nat.reduceLT, Nat.reduceBEq, reduceIte, reduceCtorEq, Int.reduceToNat, Nat.reduceShiftRight, Nat.reduceAnd, Nat.reduceBneDiff, Nat.reduceBNe, c33r12, semI.eq_10, semI.eq_11, semI.eq_3, semI.eq_5, semI.eq_7]
      obtain rfl := Option.some.inj h
      refine .ret ?_
      rw [← hR]
      simp only [wz, wd, ws, Nat.reduceAdd, Nat.reduceSub, Nat.reduceMul, Nat.reduceLeDiff, Nat.reduceEqDiff, Nat.reduceLT, Nat.reduceBEq, reduceIte, reduceCtorEq, Int.reduceToNat, Nat.reduceShiftRight, Nat.reduceAnd, Nat.reduceBneDiff, Nat.reduceBNe, rv33]
    · intro z hz; subst hz; dsimp only at h
      exact Option.some.inj h
-- 21 consignor/digest.Parse
def c21r0 : List Opn := [
  ⟨(some 2), none, .mv (.c (.s (.d (.str []))))⟩, 
  ⟨(some 3), none, .mv (.c (.s (.d (.int .i64 0))))⟩]
def c21r1 : List Opn := [
  ⟨(some 9), none, .mv (.t 0)⟩, 
  ⟨(some 10), none, .call (.fn 32) [(.t 9), (.c (.s (.d (.str [115, 104, 97, 50, 53, 54, 58]))))]⟩, 
  ⟨(some 8), none, .mv (.t 10)⟩, 
  ⟨(some 11), none, .ext (.t 8) 0⟩, 
  ⟨(some 12), none, .ext (.t 8) 1⟩, 
  ⟨(some 4), none, .mv (.t 11)⟩, 
  ⟨(some 5), none, .mv (.t 12)⟩]
def c21r2 : List Opn := [
  ⟨(some 14), none, .mv (.t 4)⟩, 
  ⟨(some 15), none, .call (.fn 33) [(.t 14)]⟩, 
  ⟨(some 13), none, .mv (.t 15)⟩, 
  ⟨(some 16), none, .ext (.t 13) 0⟩, 
  ⟨(some 17), none, .ext (.t 13) 1⟩, 
  ⟨(some 6), none, .mv (.t 16)⟩, 
  ⟨(some 7), none, .mv (.t 17)⟩]
def c21r3 : List Opn := [
  ⟨(some 18), none, .mv (.t 5)⟩, 
  ⟨(some 19), none, .un .not (.t 18)⟩, 
  ⟨(some 20), none, .mv (.t 19)⟩, 
  ⟨(some 21), some (20, false), .mv (.t 7)⟩, 
  ⟨(some 22), some (20, false), .bin .neq (.t 21) (.c (.s (.d (.int .i64 0))))⟩, 
  ⟨(some 23), none, .pick (.t 20) (.c (.s (.d (.bool true)))) (.t 22)⟩, 
  ⟨(some 24), none, .mv (.t 23)⟩, 
  ⟨(some 25), some (24, false), .mv (.t 6)⟩, 
  ⟨(some 26), some (24, false), .len .str (.t 25)⟩, 
  ⟨(some 27), some (24, false), .bin .neq (.t 26) (.c (.s (.d (.int .i64 32))))⟩, 
  ⟨(some 28), none, .pick (.t 24) (.c (.s (.d (.bool true)))) (.t 27)⟩]
def c21r4 : List Opn := [
  ⟨(some 2), none, .mv (.c (.s (.d (.str []))))⟩, 
  ⟨(some 3), none, .mv (.c (.s (.d (.int .i64 6))))⟩]
def c21r5 : List Opn := [
  ⟨(some 29), none, .mv (.t 6)⟩, 
  ⟨(some 2), none, .mv (.t 29)⟩, 
  ⟨(some 3), none, .mv (.c (.s (.d (.int .i64 0))))⟩]
def c21 : C := .seq (.reg c21r0 none [0]) (.seq (.reg c21r1 none [4, 5]) (.seq (.reg c21r2 none [5, 6, 7]) (.seq (.seq (.reg c21r3 none [6, 28]) (.cond (.t 28) (.seq (.reg c21r4 none [2, 3]) (.ret)) (.skip))) (.seq (.reg c21r5 none [2, 3]) (.ret)))))
def k21 : List (Nat × List Nat) := [(5, [2, 3]), (4, [2, 3]), (3, [6, 28]), (2, [5, 6, 7]), (1, [4, 5]), (0, [0])]
theorem cc21 : (Tryd.f21.body).bind (cC Tryd.prog 30 k21) = some c21 := by kernel_rfl
def rv21 : List RV := [.t 2, .t 3]
theorem cr21 : cRVs Tryd.prog Tryd.f21.results.toList = some rv21 := by kernel_rfl
theorem f_digest_Parse_ok (s : Str) (y_ : Str × Int) (h : f_digest_Parse s = some y_) : Fun Tryd.prog glP 21 [.b (.s (.d (.str s)))] (.tup [.s (.d (.str y_.1)), .s (.d (.int .i64 y_.2))]) := by
  refine fun_walk [] Tryd.func21 Tryd.ntmps21 cc21 cr21 (by kernel_rfl) (by simp only [List.length_cons, List.length_nil]; decide) ?_
  generalize hR : Ret _ _ _ _ _ = R_
  simp only [wz, wd, ws, Nat.reduceAdd, Nat.reduceSub, Nat.reduceMul, Nat.reduceLeDiff, Nat.reduceEqDiff, Nat.reduceLT, Nat.reduceBEq, reduceIte, reduceCtorEq, Int.reduceToNat, Nat.reduceShiftRight, Nat.reduceAnd, Nat.reduceBneDiff, Nat.reduceBNe]
  unfold f_digest_Parse at h; unfold c21
  refine .seq ?_
  refine Rw.walk ?_
  simp only [wz, wd, ws, Nat.reduceAdd, Nat.reduceSub, Nat.reduceMul, Nat.reduceLeDiff, Nat.reduceEqDiff, Nat.reduceLT, Nat.reduceBEq, reduceIte, reduceCtorEq, Int.reduceToNat, Nat.reduceShiftRight, Nat.reduceAnd, Nat.reduceBneDiff, Nat.reduceBNe, c21r0, semI.eq_10, semI.eq_11, semI.eq_3, semI.eq_5, semI.eq_7]
  refine .seq ?_
  refine Rw.walk ?_
  simp only [wz, wd, ws, Nat.reduceAdd, Nat.reduceSub, Nat.reduceMul, Nat.reduceLeDiff, Nat.reduceEqDiff, Nat.reduceLT, Nat.reduceBEq, reduceIte, reduceCtorEq, Int.reduceToNat, Nat.reduceShiftRight, Nat.reduceAnd, Nat.reduceBneDiff, Nat.reduceBNe, c21r1, semI.eq_10, semI.eq_11, semI.eq_3, semI.eq_5, semI.eq_7]
  obtain ⟨t, e1, h⟩ := Option.bind_eq_some_iff.1 h
  refine call_fun [] false ⟨trivial, trivial, trivial, trivial⟩ rfl ?_ (f_strings_CutPrefix_ok _ _ _ e1) (fun _ => rfl) (fun i hi => by cases hi) ?_
  · simp only [wz, wd, ws, Nat.reduceAdd, Nat.reduceSub, Nat.reduceMul, Nat.reduceLeDiff, Nat.reduceEqDiff, Nat.reduceLT, Nat.reduceBEq, reduceIte, reduceCtorEq, Int.reduceToNat, Nat.reduceShiftRight, Nat.reduceAnd, Nat.reduceBneDiff, Nat.reduceBNe]
  simp only [wz, wd, ws, Nat.reduceAdd, Nat.reduceSub, Nat.reduceMul, Nat.reduceLeDiff, Nat.reduceEqDiff, Nat.reduceLT, Nat.reduceBEq, reduceIte, reduceCtorEq, Int.reduceToNat, Nat.reduceShiftRight, Nat.reduceAnd, Nat.reduceBneDiff, Nat.reduceBNe, c21r1, semI.eq_10, semI.eq_11, semI.eq_3, semI.eq_5, semI.eq_7]
  refine .seq ?_
  refine Rw.walk ?_
  simp only [wz, wd, ws, Nat.reduceAdd, Nat.reduceSub, Nat.reduceMul, Nat.reduceLeDiff, Nat.reduceEqDiff, Nat.reduceLT, Nat.reduceBEq, reduceIte, reduceCtorEq, Int.reduceToNat, Nat.reduceShiftRight, Nat.reduceAnd, Nat.reduceBneDiff, Nat.reduceBNe, c21r2, semI.eq_10, semI.eq_11, semI.eq_3, semI.eq_5, semI.eq_7]
  obtain ⟨t2, e2, h⟩ := Option.bind_eq_some_iff.1 h
  refine call_fun [] false ⟨trivial, trivial, trivial⟩ rfl ?_ (f_octet_Bytes_ok _ _ e2) (fun _ => rfl) (fun i hi => by cases hi) ?_
  · simp only [wz, wd, ws, Nat.reduceAdd, Nat.reduceSub, Nat.reduceMul, Nat.reduceLeDiff, Nat.reduceEqDiff, Nat.reduceLT, Nat.reduceBEq, reduceIte, reduceCtorEq, Int.reduceToNat, Nat.reduceShiftRight, Nat.reduceAnd, Nat.reduceBneDiff, Nat.reduceBNe]
  simp only [wz, wd, ws, Nat.reduceAdd, Nat.reduceSub, Nat.reduceMul, Nat.reduceLeDiff, Nat.reduceEqDiff, Nat.reduceLT, Nat.reduceBEq, reduceIte, reduceCtorEq, Int.reduceToNat, Nat.reduceShiftRight, Nat.reduceAnd, Nat.reduceBneDiff, Nat.reduceBNe, c21r2, semI.eq_10, semI.eq_11, semI.eq_3, semI.eq_5, semI.eq_7]
  refine .seq ?_
  refine .seq ?_
  refine Rw.walk ?_
  simp only [wz, wd, ws, Nat.reduceAdd, Nat.reduceSub, Nat.reduceMul, Nat.reduceLeDiff, Nat.reduceEqDiff, Nat.reduceLT, Nat.reduceBEq, reduceIte, reduceCtorEq, Int.reduceToNat, Nat.reduceShiftRight, Nat.reduceAnd, Nat.reduceBneDiff, Nat.reduceBNe, c21r3, semI.eq_10, semI.eq_11, semI.eq_3, semI.eq_5, semI.eq_7]
  repeat (refine And.intro ?_ ?_; · first | omega | (intro q; simp only [wz, wd, ws, Nat.reduceAdd, Nat.reduceSub, Nat.reduceMul, Nat.reduceLeDiff, Nat.reduceEqDiff, Nat.reduceLT, Nat.reduceBEq, reduceIte, reduceCtorEq, Int.reduceToNat, Nat.reduceShiftRight, Nat.reduceAnd, Nat.reduceBneDiff, Nat.reduceBNe, q]; done))
  refine .cond (p := (((!t.2) || (t2.2 != 0)) || ((t2.1.length : Int) != 32))) (by first | rfl | simp only [wz, wd, ws, Nat.reduceAdd, Nat.reduceSub, Nat.reduceMul, Nat.reduceLeDiff, Nat.reduceEqDiff, Nat.reduceLT, Nat.reduceBEq, reduceIte, reduceCtorEq, Int.reduceToNat, Nat.reduceShiftRight, Nat.reduceAnd, Nat.reduceBneDiff, Nat.reduceBNe]) (fun h1 => ?_) (fun h1 => ?_)
  · rw [ite_t h1] at h
    refine .seq ?_
    refine Rw.walk ?_
    simp only [wz, wd, ws, Nat.reduceAdd, Nat.reduceSub, Nat.reduceMul, Nat.reduceLeDiff, Nat.reduceEqDiff, Nat.reduceLT, Nat.reduceBEq, reduceIte, reduceCtorEq, Int.reduceToNat, Nat.reduceShiftRight, Nat.reduceAnd, Nat.reduceBneDiff, Nat.reduceBNe, c21r4, semI.eq_10, semI.eq_11, semI.eq_3, semI.eq_5, semI.eq_7]
    obtain rfl := Option.some.inj h
    refine .ret ?_
    rw [← hR]
    simp only [wz, wd, ws, Nat.reduceAdd, Nat.reduceSub, Nat.reduceMul, Nat.reduceLeDiff, Nat.reduceEqDiff, Nat.reduceLT, Nat.reduceBEq, reduceIte, reduceCtorEq, Int.reduceToNat, Nat.reduceShiftRight, Nat.reduceAnd, Nat.reduceBneDiff, Nat.reduceBNe, rv21]
  · rw [ite_f h1] at h
    refine .skip ?_
    refine .seq ?_
    refine Rw.walk ?_
    simp only [wz, wd, ws, Nat.reduceAdd, Nat.reduceSub, Nat.reduceMul, Nat.reduceLeDiff, Nat.reduceEqDiff, Nat.reduceLT, Nat.reduceBEq, reduceIte, reduceCtorEq, Int.reduceToNat, Nat.reduceShiftRight, Nat.reduceAnd, Nat.reduceBneDiff, Nat.reduceBNe, c21r5, semI.eq_10, semI.eq_11, semI.eq_3, semI.eq_5, semI.eq_7]
    obtain rfl := Option.some.inj h
    refine .ret ?_
    rw [← hR]
    simp only [wz, wd, ws, Nat.reduceAdd, Nat.reduceSub, Nat.reduceMul, Nat.reduceLeDiff, Nat.reduceEqDiff, Nat.reduceLT, Nat.reduceBEq, reduceIte, reduceCtorEq, Int.reduceToNat, Nat.reduceShiftRight, Nat.reduceAnd, Nat.reduceBneDiff, Nat.reduceBNe, rv21]
-- 26 consignor/name.small
def c26r0 : List Opn := [
  ⟨(some 2), none, .mv (.c (.s (.d (.bool false))))⟩]
def c26r1 : List Opn := [
  ⟨(some 3), none, .mv (.t 0)⟩, 
  ⟨(some 4), none, .bin .geq (.t 3) (.c (.s (.d (.int .u8 97))))⟩, 
  ⟨(some 5), none, .mv (.t 4)⟩, 
  ⟨(some 6), some (5, true), .mv (.t 0)⟩, 
  ⟨(some 7), some (5, true), .bin .leq (.t 6) (.c (.s (.d (.int .u8 122))))⟩, 
  ⟨(some 8), none, .pick (.t 5) (.t 7) (.c (.s (.d (.bool false))))⟩, 
  ⟨(some 9), none, .mv (.t 8)⟩, 
  ⟨(some 10), some (9, false), .mv (.t 0)⟩, 
  ⟨(some 11), some (9, false), .bin .geq (.t 10) (.c (.s (.d (.int .u8 48))))⟩, 
  ⟨(some 12), some (9, false), .mv (.t 11)⟩, 
  ⟨(some 13), some (12, true), .mv (.t 0)⟩, 
  ⟨(some 14), some (12, true), .bin .leq (.t 13) (.c (.s (.d (.int .u8 57))))⟩, 
  ⟨(some 15), some (9, false), .pick (.t 12) (.t 14) (.c (.s (.d (.bool false))))⟩, 
  ⟨(some 16), none, .pick (.t 9) (.c (.s (.d (.bool true)))) (.t 15)⟩, 
  ⟨(some 2), none, .mv (.t 16)⟩]
def c26 : C := .seq (.reg c26r0 none [0]) (.seq (.reg c26r1 none [2]) (.ret))
def k26 : List (Nat × List Nat) := [(1, [2]), (0, [0])]
theorem cc26 : (Tryd.f26.body).bind (cC Tryd.prog 17 k26) = some c26 := by kernel_rfl
def rv26 : List RV := [.t 2]
theorem cr26 : cRVs Tryd.prog Tryd.f26.results.toList = some rv26 := by kernel_rfl
theorem f_name_small_ok (c : Int) (y_ : Bool) (h : f_name_small c = some y_) : Fun Tryd.prog glP 26 [.b (.s (.d (.int .u8 c)))] (.b (.s (.d (.bool y_)))) := by
  refine fun_walk [] Tryd.func26 Tryd.ntmps26 cc26 cr26 (by kernel_rfl) (by simp only [List.length_cons, List.length_nil]; decide) ?_
  generalize hR : Ret _ _ _ _ _ = R_
  simp only [wz, wd, ws, Nat.reduceAdd, Nat.reduceSub, Nat.reduceMul, Nat.reduceLeDiff, Nat.reduceEqDiff, Nat.reduceLT, Nat.reduceBEq, reduceIte, reduceCtorEq, Int.reduceToNat, Nat.reduceShiftRight, Nat.reduceAnd, Nat.reduceBneDiff, Nat.reduceBNe]
  unfold f_name_small at h; unfold c26
  refine .seq ?_
  refine Rw.walk ?_
  simp only [wz, wd, ws, Nat.reduceAdd, Nat.reduceSub, Nat.reduceMul, Nat.reduceLeDiff, Nat.reduceEqDiff, Nat.reduceLT, Nat.reduceBEq, reduceIte, reduceCtorEq, Int.reduceToNat, Nat.reduceShiftRight, Nat.reduceAnd, Nat.reduceBneDiff, Nat.reduceBNe, c26r0, semI.eq_10, semI.eq_11, semI.eq_3, semI.eq_5, semI.eq_7]
  refine .seq ?_
  refine Rw.walk ?_
  simp only [wz, wd, ws, Nat.reduceAdd, Nat.reduceSub, Nat.reduceMul, Nat.reduceLeDiff, Nat.reduceEqDiff, Nat.reduceLT, Nat.reduceBEq, reduceIte, reduceCtorEq, Int.reduceToNat, Nat.reduceShiftRight, Nat.reduceAnd, Nat.reduceBneDiff, Nat.reduceBNe, c26r1, semI.eq_10, semI.eq_11, semI.eq_3, semI.eq_5, semI.eq_7]
  repeat (refine And.intro ?_ ?_; · first | omega | (intro q; simp only [wz, wd, ws, Nat.reduceAdd, Nat.reduceSub, Nat.reduceMul, Nat.reduceLeDiff, Nat.reduceEqDiff, Nat.reduceLT, Nat.reduceBEq, reduceIte, reduceCtorEq, Int.reduceToNat, Nat.reduceShiftRight, Nat.reduceAnd, Nat.reduceBneDiff, Nat.reduceBNe, q]; done))
  obtain rfl := Option.some.inj h
  refine .ret ?_
  rw [← hR]
  simp only [wz, wd, ws, Nat.reduceAdd, Nat.reduceSub, Nat.reduceMul, Nat.reduceLeDiff, Nat.reduceEqDiff, Nat.reduceLT, Nat.reduceBEq, reduceIte, reduceCtorEq, Int.reduceToNat, Nat.reduceShiftRight, Nat.reduceAnd, Nat.reduceBneDiff, Nat.reduceBNe, rv26]
-- 23 consignor/name.part
def c23r0 : List Opn := [
  ⟨(some 2), none, .mv (.c (.s (.d (.bool false))))⟩]
def c23r1 : List Opn := [
  ⟨(some 3), none, .mv (.c (.s (.d (.int .i64 0))))⟩]
def c23r2 : List Opn := [
  ⟨(some 6), none, .mv (.t 0)⟩, 
  ⟨(some 7), none, .len .str (.t 6)⟩, 
  ⟨(some 8), none, .mv (.c (.s (.d (.int .i64 0))))⟩]
def c23r3 : List Opn := [
  ⟨(some 9), none, .bin .lss (.t 8) (.t 7)⟩]
def c23r4 : List Opn := [
  ⟨(some 10), none, .mv (.t 8)⟩, 
  ⟨(some 4), none, .mv (.t 10)⟩]
def c23r5 : List Opn := [
  ⟨(some 11), none, .mv (.t 0)⟩, 
  ⟨(some 12), none, .mv (.t 4)⟩, 
  ⟨(some 13), none, .idx .str (.t 11) (.t 12)⟩, 
  ⟨(some 5), none, .mv (.t 13)⟩]
def c23r6 : List Opn := [
  ⟨(some 15), none, .mv (.t 5)⟩, 
  ⟨(some 16), none, .call (.fn 26) [(.t 15)]⟩, 
  ⟨(some 14), none, .mv (.t 16)⟩]
def c23r7 : List Opn := [
  ⟨(some 18), none, .mv (.t 5)⟩, 
  ⟨(some 19), none, .bin .eql (.t 18) (.c (.s (.d (.int .u8 45))))⟩, 
  ⟨(some 17), none, .mv (.t 19)⟩]
def c23r8 : List Opn := [
  ⟨(some 21), none, .mv (.t 5)⟩, 
  ⟨(some 22), none, .bin .eql (.t 21) (.c (.s (.d (.int .u8 95))))⟩, 
  ⟨(some 23), none, .mv (.t 22)⟩, 
  ⟨(some 24), some (23, true), .mv (.t 3)⟩, 
  ⟨(some 25), some (23, true), .bin .eql (.t 24) (.c (.s (.d (.int .i64 1))))⟩, 
  ⟨(some 26), none, .pick (.t 23) (.t 25) (.c (.s (.d (.bool false))))⟩, 
  ⟨(some 27), none, .mv (.t 26)⟩, 
  ⟨(some 28), some (27, true), .mv (.t 0)⟩, 
  ⟨(some 29), some (27, true), .mv (.t 4)⟩, 
  ⟨(some 30), some (27, true), .bin .sub (.t 29) (.c (.s (.d (.int .i64 1))))⟩, 
  ⟨(some 31), some (27, true), .idx .str (.t 28) (.t 30)⟩, 
  ⟨(some 32), some (27, true), .bin .eql (.t 31) (.c (.s (.d (.int .u8 95))))⟩, 
  ⟨(some 33), none, .pick (.t 27) (.t 32) (.c (.s (.d (.bool false))))⟩, 
  ⟨(some 20), none, .mv (.t 33)⟩]
def c23r9 : List Opn := [
  ⟨(some 35), none, .mv (.t 5)⟩, 
  ⟨(some 36), none, .bin .eql (.t 35) (.c (.s (.d (.int .u8 95))))⟩, 
  ⟨(some 34), none, .mv (.t 36)⟩]
def c23r10 : List Opn := [
  ⟨(some 38), none, .mv (.t 5)⟩, 
  ⟨(some 39), none, .bin .eql (.t 38) (.c (.s (.d (.int .u8 46))))⟩, 
  ⟨(some 37), none, .mv (.t 39)⟩]
def c23r11 : List Opn := [
  ⟨(some 3), none, .mv (.c (.s (.d (.int .i64 0))))⟩]
def c23r12 : List Opn := [
  ⟨(some 40), none, .mv (.t 3)⟩, 
  ⟨(some 41), none, .bin .gtr (.t 40) (.c (.s (.d (.int .i64 0))))⟩, 
  ⟨(some 42), none, .mv (.t 41)⟩, 
  ⟨(some 43), some (42, true), .mv (.t 0)⟩, 
  ⟨(some 44), some (42, true), .mv (.t 4)⟩, 
  ⟨(some 45), some (42, true), .bin .sub (.t 44) (.c (.s (.d (.int .i64 1))))⟩, 
  ⟨(some 46), some (42, true), .idx .str (.t 43) (.t 45)⟩, 
  ⟨(some 47), some (42, true), .bin .neq (.t 46) (.c (.s (.d (.int .u8 45))))⟩, 
  ⟨(some 48), none, .pick (.t 42) (.t 47) (.c (.s (.d (.bool false))))⟩]
def c23r13 : List Opn := [
  ⟨(some 2), none, .mv (.c (.s (.d (.bool false))))⟩]
def c23r14 : List Opn := [
  ⟨(some 49), none, .mv (.t 3)⟩, 
  ⟨(some 50), none, .bin .gtr (.t 49) (.c (.s (.d (.int .i64 0))))⟩]
def c23r15 : List Opn := [
  ⟨(some 2), none, .mv (.c (.s (.d (.bool false))))⟩]
def c23r16 : List Opn := [
  ⟨(some 2), none, .mv (.c (.s (.d (.bool false))))⟩]
def c23r17 : List Opn := [
  ⟨(some 51), none, .mv (.t 3)⟩, 
  ⟨(some 52), none, .bin .add (.t 51) (.c (.s (.d (.int .i64 1))))⟩, 
  ⟨(some 3), none, .mv (.t 52)⟩]
def c23r18 : List Opn := [
  ⟨(some 53), none, .mv (.t 4)⟩, 
  ⟨(some 54), none, .bin .eql (.t 53) (.c (.s (.d (.int .i64 0))))⟩]
def c23r19 : List Opn := [
  ⟨(some 2), none, .mv (.c (.s (.d (.bool false))))⟩]
def c23r20 : List Opn := [
  ⟨(some 55), none, .bin .add (.t 8) (.c (.s (.d (.int .i64 1))))⟩, 
  ⟨(some 8), none, .mv (.t 55)⟩]
def c23l21 : C := .seq (.reg c23r3 none [0, 3, 7, 8, 9]) (.seq (.cond (.t 9) (.skip) (.exit 0)) (.seq (.blk 1 (.seq (.reg c23r4 none [0, 3, 4, 7, 8]) (.seq (.reg c23r5 none [0, 3, 4, 5, 7, 8]) (.seq (.blk 2 (.seq (.blk 8 (.seq (.blk 7 (.blk 6 (.seq (.blk 5 (.seq (.blk 4 (.seq (.blk 3 (.seq (.seq (.seq (.reg c23r6 none [0, 3, 4, 5, 7, 8, 14]) (.cond (.t 14) (.exit 3) (.skip))) (.seq (.seq (.reg c23r7 none [0, 3, 4, 5, 7, 8, 17]) (.cond (.t 17) (.exit 4) (.skip))) (.seq (.seq (.reg c23r8 none [0, 3, 4, 5, 7, 8, 20]) (.cond (.t 20) (.exit 5) (.skip))) (.seq (.seq (.reg c23r9 none [0, 3, 4, 5, 7, 8, 34]) (.cond (.t 34) (.exit 6) (.skip))) (.seq (.reg c23r10 none [0, 3, 4, 7, 8, 37]) (.cond (.t 37) (.exit 7) (.skip))))))) (.exit 8))) (.seq (.seq (.reg c23r11 none [0, 3, 7, 8]) (.exit 1)) (.exit 2)))) (.seq (.seq (.reg c23r12 none [0, 3, 4, 7, 8, 48]) (.cond (.t 48) (.seq (.reg c23r13 none [2]) (.ret)) (.skip))) (.exit 2)))) (.exit 2)))) (.seq (.seq (.reg c23r14 none [0, 3, 4, 7, 8, 50]) (.cond (.t 50) (.seq (.reg c23r15 none [2]) (.ret)) (.skip))) (.exit 2)))) (.seq (.seq (.reg c23r16 none [2]) (.ret)) (.exit 2)))) (.seq (.reg c23r17 none [0, 3, 4, 7, 8]) (.seq (.reg c23r18 none [0, 3, 7, 8, 54]) (.cond (.t 54) (.seq (.reg c23r19 none [2]) (.ret)) (.skip)))))))) (.reg c23r20 none [0, 3, 7, 8])))
def c23r21 : List Opn := [
  ⟨(some 56), none, .mv (.t 0)⟩, 
  ⟨(some 57), none, .bin .neq (.t 56) (.c (.s (.d (.str []))))⟩, 
  ⟨(some 58), none, .mv (.t 57)⟩, 
  ⟨(some 59), some (58, true), .mv (.t 3)⟩, 
  ⟨(some 60), some (58, true), .bin .eql (.t 59) (.c (.s (.d (.int .i64 0))))⟩, 
  ⟨(some 61), none, .pick (.t 58) (.t 60) (.c (.s (.d (.bool false))))⟩, 
  ⟨(some 2), none, .mv (.t 61)⟩]
def c23 : C := .seq (.reg c23r0 none [0]) (.seq (.reg c23r1 none [0, 3]) (.seq (.seq (.reg c23r2 none [0, 3, 7, 8]) (.blk 0 (.loop c23l21))) (.seq (.reg c23r21 none [2]) (.ret))))
def k23 : List (Nat × List Nat) := [(21, [2]), (20, [0, 3, 7, 8]), (19, [2]), (18, [0, 3, 7, 8, 54]), (17, [0, 3, 4, 7, 8]), (16, [2]), (15, [2]), (14, [0, 3, 4, 7, 8, 50]), (13, [2]), (12, [0, 3, 4, 7, 8, 48]), (11, [0, 3, 7, 8]), (10, [0, 3, 4, 7, 8, 37]), (9, [0, 3, 4, 5, 7, 8, 34]), (8, [0, 3, 4, 5, 7, 8, 20]), (7, [0, 3, 4, 5, 7, 8, 17]), (6, [0, 3, 4, 5, 7, 8, 14]), (5, [0, 3, 4, 5, 7, 8]), (4, [0, 3, 4, 7, 8]), (3, [0, 3, 7, 8, 9]), (2, [0, 3, 7, 8]), (1, [0, 3]), (0, [0])]
theorem cc23 : (Tryd.f23.body).bind (cC Tryd.prog 62 k23) = some c23 := by kernel_rfl
def rv23 : List RV := [.t 2]
theorem cr23 : cRVs Tryd.prog Tryd.f23.results.toList = some rv23 := by kernel_rfl
theorem f_name_part_l21_ok (s : Str) (y_ : Bool) (R_ : St → Prop) (hR : (Ret Tryd.prog glP [] rv23 (.b (.s (.d (.bool y_))))) = R_) : ∀ (m_ : Nat) (run : Int) (v8 : Int) (res_ : (Int × Int) ⊕ (Bool)) (h : f_name_part_l21 s m_ run v8 = some res_) (k_ : List It) (hx : ∀ s_ : Int × Int, res_ = .inl s_ → W Tryd.prog glP 62 k_ ⟨lkT [(0, .b (.s (.d (.str s)))), (3, .b (.s (.d (.int .i64 s_.1)))), (7, .b (.s (.d (.int .i64 (s.length : Int))))), (8, .b (.s (.d (.int .i64 s_.2))))], lkG []⟩ R_) (hr : ∀ z_ : Bool, res_ = .inr z_ → z_ = y_), W Tryd.prog glP 62 (.c c23l21 :: .lp c23l21 :: .blk 0 :: k_) ⟨lkT [(0, .b (.s (.d (.str s)))), (3, .b (.s (.d (.int .i64 run)))), (7, .b (.s (.d (.int .i64 (s.length : Int))))), (8, .b (.s (.d (.int .i64 v8))))], lkG []⟩ R_ := by
  intro m_; induction m_ with
  | zero => intro run v8 res_ h; rw [f_name_part_l21.eq_1] at h; cases h
  | succ m_ ih =>
    intro run v8 res_ h k_ hx hr; rw [f_name_part_l21.eq_2] at h; refine W.cdef c23l21.eq_1 ?_
    refine .seq ?_
    refine Rw.walk ?_
    simp only [wz, wd, ws, Nat.reduceAdd, Nat.reduceSub, Nat.reduceMul, Nat.reduceLeDiff, Nat.reduceEqDiff, Nat.reduceLT, Nat.reduceBEq, reduceIte, reduceCtorEq, Int.reduceToNat, Nat.reduceShiftRight, Nat.reduceAnd, Nat.reduceBneDiff, Nat.reduceBNe, c23r3, semI.eq_10, semI.eq_11, semI.eq_3, semI.eq_5, semI.eq_7]
    refine .seq ?_
    refine .cond (p := (decide (v8 < (s.length : Int)))) (by first | rfl | simp only [wz, wd, ws, Nat.reduceAdd, Nat.reduceSub, Nat.reduceMul, Nat.reduceLeDiff, Nat.reduceEqDiff, Nat.reduceLT, Nat.reduceBEq, reduceIte, reduceCtorEq, Int.reduceToNat, Nat.reduceShiftRight, Nat.reduceAnd, Nat.reduceBneDiff, Nat.reduceBNe]) (fun h1 => ?_) (fun h1 => ?_)
    · rw [ite_t h1] at h
      refine .skip ?_
      refine .seq ?_
      refine .blk ?_
      refine .seq ?_
      refine Rw.walk ?_
      simp only [wz, wd, ws, Nat.reduceAdd, Nat.reduceSub, Nat.reduceMul, Nat.reduceLeDiff, Nat.reduceEqDiff, Nat.reduceLT, Nat.reduceBEq, reduceIte, reduceCtorEq, Int.reduceToNat, Nat.reduceShiftRight, Nat.reduceAnd, Nat.reduceBneDiff, Nat.reduceBNe, c23r4, semI.eq_10, semI.eq_11, semI.eq_3, semI.eq_5, semI.eq_7]
      refine .seq ?_
      refine Rw.walk ?_
      simp only [wz, wd, ws, Nat.reduceAdd, Nat.reduceSub, Nat.reduceMul, Nat.reduceLeDiff, Nat.reduceEqDiff, Nat.reduceLT, Nat.reduceBEq, reduceIte, reduceCtorEq, Int.reduceToNat, Nat.reduceShiftRight, Nat.reduceAnd, Nat.reduceBneDiff, Nat.reduceBNe, c23r5, semI.eq_10, semI.eq_11, semI.eq_3, semI.eq_5, semI.eq_7]
      obtain ⟨c, e1, h⟩ := Option.bind_eq_some_iff.1 h
      refine Go1.of (sem_idx e1 (by rfl) (by rfl)) ?_
      simp only [wz, wd, ws, Nat.reduceAdd, Nat.reduceSub, Nat.reduceMul, Nat.reduceLeDiff, Nat.reduceEqDiff, Nat.reduceLT, Nat.reduceBEq, reduceIte, reduceCtorEq, Int.reduceToNat, Nat.reduceShiftRight, Nat.reduceAnd, Nat.reduceBneDiff, Nat.reduceBNe, c23r5, semI.eq_10, semI.eq_11, semI.eq_3, semI.eq_5, semI.eq_7]
      refine .seq ?_
      refine .blk ?_
      refine .seq ?_
      refine .blk ?_
      refine .seq ?_
      refine .blk ?_
      refine .blk ?_
      refine .seq ?_
      refine .blk ?_
      refine .seq ?_
      refine .blk ?_
      refine .seq ?_
      refine .blk ?_
      refine .seq ?_
      refine .seq ?_
      refine .seq ?_
      refine Rw.walk ?_
      simp only [wz, wd, ws, Nat.reduceAdd, Nat.reduceSub, Nat.reduceMul, Nat.reduceLeDiff, Nat.reduceEqDiff, Nat.reduceLT, Nat.reduceBEq, reduceIte, reduceCtorEq, Int.reduceToNat, Nat.reduceShiftRight, Nat.reduceAnd, Nat.reduceBneDiff, Nat.reduceBNe, c23r6, semI.eq_10, semI.eq_11, semI.eq_3, semI.eq_5, semI.eq_7]
      obtain ⟨t, e2, h⟩ := Option.bind_eq_some_iff.1 h
      refine call_fun [] false ⟨trivial, trivial, trivial⟩ rfl ?_ (f_name_small_ok _ _ e2) (fun _ => rfl) (fun i hi => by cases hi) ?_
      · simp only [wz, wd, ws, Nat.reduceAdd, Nat.reduceSub, Nat.reduceMul, Nat.reduceLeDiff, Nat.reduceEqDiff, Nat.reduceLT, Nat.reduceBEq, reduceIte, reduceCtorEq, Int.reduceToNat, Nat.reduceShiftRight, Nat.reduceAnd, Nat.reduceBneDiff, Nat.reduceBNe]
      simp only [wz, wd, ws, Nat.reduceAdd, Nat.reduceSub, Nat.reduceMul, Nat.reduceLeDiff, Nat.reduceEqDiff, Nat.reduceLT, Nat.reduceBEq, reduceIte, reduceCtorEq, Int.reduceToNat, Nat.reduceShiftRight, Nat.reduceAnd, Nat.reduceBneDiff, Nat.reduceBNe, c23r6, semI.eq_10, semI.eq_11, semI.eq_3, semI.eq_5, semI.eq_7]
      refine .cond (p := t) (by first | rfl | simp only [wz, wd, ws, Nat.reduceAdd, Nat.reduceSub, Nat.reduceMul, Nat.reduceLeDiff, Nat.reduceEqDiff, Nat.reduceLT, Nat.reduceBEq, reduceIte, reduceCtorEq, Int.reduceToNat, Nat.reduceShiftRight, Nat.reduceAnd, Nat.reduceBneDiff, Nat.reduceBNe]) (fun h1 => ?_) (fun h1 => ?_)
      · rw [ite_t h1] at h
        refine .exit rfl ?_
        refine .seq ?_
        refine .seq ?_
        refine Rw.walk ?_
        simp only [wz, wd, ws, Nat.reduceAdd, Nat.reduceSub, Nat.reduceMul, Nat.reduceLeDiff, Nat.reduceEqDiff, Nat.reduceLT, Nat.reduceBEq, reduceIte, reduceCtorEq, Int.reduceToNat, Nat.reduceShiftRight, Nat.reduceAnd, Nat.reduceBneDiff, Nat.reduceBNe, c23r11, semI.eq_10, semI.eq_11, semI.eq_3, semI.eq_5, semI.eq_7]
        refine .exit rfl ?_
        refine Rw.walk ?_
        simp only [wz, wd, ws, Nat.reduceAdd, Nat.reduceSub, Nat.reduceMul, Nat.reduceLeDiff, Nat.reduceEqDiff, Nat.reduceLT, Nat.reduceBEq, reduceIte, reduceCtorEq, Int.reduceToNat, Nat.reduceShiftRight, Nat.reduceAnd, Nat.reduceBneDiff, Nat.reduceBNe, c23r20, semI.eq_10, semI.eq_11, semI.eq_3, semI.eq_5, semI.eq_7]
        refine .lp ?_
        refine .weak (Imp.co [] _ _ ?_ ?_ ?_ ?_ ?_) (ih 0 (IntKind.i64.wrap (v8 + 1)) _ h k_ hx hr) <;> simp only [wz, wd, ws, Nat.reduceAdd, Nat.reduceSub, Nat.reduceMul, Nat.reduceLeDiff, Nat.reduceEqDiff, Nat.reduceLT, Nat.reduceBEq, reduceIte, reduceCtorEq, Int.reduceToNat, Nat.reduceShiftRight, Nat.reduceAnd, Nat.reduceBneDiff, Nat.reduceBNe, wi, er_nil]
      · rw [ite_f h1] at h
        refine .skip ?_
        refine .seq ?_
        refine .seq ?_
        refine Rw.walk ?_
        simp only [wz, wd, ws, Nat.reduceAdd, Nat.reduceSub, Nat.reduceMul, Nat.reduceLeDiff, Nat.reduceEqDiff, Nat.reduceLT, Nat.reduceBEq, reduceIte, reduceCtorEq, Int.reduceToNat, Nat.reduceShiftRight, Nat.reduceAnd, Nat.reduceBneDiff, Nat.reduceBNe, c23r7, semI.eq_10, semI.eq_11, semI.eq_3, semI.eq_5, semI.eq_7]
        refine .cond (p := ((bn c) == 45)) (by first | rfl | simp only [wz, wd, ws, Nat.reduceAdd, Nat.reduceSub, Nat.reduceMul, Nat.reduceLeDiff, Nat.reduceEqDiff, Nat.reduceLT, Nat.reduceBEq, reduceIte, reduceCtorEq, Int.reduceToNat, Nat.reduceShiftRight, Nat.reduceAnd, Nat.reduceBneDiff, Nat.reduceBNe]) (fun h1 => ?_) (fun h1 => ?_)
        · rw [ite_t h1] at h
          refine .exit rfl ?_
          refine .seq ?_
          refine .seq ?_
          refine Rw.walk ?_
          simp only [wz, wd, ws, Nat.reduceAdd, Nat.reduceSub, Nat.reduceMul, Nat.reduceLeDiff, Nat.reduceEqDiff, Nat.reduceLT, Nat.reduceBEq, reduceIte, reduceCtorEq, Int.reduceToNat, Nat.reduceShiftRight, Nat.reduceAnd, Nat.reduceBneDiff, Nat.reduceBNe, c23r12, semI.eq_10, semI.eq_11, semI.eq_3, semI.eq_5, semI.eq_7]
          obtain ⟨g3, h⟩ := gd_iff.1 h
          refine Go2.of (se_idxS) ?_
          simp only [wz, wd, ws, Nat.reduceAdd, Nat.reduceSub, Nat.reduceMul, Nat.reduceLeDiff, Nat.reduceEqDiff, Nat.reduceLT, Nat.reduceBEq, reduceIte, reduceCtorEq, Int.reduceToNat, Nat.reduceShiftRight, Nat.reduceAnd, Nat.reduceBneDiff, Nat.reduceBNe, c23r12, semI.eq_10, semI.eq_11, semI.eq_3, semI.eq_5, semI.eq_7]
          repeat (refine And.intro ?_ ?_; · first | omega | exact g3 | (intro q; first | omega | (have q2 := g3 (by simpa using q); omega) | (have q2 := g3 q; omega) | (have q2 := g3 (by simpa using q); simp only [List.length_append, List.length_cons, List.length_nil] at q2 ⊢; omega)) | (intro q; simp only [wz, wd, ws, Nat.reduceAdd, Nat.reduceSub, Nat.reduceMul, Nat.reduceLeDiff, Nat.reduceEqDiff, Nat.reduceLT, Nat.reduceBEq, reduceIte, reduceCtorEq, Int.reduceToNat, Nat.reduceShiftRight, Nat.reduceAnd, Nat.reduceBneDiff, Nat.reduceBNe, q]; done))
          refine .cond (p := ((decide (run > 0)) && ((bn (s.getD (IntKind.i64.wrap (v8 - 1)).toNat 0)) != 45))) (by first | rfl | simp only [wz, wd, ws, Nat.reduceAdd, Nat.reduceSub, Nat.reduceMul, Nat.reduceLeDiff, Nat.reduceEqDiff, Nat.reduceLT, Nat.reduceBEq, reduceIte, reduceCtorEq, Int.reduceToNat, Nat.reduceShiftRight, Nat.reduceAnd, Nat.reduceBneDiff, Nat.reduceBNe]) (fun h1 => ?_) (fun h1 => ?_)
          · rw [ite_t h1] at h
            refine .seq ?_
            refine Rw.walk ?_
            simp only [wz, wd, ws, Nat.reduceAdd, Nat.reduceSub, Nat.reduceMul, Nat.reduceLeDiff, Nat.reduceEqDiff, Nat.reduceLT, Nat.reduceBEq, reduceIte, reduceCtorEq, Int.reduceToNat, Nat.reduceShiftRight, Nat.reduceAnd, Nat.reduceBneDiff, Nat.reduceBNe, c23r13, semI.eq_10, semI.eq_11, semI.eq_3, semI.eq_5, semI.eq_7]
            obtain rfl := Option.some.inj h; obtain rfl := hr _ rfl
            refine .ret ?_
            rw [← hR]
            simp only [wz, wd, ws, Nat.reduceAdd, Nat.reduceSub, Nat.reduceMul, Nat.reduceLeDiff, Nat.reduceEqDiff, Nat.reduceLT, Nat.reduceBEq, reduceIte, reduceCtorEq, Int.reduceToNat, Nat.reduceShiftRight, Nat.reduceAnd, Nat.reduceBneDiff, Nat.reduceBNe, rv23]
          · rw [ite_f h1] at h
            refine .skip ?_
            refine .exit rfl ?_
            refine .seq ?_
            refine Rw.walk ?_
            simp only [wz, wd, ws, Nat.reduceAdd, Nat.reduceSub, Nat.reduceMul, Nat.reduceLeDiff, Nat.reduceEqDiff, Nat.reduceLT, Nat.reduceBEq, reduceIte, reduceCtorEq, Int.reduceToNat, Nat.reduceShiftRight, Nat.reduceAnd, Nat.reduceBneDiff, Nat.reduceBNe, c23r17, semI.eq_10, semI.eq_11, semI.eq_3, semI.eq_5, semI.eq_7]
            refine .seq ?_
            refine Rw.walk ?_
            simp only [wz, wd, ws, Nat.reduceAdd, Nat.reduceSub, Nat.reduceMul, Nat.reduceLeDiff, Nat.reduceEqDiff, Nat.reduceLT, Nat.reduceBEq, reduceIte, reduceCtorEq, Int.reduceToNat, Nat.reduceShiftRight, Nat.reduceAnd, Nat.reduceBneDiff, Nat.reduceBNe, c23r18, semI.eq_10, semI.eq_11, semI.eq_3, semI.eq_5, semI.eq_7]
            refine .cond (p := (v8 == 0)) (by first | rfl | simp only [wz, wd, ws, Nat.reduceAdd, Nat.reduceSub, Nat.reduceMul, Nat.reduceLeDiff, Nat.reduceEqDiff, Nat.reduceLT, Nat.reduceBEq, reduceIte, reduceCtorEq, Int.reduceToNat, Nat.reduceShiftRight, Nat.reduceAnd, Nat.reduceBneDiff, Nat.reduceBNe]) (fun h1 => ?_) (fun h1 => ?_)
            · rw [ite_t h1] at h
              refine .seq ?_
              refine Rw.walk ?_
              simp only [wz, wd, ws, Nat.reduceAdd, Nat.reduceSub, Nat.reduceMul, Nat.reduceLeDiff, Nat.reduceEqDiff, Nat.reduceLT, Nat.reduceBEq, reduceIte, reduceCtorEq, Int.reduceToNat, Nat.reduceShiftRight, Nat.reduceAnd, Nat.reduceBneDiff, Nat.reduceBNe, c23r19, semI.eq_10, semI.eq_11, semI.eq_3, semI.eq_5, semI.eq_7]
              obtain rfl := Option.some.inj h; obtain rfl := hr _ rfl
              refine .ret ?_
              rw [← hR]
              simp only [wz, wd, ws, Nat.reduceAdd, Nat.reduceSub, Nat.reduceMul, Nat.reduceLeDiff, Nat.reduceEqDiff, Nat.reduceLT, Nat.reduceBEq, reduceIte, reduceCtorEq, Int.reduceToNat, Nat.reduceShiftRight, Nat.reduceAnd, Nat.reduceBneDiff, Nat.reduceBNe, rv23]
            · rw [ite_f h1] at h
              refine .skip ?_
              refine .eblk ?_
              refine Rw.walk ?_
              simp only [wz, wd, ws, Nat.reduceAdd, Nat.reduceSub, Nat.reduceMul, Nat.reduceLeDiff, Nat.reduceEqDiff, Nat.reduceLT, Nat.reduceBEq, reduceIte, reduceCtorEq, Int.reduceToNat, Nat.reduceShiftRight, Nat.reduceAnd, Nat.reduceBneDiff, Nat.reduceBNe, c23r20, semI.eq_10, semI.eq_11, semI.eq_3, semI.eq_5, semI.eq_7]
              refine .lp ?_
              refine .weak (Imp.co [] _ _ ?_ ?_ ?_ ?_ ?_) (ih (IntKind.i64.wrap (run + 1)) (IntKind.i64.wrap (v8 + 1)) _ h k_ hx hr) <;> simp only [wz, wd, ws, Nat.reduceAdd, Nat.reduceSub, Nat.reduceMul, Nat.reduceLeDiff, Nat.reduceEqDiff, Nat.reduceLT, Nat.reduceBEq, reduceIte, reduceCtorEq, Int.reduceToNat, Nat.reduceShiftRight, Nat.reduceAnd, Nat.reduceBneDiff, Nat.reduceBNe, wi, er_nil]
        · rw [ite_f h1] at h
          refine .skip ?_
          refine .seq ?_
          refine .seq ?_
          refine Rw.walk ?_
          simp only [wz, wd, ws, Nat.reduceAdd, Nat.reduceSub, Nat.reduceMul, Nat.reduceLeDiff, Nat.reduceEqDiff, Nat.reduceLT, Nat.reduceBEq, reduceIte, reduceCtorEq, Int.reduceToNat, Nat.reduceShiftRight, Nat.reduceAnd, Nat.reduceBneDiff, Nat.reduceBNe, c23r8, semI.eq_10, semI.eq_11, semI.eq_3, semI.eq_5, semI.eq_7]
          repeat (refine And.intro ?_ ?_; · first | omega | (intro q; simp only [wz, wd, ws, Nat.reduceAdd, Nat.reduceSub, Nat.reduceMul, Nat.reduceLeDiff, Nat.reduceEqDiff, Nat.reduceLT, Nat.reduceBEq, reduceIte, reduceCtorEq, Int.reduceToNat, Nat.reduceShiftRight, Nat.reduceAnd, Nat.reduceBneDiff, Nat.reduceBNe, q]; done))
          obtain ⟨g4, h⟩ := gd_iff.1 h
          refine Go2.of (se_idxS) ?_
          simp only [wz, wd, ws, Nat.reduceAdd, Nat.reduceSub, Nat.reduceMul, Nat.reduceLeDiff, Nat.reduceEqDiff, Nat.reduceLT, Nat.reduceBEq, reduceIte, reduceCtorEq, Int.reduceToNat, Nat.reduceShiftRight, Nat.reduceAnd, Nat.reduceBneDiff, Nat.reduceBNe, c23r8, semI.eq_10, semI.eq_11, semI.eq_3, semI.eq_5, semI.eq_7]
          repeat (refine And.intro ?_ ?_; · first | omega | exact g4 | (intro q; first | omega | (have q2 := g4 (by simpa using q); omega) | (have q2 := g4 q; omega) | (have q2 := g4 (by simpa using q); simp only [List.length_append, List.length_cons, List.length_nil] at q2 ⊢; omega)) | (intro q; simp only [wz, wd, ws, Nat.reduceAdd, Nat.reduceSub, Nat.reduceMul, Nat.reduceLeDiff, Nat.reduceEqDiff, Nat.reduceLT, Nat.reduceBEq, reduceIte, reduceCtorEq, Int.reduceToNat, Nat.reduceShiftRight, Nat.reduceAnd, Nat.reduceBneDiff, Nat.reduceBNe, q]; done))
          refine .cond (p := ((((bn c) == 95) && (run == 1)) && ((bn (s.getD (IntKind.i64.wrap (v8 - 1)).toNat 0)) == 95))) (by first | rfl | simp only [wz, wd, ws, Nat.reduceAdd, Nat.reduceSub, Nat.reduceMul, Nat.reduceLeDiff, Nat.reduceEqDiff, Nat.reduceLT, Nat.reduceBEq, reduceIte, reduceCtorEq, Int.reduceToNat, Nat.reduceShiftRight, Nat.reduceAnd, Nat.reduceBneDiff, Nat.reduceBNe]) (fun h1 => ?_) (fun h1 => ?_)
          · rw [ite_t h1] at h
            refine .exit rfl ?_
            refine .exit rfl ?_
            refine .seq ?_
            refine Rw.walk ?_
            simp only [wz, wd, ws, Nat.reduceAdd, Nat.reduceSub, Nat.reduceMul, Nat.reduceLeDiff, Nat.reduceEqDiff, Nat.reduceLT, Nat.reduceBEq, reduceIte, reduceCtorEq, Int.reduceToNat, Nat.reduceShiftRight, Nat.reduceAnd, Nat.reduceBneDiff, Nat.reduceBNe, c23r17, semI.eq_10, semI.eq_11, semI.eq_3, semI.eq_5, semI.eq_7]
            refine .seq ?_
            refine Rw.walk ?_
            simp only [wz, wd, ws, Nat.reduceAdd, Nat.reduceSub, Nat.reduceMul, Nat.reduceLeDiff, Nat.reduceEqDiff, Nat.reduceLT, Nat.reduceBEq, reduceIte, reduceCtorEq, Int.reduceToNat, Nat.reduceShiftRight, Nat.reduceAnd, Nat.reduceBneDiff, Nat.reduceBNe, c23r18, semI.eq_10, semI.eq_11, semI.eq_3, semI.eq_5, semI.eq_7]
            refine .cond (p := (v8 == 0)) (by first | rfl | simp only [wz, wd, ws, Nat.reduceAdd, Nat.reduceSub, Nat.reduceMul, Nat.reduceLeDiff, Nat.reduceEqDiff, Nat.reduceLT, Nat.reduceBEq, reduceIte, reduceCtorEq, Int.reduceToNat, Nat.reduceShiftRight, Nat.reduceAnd, Nat.reduceBneDiff, Nat.reduceBNe]) (fun h1 => ?_) (fun h1 => ?_)
            · rw [ite_t h1] at h
              refine .seq ?_
              refine Rw.walk ?_
              simp only [wz, wd, ws, Nat.reduceAdd, Nat.reduceSub, Nat.reduceMul, Nat.reduceLeDiff, Nat.reduceEqDiff, Nat.reduceLT, Nat.reduceBEq, reduceIte, reduceCtorEq, Int.reduceToNat, Nat.reduceShiftRight, Nat.reduceAnd, Nat.reduceBneDiff, Nat.reduceBNe, c23r19, semI.eq_10, semI.eq_11, semI.eq_3, semI.eq_5, semI.eq_7]
              obtain rfl := Option.some.inj h; obtain rfl := hr _ rfl
              refine .ret ?_
              rw [← hR]
              simp only [wz, wd, ws, Nat.reduceAdd, Nat.reduceSub, Nat.reduceMul, Nat.reduceLeDiff, Nat.reduceEqDiff, Nat.reduceLT, Nat.reduceBEq, reduceIte, reduceCtorEq, Int.reduceToNat, Nat.reduceShiftRight, Nat.reduceAnd, Nat.reduceBneDiff, Nat.reduceBNe, rv23]
            · rw [ite_f h1] at h
              refine .skip ?_
              refine .eblk ?_
              refine Rw.walk ?_
              simp only [wz, wd, ws, Nat.reduceAdd, Nat.reduceSub, Nat.reduceMul, Nat.reduceLeDiff, Nat.reduceEqDiff, Nat.reduceLT, Nat.reduceBEq, reduceIte, reduceCtorEq, Int.reduceToNat, Nat.reduceShiftRight, Nat.reduceAnd, Nat.reduceBneDiff, Nat.reduceBNe, c23r20, semI.eq_10, semI.eq_11, semI.eq_3, semI.eq_5, semI.eq_7]
              refine .lp ?_
              refine .weak (Imp.co [] _ _ ?_ ?_ ?_ ?_ ?_) (ih (IntKind.i64.wrap (run + 1)) (IntKind.i64.wrap (v8 + 1)) _ h k_ hx hr) <;> simp only [wz, wd, ws, Nat.reduceAdd, Nat.reduceSub, Nat.reduceMul, Nat.reduceLeDiff, Nat.reduceEqDiff, Nat.reduceLT, Nat.reduceBEq, reduceIte, reduceCtorEq, Int.reduceToNat, Nat.reduceShiftRight, Nat.reduceAnd, Nat.reduceBneDiff, Nat.reduceBNe, wi, er_nil]
          · rw [ite_f h1] at h
            refine .skip ?_
            refine .seq ?_
            refine .seq ?_
            refine Rw.walk ?_
            simp only [wz, wd, ws, Nat.reduceAdd, Nat.reduceSub, Nat.reduceMul, Nat.reduceLeDiff, Nat.reduceEqDiff, Nat.reduceLT, Nat.reduceBEq, reduceIte, reduceCtorEq, Int.reduceToNat, Nat.reduceShiftRight, Nat.reduceAnd, Nat.reduceBneDiff, Nat.reduceBNe, c23r9, semI.eq_10, semI.eq_11, semI.eq_3, semI.eq_5, semI.eq_7]
            refine .cond (p := ((bn c) == 95)) (by first | rfl | simp only [wz, wd, ws, Nat.reduceAdd, Nat.reduceSub, Nat.reduceMul, Nat.reduceLeDiff, Nat.reduceEqDiff, Nat.reduceLT, Nat.reduceBEq, reduceIte, reduceCtorEq, Int.reduceToNat, Nat.reduceShiftRight, Nat.reduceAnd, Nat.reduceBneDiff, Nat.reduceBNe]) (fun h1 => ?_) (fun h1 => ?_)
            · rw [ite_t h1] at h
              refine .exit rfl ?_
              refine .eblk ?_
              refine .seq ?_
              refine .seq ?_
              refine Rw.walk ?_
              simp only [wz, wd, ws, Nat.reduceAdd, Nat.reduceSub, Nat.reduceMul, Nat.reduceLeDiff, Nat.reduceEqDiff, Nat.reduceLT, Nat.reduceBEq, reduceIte, reduceCtorEq, Int.reduceToNat, Nat.reduceShiftRight, Nat.reduceAnd, Nat.reduceBneDiff, Nat.reduceBNe, c23r14, semI.eq_10, semI.eq_11, semI.eq_3, semI.eq_5, semI.eq_7]
              refine .cond (p := (decide (run > 0))) (by first | rfl | simp only [wz, wd, ws, Nat.reduceAdd, Nat.reduceSub, Nat.reduceMul, Nat.reduceLeDiff, Nat.reduceEqDiff, Nat.reduceLT, Nat.reduceBEq, reduceIte, reduceCtorEq, Int.reduceToNat, Nat.reduceShiftRight, Nat.reduceAnd, Nat.reduceBneDiff, Nat.reduceBNe]) (fun h1 => ?_) (fun h1 => ?_)
              · rw [ite_t h1] at h
                refine .seq ?_
                refine Rw.walk ?_
                simp only [wz, wd, ws, Nat.reduceAdd, Nat.reduceSub, Nat.reduceMul, Nat.reduceLeDiff, Nat.reduceEqDiff, Nat.reduceLT, Nat.reduceBEq, reduceIte, reduceCtorEq, Int.reduceToNat, Nat.reduceShiftRight, Nat.reduceAnd, Nat.reduceBneDiff, Nat.reduceBNe, c23r15, semI.eq_10, semI.eq_11, semI.eq_3, semI.eq_5, semI.eq_7]
                obtain rfl := Option.some.inj h; obtain rfl := hr _ rfl
                refine .ret ?_
                rw [← hR]
                simp only [wz, wd, ws, Nat.reduceAdd, Nat.reduceSub, Nat.reduceMul, Nat.reduceLeDiff, Nat.reduceEqDiff, Nat.reduceLT, Nat.reduceBEq, reduceIte, reduceCtorEq, Int.reduceToNat, Nat.reduceShiftRight, Nat.reduceAnd, Nat.reduceBneDiff, Nat.reduceBNe, rv23]
              · rw [ite_f h1] at h
                refine .skip ?_
                refine .exit rfl ?_
                refine .seq ?_
                refine Rw.walk ?_
                simp only [wz, wd, ws, Nat.reduceAdd, Nat.reduceSub, Nat.reduceMul, Nat.reduceLeDiff, Nat.reduceEqDiff, Nat.reduceLT, Nat.reduceBEq, reduceIte, reduceCtorEq, Int.reduceToNat, Nat.reduceShiftRight, Nat.reduceAnd, Nat.reduceBneDiff, Nat.reduceBNe, c23r17, semI.eq_10, semI.eq_11, semI.eq_3, semI.eq_5, semI.eq_7]
                refine .seq ?_
                refine Rw.walk ?_
                simp only [wz, wd, ws, Nat.reduceAdd, Nat.reduceSub, Nat.reduceMul, Nat.reduceLeDiff, Nat.reduceEqDiff, Nat.reduceLT, Nat.reduceBEq, reduceIte, reduceCtorEq, Int.reduceToNat, Nat.reduceShiftRight, Nat.reduceAnd, Nat.reduceBneDiff, Nat.reduceBNe, c23r18, semI.eq_10, semI.eq_11, semI.eq_3, semI.eq_5, semI.eq_7]
                refine .cond (p := (v8 == 0)) (by first | rfl | simp only [wz, wd, ws, Nat.reduceAdd, Nat.reduceSub, Nat.reduceMul, Nat.reduceLeDiff, Nat.reduceEqDiff, Nat.reduceLT, Nat.reduceBEq, reduceIte, reduceCtorEq, Int.reduceToNat, Nat.reduceShiftRight, Nat.reduceAnd, Nat.reduceBneDiff, Nat.reduceBNe]) (fun h1 => ?_) (fun h1 => ?_)
                · rw [ite_t h1] at h
                  refine .seq ?_
                  refine Rw.walk ?_
                  simp only [wz, wd, ws, Nat.reduceAdd, Nat.reduceSub, Nat.reduceMul, Nat.reduceLeDiff, Nat.reduceEqDiff, Nat.reduceLT, Nat.reduceBEq, reduceIte, reduceCtorEq, Int.reduceToNat, Nat.reduceShiftRight, Nat.reduceAnd, Nat.reduceBneDiff, Nat.reduceBNe, c23r19, semI.eq_10, semI.eq_11, semI.eq_3, semI.eq_5, semI.eq_7]
                  obtain rfl := Option.some.inj h; obtain rfl := hr _ rfl
                  refine .ret ?_
                  rw [← hR]
                  simp only [wz, wd, ws, Nat.reduceAdd, Nat.reduceSub, Nat.reduceMul, Nat.reduceLeDiff, Nat.reduceEqDiff, Nat.reduceLT, Nat.reduceBEq, reduceIte, reduceCtorEq, Int.reduceToNat, Nat.reduceShiftRight, Nat.reduceAnd, Nat.reduceBneDiff, Nat.reduceBNe, rv23]
                · rw [ite_f h1] at h
                  refine .skip ?_
                  refine .eblk ?_
                  refine Rw.walk ?_
                  simp only [wz, wd, ws, Nat.reduceAdd, Nat.reduceSub, Nat.reduceMul, Nat.reduceLeDiff, Nat.reduceEqDiff, Nat.reduceLT, Nat.reduceBEq, reduceIte, reduceCtorEq, Int.reduceToNat, Nat.reduceShiftRight, Nat.reduceAnd, Nat.reduceBneDiff, Nat.reduceBNe, c23r20, semI.eq_10, semI.eq_11, semI.eq_3, semI.eq_5, semI.eq_7]
                  refine .lp ?_
                  refine .weak (Imp.co [] _ _ ?_ ?_ ?_ ?_ ?_) (ih (IntKind.i64.wrap (run + 1)) (IntKind.i64.wrap (v8 + 1)) _ h k_ hx hr) <;> simp only [wz, wd, ws, Nat.reduceAdd, Nat.reduceSub, Nat.reduceMul, Nat.reduceLeDiff, Nat.reduceEqDiff, Nat.reduceLT, Nat.reduceBEq, reduceIte, reduceCtorEq, Int.reduceToNat, Nat.reduceShiftRight, Nat.reduceAnd, Nat.reduceBneDiff, Nat.reduceBNe, wi, er_nil]
            · rw [ite_f h1] at h
              refine .skip ?_
              refine .seq ?_
              refine Rw.walk ?_
              simp only [wz, wd, ws, Nat.reduceAdd, Nat.reduceSub, Nat.reduceMul, Nat.reduceLeDiff, Nat.reduceEqDiff, Nat.reduceLT, Nat.reduceBEq, reduceIte, reduceCtorEq, Int.reduceToNat, Nat.reduceShiftRight, Nat.reduceAnd, Nat.reduceBneDiff, Nat.reduceBNe, c23r10, semI.eq_10, semI.eq_11, semI.eq_3, semI.eq_5, semI.eq_7]
              refine .cond (p := ((bn c) == 46)) (by first | rfl | simp only [wz, wd, ws, Nat.reduceAdd, Nat.reduceSub, Nat.reduceMul, Nat.reduceLeDiff, Nat.reduceEqDiff, Nat.reduceLT, Nat.reduceBEq, reduceIte, reduceCtorEq, Int.reduceToNat, Nat.reduceShiftRight, Nat.reduceAnd, Nat.reduceBneDiff, Nat.reduceBNe]) (fun h1 => ?_) (fun h1 => ?_)
              · rw [ite_t h1] at h
                refine .exit rfl ?_
                refine .seq ?_
                refine .seq ?_
                refine Rw.walk ?_
                simp only [wz, wd, ws, Nat.reduceAdd, Nat.reduceSub, Nat.reduceMul, Nat.reduceLeDiff, Nat.reduceEqDiff, Nat.reduceLT, Nat.reduceBEq, reduceIte, reduceCtorEq, Int.reduceToNat, Nat.reduceShiftRight, Nat.reduceAnd, Nat.reduceBneDiff, Nat.reduceBNe, c23r14, semI.eq_10, semI.eq_11, semI.eq_3, semI.eq_5, semI.eq_7]
                refine .cond (p := (decide (run > 0))) (by first | rfl | simp only [wz, wd, ws, Nat.reduceAdd, Nat.reduceSub, Nat.reduceMul, Nat.reduceLeDiff, Nat.reduceEqDiff, Nat.reduceLT, Nat.reduceBEq, reduceIte, reduceCtorEq, Int.reduceToNat, Nat.reduceShiftRight, Nat.reduceAnd, Nat.reduceBneDiff, Nat.reduceBNe]) (fun h1 => ?_) (fun h1 => ?_)
                · rw [ite_t h1] at h
                  refine .seq ?_
                  refine Rw.walk ?_
                  simp only [wz, wd, ws, Nat.reduceAdd, Nat.reduceSub, Nat.reduceMul, Nat.reduceLeDiff, Nat.reduceEqDiff, Nat.reduceLT, Nat.reduceBEq, reduceIte, reduceCtorEq, Int.reduceToNat, Nat.reduceShiftRight, Nat.reduceAnd, Nat.reduceBneDiff, Nat.reduceBNe, c23r15, semI.eq_10, semI.eq_11, semI.eq_3, semI.eq_5, semI.eq_7]
                  obtain rfl := Option.some.inj h; obtain rfl := hr _ rfl
                  refine .ret ?_
                  rw [← hR]
                  simp only [wz, wd, ws, Nat.reduceAdd, Nat.reduceSub, Nat.reduceMul, Nat.reduceLeDiff, Nat.reduceEqDiff, Nat.reduceLT, Nat.reduceBEq, reduceIte, reduceCtorEq, Int.reduceToNat, Nat.reduceShiftRight, Nat.reduceAnd, Nat.reduceBneDiff, Nat.reduceBNe, rv23]
                · rw [ite_f h1] at h
                  refine .skip ?_
                  refine .exit rfl ?_
                  refine .seq ?_
                  refine Rw.walk ?_
                  simp only [wz, wd, ws, Nat.reduceAdd, Nat.reduceSub, Nat.reduceMul, Nat.reduceLeDiff, Nat.reduceEqDiff, Nat.reduceLT, Nat.reduceBEq, reduceIte, reduceCtorEq, Int.reduceToNat, Nat.reduceShiftRight, Nat.reduceAnd, Nat.reduceBneDiff, Nat.reduceBNe, c23r17, semI.eq_10, semI.eq_11, semI.eq_3, semI.eq_5, semI.eq_7]
                  refine .seq ?_
                  refine Rw.walk ?_
                  simp only [wz, wd, ws, Nat.reduceAdd, Nat.reduceSub, Nat.reduceMul, Nat.reduceLeDiff, Nat.reduceEqDiff, Nat.reduceLT, Nat.reduceBEq, reduceIte, reduceCtorEq, Int.reduceToNat, Nat.reduceShiftRight, Nat.reduceAnd, Nat.reduceBneDiff, Nat.reduceBNe, c23r18, semI.eq_10, semI.eq_11, semI.eq_3, semI.eq_5, semI.eq_7]
                  refine .cond (p := (v8 == 0)) (by first | rfl | simp only [wz, wd, ws, Nat.reduceAdd, Nat.reduceSub, Nat.reduceMul, Nat.reduceLeDiff, Nat.reduceEqDiff, Nat.reduceLT, Nat.reduceBEq, reduceIte, reduceCtorEq, Int.reduceToNat, Nat.reduceShiftRight, Nat.reduceAnd, Nat.reduceBneDiff, Nat.reduceBNe]) (fun h1 => ?_) (fun h1 => ?_)
                  · rw [ite_t h1] at h
                    refine .seq ?_
                    refine Rw.walk ?_
                    simp only [wz, wd, ws, Nat.reduceAdd, Nat.reduceSub, Nat.reduceMul, Nat.reduceLeDiff, Nat.reduceEqDiff, Nat.reduceLT, Nat.reduceBEq, reduceIte, reduceCtorEq, Int.reduceToNat, Nat.reduceShiftRight, Nat.reduceAnd, Nat.reduceBneDiff, Nat.reduceBNe, c23r19, semI.eq_10, semI.eq_11, semI.eq_3, semI.eq_5, semI.eq_7]
                    obtain rfl := Option.some.inj h; obtain rfl := hr _ rfl
                    refine .ret ?_
                    rw [← hR]
                    simp only [wz, wd, ws, Nat.reduceAdd, Nat.reduceSub, Nat.reduceMul, Nat.reduceLeDiff, Nat.reduceEqDiff, Nat.reduceLT, Nat.reduceBEq, reduceIte, reduceCtorEq, Int.reduceToNat, Nat.reduceShiftRight, Nat.reduceAnd, Nat.reduceBneDiff, Nat.reduceBNe, rv23]
                  · rw [ite_f h1] at h
                    refine .skip ?_
                    refine .eblk ?_
                    refine Rw.walk ?_
                    simp only [wz, wd, ws, Nat.reduceAdd, Nat.reduceSub, Nat.reduceMul, Nat.reduceLeDiff, Nat.reduceEqDiff, Nat.reduceLT, Nat.reduceBEq, reduceIte, reduceCtorEq, Int.reduceToNat, Nat.reduceShiftRight, Nat.reduceAnd, Nat.reduceBneDiff, Nat.reduceBNe, c23r20, semI.eq_10, semI.eq_11, semI.eq_3, semI.eq_5, semI.eq_7]
                    refine .lp ?_
                    refine .weak (Imp.co [] _ _ ?_ ?_ ?_ ?_ ?_) (ih (IntKind.i64.wrap (run + 1)) (IntKind.i64.wrap (v8 + 1)) _ h k_ hx hr) <;> simp only [wz, wd, ws, Nat.reduceAdd, Nat.reduceSub, Nat.reduceMul, Nat.reduceLeDiff, Nat.reduceEqDiff, Nat.reduceLT, Nat.reduceBEq, reduceIte, reduceCtorEq, Int.reduceToNat, Nat.reduceShiftRight, Nat.reduceAnd, Nat.reduceBneDiff, Nat.reduceBNe, wi, er_nil]
              · rw [ite_f h1] at h
                refine .skip ?_
                refine .exit rfl ?_
                refine .seq ?_
                refine .seq ?_
                refine Rw.walk ?_
                simp only [wz, wd, ws, Nat.reduceAdd, Nat.reduceSub, Nat.reduceMul, Nat.reduceLeDiff, Nat.reduceEqDiff, Nat.reduceLT, Nat.reduceBEq, reduceIte, reduceCtorEq, Int.reduceToNat, Nat.reduceShiftRight, Nat.reduceAnd, Nat.reduceBneDiff, Nat.reduceBNe, c23r16, semI.eq_10, semI.eq_11, semI.eq_3, semI.eq_5, semI.eq_7]
                obtain rfl := Option.some.inj h; obtain rfl := hr _ rfl
                refine .ret ?_
                rw [← hR]
                simp only [wz, wd, ws, Nat.reduceAdd, Nat.reduceSub, Nat.reduceMul, Nat.reduceLeDiff, Nat.reduceEqDiff, Nat.reduceLT, Nat.reduceBEq, reduceIte, reduceCtorEq, Int.reduceToNat, Nat.reduceShiftRight, Nat.reduceAnd, Nat.reduceBneDiff, Nat.reduceBNe, rv23]
    · rw [ite_f h1] at h
      refine .exit rfl ?_
      obtain rfl := Option.some.inj h
      refine .weak (Imp.co [] _ _ ?_ ?_ ?_ ?_ ?_) (hx _ rfl) <;> simp only [wz, wd, ws, Nat.reduceAdd, Nat.reduceSub, Nat.reduceMul, Nat.reduceLeDiff, Nat.reduceEqDiff, Nat.reduceLT, Nat.reduceBEq, reduceIte, reduceCtorEq, Int.reduceToNat, Nat.reduceShiftRight, Nat.reduceAnd, Nat.reduceBneDiff, Nat.reduceBNe, wi, er_nil]
theorem f_name_part_ok (s : Str) (y_ : Bool) (h : f_name_part s = some y_) : Fun Tryd.prog glP 23 [.b (.s (.d (.str s)))] (.b (.s (.d (.bool y_)))) := by
  refine fun_walk [] Tryd.func23 Tryd.ntmps23 cc23 cr23 (by kernel_rfl) (by simp only [List.length_cons, List.length_nil]; decide) ?_
  generalize hR : Ret _ _ _ _ _ = R_
  simp only [wz, wd, ws, Nat.reduceAdd, Nat.reduceSub, Nat.reduceMul, Nat.reduceLeDiff, Nat.reduceEqDiff, Nat.reduceLT, Nat.reduceBEq, reduceIte, reduceCtorEq, Int.reduceToNat, Nat.reduceShiftRight, Nat.reduceAnd, Nat.reduceBneDiff, Nat.reduceBNe]
  unfold f_name_part at h; unfold c23
  refine .seq ?_
  refine Rw.walk ?_
  simp only [wz, wd, ws, Nat.reduceAdd, Nat.reduceSub, Nat.reduceMul, Nat.reduceLeDiff, Nat.reduceEqDiff, Nat.reduceLT, Nat.reduceBEq, reduceIte, reduceCtorEq, Int.reduceToNat, Nat.reduceShiftRight, Nat.reduceAnd, Nat.reduceBneDiff, Nat.reduceBNe, c23r0, semI.eq_10, semI.eq_11, semI.eq_3, semI.eq_5, semI.eq_7]
  refine .seq ?_
  refine Rw.walk ?_
  simp only [wz, wd, ws, Nat.reduceAdd, Nat.reduceSub, Nat.reduceMul, Nat.reduceLeDiff, Nat.reduceEqDiff, Nat.reduceLT, Nat.reduceBEq, reduceIte, reduceCtorEq, Int.reduceToNat, Nat.reduceShiftRight, Nat.reduceAnd, Nat.reduceBneDiff, Nat.reduceBNe, c23r1, semI.eq_10, semI.eq_11, semI.eq_3, semI.eq_5, semI.eq_7]
  refine .seq ?_
  refine .seq ?_
  refine Rw.walk ?_
  simp only [wz, wd, ws, Nat.reduceAdd, Nat.reduceSub, Nat.reduceMul, Nat.reduceLeDiff, Nat.reduceEqDiff, Nat.reduceLT, Nat.reduceBEq, reduceIte, reduceCtorEq, Int.reduceToNat, Nat.reduceShiftRight, Nat.reduceAnd, Nat.reduceBneDiff, Nat.reduceBNe, c23r2, semI.eq_10, semI.eq_11, semI.eq_3, semI.eq_5, semI.eq_7]
  refine .blk ?_
  obtain ⟨s2, hf, h⟩ := Option.bind_eq_some_iff.1 h
  refine .loop (.weak (Imp.co [] _ _ ?c1 ?c2 ?c3 ?c4 ?c5) (f_name_part_l21_ok s _ _ hR _ _ _ _ hf _ ?_ ?_))
  case c1 | c2 | c3 | c4 | c5 => simp only [wz, wd, ws, Nat.reduceAdd, Nat.reduceSub, Nat.reduceMul, Nat.reduceLeDiff, Nat.reduceEqDiff, Nat.reduceLT, Nat.reduceBEq, reduceIte, reduceCtorEq, Int.reduceToNat, Nat.reduceShiftRight, Nat.reduceAnd, Nat.reduceBneDiff, Nat.reduceBNe, wi, er_nil]
  · intro s3 hs; subst hs; dsimp only at h
    refine .seq ?_
    refine Rw.walk ?_
    simp only [wz, wd, ws, Nat.reduceAdd, Nat.reduceSub, Nat.reduceMul, Nat.reduceLeDiff, Nat.reduceEqDiff, Nat.reduceLT, Nat.reduceBEq, reduceIte, reduceCtorEq, Int.reduceToNat, Nat.reduceShiftRight, Nat.reduceAnd, Nat.reduceBneDiff, Nat.reduceBNe, c23r21, semI.eq_10, semI.eq_11, semI.eq_3, semI.eq_5, semI.eq_7]
    repeat (refine And.intro ?_ ?_; · first | omega | (intro q; simp only [wz, wd, ws, Nat.reduceAdd, Nat.reduceSub, Nat.reduceMul, Nat.reduceLeDiff, Nat.reduceEqDiff, Nat.reduceLT, Nat.reduceBEq, reduceIte, reduceCtorEq, Int.reduceToNat, Nat.reduceShiftRight, Nat.reduceAnd, Nat.reduceBneDiff, Nat.reduceBNe, q]; done))
    obtain rfl := Option.some.inj h
    refine .ret ?_
    rw [← hR]
    simp only [wz, wd, ws, Nat.reduceAdd, Nat.reduceSub, Nat.reduceMul, Nat.reduceLeDiff, Nat.reduceEqDiff, Nat.reduceLT, Nat.reduceBEq, reduceIte, reduceCtorEq, Int.reduceToNat, Nat.reduceShiftRight, Nat.reduceAnd, Nat.reduceBneDiff, Nat.reduceBNe, rv23]
  · intro z hz; subst hz; dsimp only at h
    exact Option.some.inj h
theorem f_name_Repo_ok (s : Str) (y_ : Bool) (h : f_name_Repo s = some y_) : Fun Tryd.prog glP 11 [.b (.s (.d (.str s)))] (.b (.s (.d (.bool y_)))) := by
  refine Fun.flatG (by kernel_rfl) (of_bool _) fun w S vs hS hG hA => ?_
  obtain ⟨v, rfl, h1⟩ := args1 hA
  obtain rfl := repv_str (l := s) h1
  exact name_Repo_spec f_name_part s y_ h w (fun x b hx W hb => (f_name_part_ok x b hx).boolAt hS hG hb (repA_str x))
-- 13 consignor/name.Tag
def c13r0 : List Opn := [
  ⟨(some 2), none, .mv (.c (.s (.d (.bool false))))⟩]
def c13r1 : List Opn := [
  ⟨(some 5), none, .mv (.t 0)⟩, 
  ⟨(some 6), none, .len .str (.t 5)⟩, 
  ⟨(some 7), none, .mv (.c (.s (.d (.int .i64 0))))⟩]
def c13r2 : List Opn := [
  ⟨(some 8), none, .bin .lss (.t 7) (.t 6)⟩]
def c13r3 : List Opn := [
  ⟨(some 9), none, .mv (.t 7)⟩, 
  ⟨(some 3), none, .mv (.t 9)⟩]
def c13r4 : List Opn := [
  ⟨(some 10), none, .mv (.t 0)⟩, 
  ⟨(some 11), none, .mv (.t 3)⟩, 
  ⟨(some 12), none, .idx .str (.t 10) (.t 11)⟩, 
  ⟨(some 4), none, .mv (.t 12)⟩]
def c13r5 : List Opn := [
  ⟨(some 13), none, .mv (.t 4)⟩, 
  ⟨(some 14), none, .call (.fn 26) [(.t 13)]⟩, 
  ⟨(some 15), none, .mv (.t 14)⟩, 
  ⟨(some 16), some (15, false), .mv (.t 4)⟩, 
  ⟨(some 17), some (15, false), .bin .geq (.t 16) (.c (.s (.d (.int .u8 65))))⟩, 
  ⟨(some 18), some (15, false), .mv (.t 17)⟩, 
  ⟨(some 19), some (18, true), .mv (.t 4)⟩, 
  ⟨(some 20), some (18, true), .bin .leq (.t 19) (.c (.s (.d (.int .u8 90))))⟩, 
  ⟨(some 21), some (15, false), .pick (.t 18) (.t 20) (.c (.s (.d (.bool false))))⟩, 
  ⟨(some 22), none, .pick (.t 15) (.c (.s (.d (.bool true)))) (.t 21)⟩, 
  ⟨(some 23), none, .mv (.t 22)⟩, 
  ⟨(some 24), some (23, false), .mv (.t 4)⟩, 
  ⟨(some 25), some (23, false), .bin .eql (.t 24) (.c (.s (.d (.int .u8 95))))⟩, 
  ⟨(some 26), none, .pick (.t 23) (.c (.s (.d (.bool true)))) (.t 25)⟩, 
  ⟨(some 27), none, .mv (.t 26)⟩, 
  ⟨(some 28), some (27, false), .mv (.t 3)⟩, 
  ⟨(some 29), some (27, false), .bin .gtr (.t 28) (.c (.s (.d (.int .i64 0))))⟩, 
  ⟨(some 30), some (27, false), .mv (.t 29)⟩, 
  ⟨(some 31), some (30, true), .mv (.t 4)⟩, 
  ⟨(some 32), some (30, true), .bin .eql (.t 31) (.c (.s (.d (.int .u8 46))))⟩, 
  ⟨(some 33), some (30, true), .mv (.t 32)⟩, 
  ⟨(some 34), some (33, false), .mv (.t 4)⟩, 
  ⟨(some 35), some (33, false), .bin .eql (.t 34) (.c (.s (.d (.int .u8 45))))⟩, 
  ⟨(some 36), some (30, true), .pick (.t 33) (.c (.s (.d (.bool true)))) (.t 35)⟩, 
  ⟨(some 37), some (27, false), .pick (.t 30) (.t 36) (.c (.s (.d (.bool false))))⟩, 
  ⟨(some 38), none, .pick (.t 27) (.c (.s (.d (.bool true)))) (.t 37)⟩]
def c13r6 : List Opn := [
  ⟨(some 2), none, .mv (.c (.s (.d (.bool false))))⟩]
def c13r7 : List Opn := [
  ⟨(some 39), none, .bin .add (.t 7) (.c (.s (.d (.int .i64 1))))⟩, 
  ⟨(some 7), none, .mv (.t 39)⟩]
def c13l8 : C := .seq (.reg c13r2 none [0, 6, 7, 8]) (.seq (.cond (.t 8) (.skip) (.exit 0)) (.seq (.blk 1 (.seq (.reg c13r3 none [0, 3, 6, 7]) (.seq (.reg c13r4 none [0, 3, 4, 6, 7]) (.seq (.seq (.reg c13r5 none [0, 6, 7, 38]) (.cond (.t 38) (.exit 1) (.skip))) (.seq (.reg c13r6 none [2]) (.ret)))))) (.reg c13r7 none [0, 6, 7])))
def c13r8 : List Opn := [
  ⟨(some 40), none, .mv (.t 0)⟩, 
  ⟨(some 41), none, .bin .neq (.t 40) (.c (.s (.d (.str []))))⟩, 
  ⟨(some 42), none, .mv (.t 41)⟩, 
  ⟨(some 43), some (42, true), .mv (.t 0)⟩, 
  ⟨(some 44), some (42, true), .len .str (.t 43)⟩, 
  ⟨(some 45), some (42, true), .bin .leq (.t 44) (.c (.s (.d (.int .i64 128))))⟩, 
  ⟨(some 46), none, .pick (.t 42) (.t 45) (.c (.s (.d (.bool false))))⟩, 
  ⟨(some 2), none, .mv (.t 46)⟩]
def c13 : C := .seq (.reg c13r0 none [0]) (.seq (.seq (.reg c13r1 none [0, 6, 7]) (.blk 0 (.loop c13l8))) (.seq (.reg c13r8 none [2]) (.ret)))
def k13 : List (Nat × List Nat) := [(8, [2]), (7, [0, 6, 7]), (6, [2]), (5, [0, 6, 7, 38]), (4, [0, 3, 4, 6, 7]), (3, [0, 3, 6, 7]), (2, [0, 6, 7, 8]), (1, [0, 6, 7]), (0, [0])]
theorem cc13 : (Tryd.f13.body).bind (cC Tryd.prog 47 k13) = some c13 := by kernel_rfl
def rv13 : List RV := [.t 2]
theorem cr13 : cRVs Tryd.prog Tryd.f13.results.toList = some rv13 := by kernel_rfl
theorem f_name_Tag_l8_ok (s : Str) (y_ : Bool) (R_ : St → Prop) (hR : (Ret Tryd.prog glP [] rv13 (.b (.s (.d (.bool y_))))) = R_) : ∀ (m_ : Nat) (v7 : Int) (res_ : (Int) ⊕ (Bool)) (h : f_name_Tag_l8 s m_ v7 = some res_) (k_ : List It) (hx : ∀ s_ : Int, res_ = .inl s_ → W Tryd.prog glP 47 k_ ⟨lkT [(0, .b (.s (.d (.str s)))), (6, .b (.s (.d (.int .i64 (s.length : Int))))), (7, .b (.s (.d (.int .i64 s_))))], lkG []⟩ R_) (hr : ∀ z_ : Bool, res_ = .inr z_ → z_ = y_), W Tryd.prog glP 47 (.c c13l8 :: .lp c13l8 :: .blk 0 :: k_) ⟨lkT [(0, .b (.s (.d (.str s)))), (6, .b (.s (.d (.int .i64 (s.length : Int))))), (7, .b (.s (.d (.int .i64 v7))))], lkG []⟩ R_ := by
  intro m_; induction m_ with
  | zero => intro v7 res_ h; rw [f_name_Tag_l8.eq_1] at h; cases h
  | succ m_ ih =>
    intro v7 res_ h k_ hx hr; rw [f_name_Tag_l8.eq_2] at h; refine W.cdef c13l8.eq_1 ?_
    refine .seq ?_
    refine Rw.walk ?_
    simp only [wz, wd, ws, Nat.reduceAdd, Nat.reduceSub, Nat.reduceMul, Nat.reduceLeDiff, Nat.reduceEqDiff, Nat.reduceLT, Nat.reduceBEq, reduceIte, reduceCtorEq, Int.reduceToNat, Nat.reduceShiftRight, Nat.reduceAnd, Nat.reduceBneDiff, Nat.reduceBNe, c13r2, semI.eq_10, semI.eq_11, semI.eq_3, semI.eq_5, semI.eq_7]
    refine .seq ?_
    refine .cond (p := (decide (v7 < (s.length : Int)))) (by first | rfl | simp only [wz, wd, ws, Nat.reduceAdd, Nat.reduceSub, Nat.reduceMul, Nat.reduceLeDiff, Nat.reduceEqDiff, Nat.reduceLT, Nat.reduceBEq, reduceIte, reduceCtorEq, Int.reduceToNat, Nat.reduceShiftRight, Nat.reduceAnd, Nat.reduceBneDiff, Nat.reduceBNe]) (fun h1 => ?_) (fun h1 => ?_)
    · rw [ite_t h1] at h
      refine .skip ?_
      refine .seq ?_
      refine .blk ?_
      refine .seq ?_
      refine Rw.walk ?_
      simp only [wz, wd, ws, Nat.reduceAdd, Nat.reduceSub, Nat.reduceMul, Nat.reduceLeDiff, Nat.reduceEqDiff, Nat.reduceLT, Nat.reduceBEq, reduceIte, reduceCtorEq, Int.reduceToNat, Nat.reduceShiftRight, Nat.reduceAnd, Nat.reduceBneDiff, Nat.reduceBNe, c13r3, semI.eq_10, semI.eq_11, semI.eq_3, semI.eq_5, semI.eq_7]
      refine .seq ?_
      refine Rw.walk ?_
      simp only [wz, wd, ws, Nat.reduceAdd, Nat.reduceSub, Nat.reduceMul, Nat.reduceLeDiff, Nat.reduceEqDiff, Nat.reduceLT, Nat.reduceBEq, reduceIte, reduceCtorEq, Int.reduceToNat, Nat.reduceShiftRight, Nat.reduceAnd, Nat.reduceBneDiff, Nat.reduceBNe, c13r4, semI.eq_10, semI.eq_11, semI.eq_3, semI.eq_5, semI.eq_7]
      obtain ⟨c, e1, h⟩ := Option.bind_eq_some_iff.1 h
      refine Go1.of (sem_idx e1 (by rfl) (by rfl)) ?_
      simp only [wz, wd, ws, Nat.reduceAdd, Nat.reduceSub, Nat.reduceMul, Nat.reduceLeDiff, Nat.reduceEqDiff, Nat.reduceLT, Nat.reduceBEq, reduceIte, reduceCtorEq, Int.reduceToNat, Nat.reduceShiftRight, Nat.reduceAnd, Nat.reduceBneDiff, Nat.reduceBNe, c13r4, semI.eq_10, semI.eq_11, semI.eq_3, semI.eq_5, semI.eq_7]
      refine .seq ?_
      refine .seq ?_
      refine Rw.walk ?_
      simp only [wz, wd, ws, Nat.reduceAdd, Nat.reduceSub, Nat.reduceMul, Nat.reduceLeDiff, Nat.reduceEqDiff, Nat.reduceLT, Nat.reduceBEq, reduceIte, reduceCtorEq, Int.reduceToNat, Nat.reduceShiftRight, Nat.reduceAnd, Nat.reduceBneDiff, Nat.reduceBNe, c13r5, semI.eq_10, semI.eq_11, semI.eq_3, semI.eq_5, semI.eq_7]
      obtain ⟨t, e2, h⟩ := Option.bind_eq_some_iff.1 h
      refine call_fun [] false ⟨trivial, trivial, trivial⟩ rfl ?_ (f_name_small_ok _ _ e2) (fun _ => rfl) (fun i hi => by cases hi) ?_
      · simp only [wz, wd, ws, Nat.reduceAdd, Nat.reduceSub, Nat.reduceMul, Nat.reduceLeDiff, Nat.reduceEqDiff, Nat.reduceLT, Nat.reduceBEq, reduceIte, reduceCtorEq, Int.reduceToNat, Nat.reduceShiftRight, Nat.reduceAnd, Nat.reduceBneDiff, Nat.reduceBNe]
      simp only [wz, wd, ws, Nat.reduceAdd, Nat.reduceSub, Nat.reduceMul, Nat.reduceLeDiff, Nat.reduceEqDiff, Nat.reduceLT, Nat.reduceBEq, reduceIte, reduceCtorEq, Int.reduceToNat, Nat.reduceShiftRight, Nat.reduceAnd, Nat.reduceBneDiff, Nat.reduceBNe, c13r5, semI.eq_10, semI.eq_11, semI.eq_3, semI.eq_5, semI.eq_7]
      repeat (refine And.intro ?_ ?_; · first | omega | (intro q; simp only [wz, wd, ws, Nat.reduceAdd, Nat.reduceSub, Nat.reduceMul, Nat.reduceLeDiff, Nat.reduceEqDiff, Nat.reduceLT, Nat.reduceBEq, reduceIte, reduceCtorEq, Int.reduceToNat, Nat.reduceShiftRight, Nat.reduceAnd, Nat.reduceBneDiff, Nat.reduceBNe, q]; done))
      refine .cond (p := (((t || ((decide ((bn c) ≥ 65)) && (decide ((bn c) ≤ 90)))) || ((bn c) == 95)) || ((decide (v7 > 0)) && (((bn c) == 46) || ((bn c) == 45))))) (by first | rfl | simp only [wz, wd, ws, Nat.reduceAdd, Nat.reduceSub, Nat.reduceMul, Nat.reduceLeDiff, Nat.reduceEqDiff, Nat.reduceLT, Nat.reduceBEq, reduceIte, reduceCtorEq, Int.reduceToNat, Nat.reduceShiftRight, Nat.reduceAnd, Nat.reduceBneDiff, Nat.reduceBNe]) (fun h1 => ?_) (fun h1 => ?_)
      · rw [ite_t h1] at h
        refine .exit rfl ?_
        refine Rw.walk ?_
        simp only [wz, wd, ws, Nat.reduceAdd, Nat.reduceSub, Nat.reduceMul, Nat.reduceLeDiff, Nat.reduceEqDiff, Nat.reduceLT, Nat.reduceBEq, reduceIte, reduceCtorEq, Int.reduceToNat, Nat.reduceShiftRight, Nat.reduceAnd, Nat.reduceBneDiff, Nat.reduceBNe, c13r7, semI.eq_10, semI.eq_11, semI.eq_3, semI.eq_5, semI.eq_7]
        refine .lp ?_
        refine .weak (Imp.co [] _ _ ?_ ?_ ?_ ?_ ?_) (ih (IntKind.i64.wrap (v7 + 1)) _ h k_ hx hr) <;> simp only [wz, wd, ws, Nat.reduceAdd, Nat.reduceSub, Nat.reduceMul, Nat.reduceLeDiff, Nat.reduceEqDiff, Nat.reduceLT, Nat.reduceBEq, reduceIte, reduceCtorEq, Int.reduceToNat, Nat.reduceShiftRight, Nat.reduceAnd, Nat.reduceBneDiff, Nat.reduceBNe, wi, er_nil]
      · rw [ite_f h1] at h
        refine .skip ?_
        refine .seq ?_
        refine Rw.walk ?_
        simp only [wz, wd, ws, Nat.reduceAdd, Nat.reduceSub, Nat.reduceMul, Nat.reduceLeDiff, Nat.reduceEqDiff, Nat.reduceLT, Nat.reduceBEq, reduceIte, reduceCtorEq, Int.reduceToNat, Nat.reduceShiftRight, Nat.reduceAnd, Nat.reduceBneDiff, Nat.reduceBNe, c13r6, semI.eq_10, semI.eq_11, semI.eq_3, semI.eq_5, semI.eq_7]
        obtain rfl := Option.some.inj h; obtain rfl := hr _ rfl
        refine .ret ?_
        rw [← hR]
        simp only [wz, wd, ws, Nat.reduceAdd, Nat.reduceSub, Nat.reduceMul, Nat.reduceLeDiff, Nat.reduceEqDiff, Nat.reduceLT, Nat.reduceBEq, reduceIte, reduceCtorEq, Int.reduceToNat, Nat.reduceShiftRight, Nat.reduceAnd, Nat.reduceBneDiff, Nat.reduceBNe, rv13]
    · rw [ite_f h1] at h
      refine .exit rfl ?_
      obtain rfl := Option.some.inj h
      refine .weak (Imp.co [] _ _ ?_ ?_ ?_ ?_ ?_) (hx _ rfl) <;> simp only [wz, wd, ws, Nat.reduceAdd, Nat.reduceSub, Nat.reduceMul, Nat.reduceLeDiff, Nat.reduceEqDiff, Nat.reduceLT, Nat.reduceBEq, reduceIte, reduceCtorEq, Int.reduceToNat, Nat.reduceShiftRight, Nat.reduceAnd, Nat.reduceBneDiff, Nat.reduceBNe, wi, er_nil]
theorem f_name_Tag_ok (s : Str) (y_ : Bool) (h : f_name_Tag s = some y_) : Fun Tryd.prog glP 13 [.b (.s (.d (.str s)))] (.b (.s (.d (.bool y_)))) := by
  refine fun_walk [] Tryd.func13 Tryd.ntmps13 cc13 cr13 (by kernel_rfl) (by simp only [List.length_cons, List.length_nil]; decide) ?_
  generalize hR : Ret _ _ _ _ _ = R_
  simp only [wz, wd, ws, Nat.reduceAdd, Nat.reduceSub, Nat.reduceMul, Nat.reduceLeDiff, Nat.reduceEqDiff, Nat.reduceLT, Nat.reduceBEq, reduceIte, reduceCtorEq, Int.reduceToNat, Nat.reduceShiftRight, Nat.reduceAnd, Nat.reduceBneDiff, Nat.reduceBNe]
  unfold f_name_Tag at h; unfold c13
  refine .seq ?_
  refine Rw.walk ?_
  simp only [wz, wd, ws, Nat.reduceAdd, Nat.reduceSub, Nat.reduceMul, Nat.reduceLeDiff, Nat.reduceEqDiff, Nat.reduceLT, Nat.reduceBEq, reduceIte, reduceCtorEq, Int.reduceToNat, Nat.reduceShiftRight, Nat.reduceAnd, Nat.reduceBneDiff, Nat.reduceBNe, c13r0, semI.eq_10, semI.eq_11, semI.eq_3, semI.eq_5, semI.eq_7]
  refine .seq ?_
  refine .seq ?_
  refine Rw.walk ?_
  simp only [wz, wd, ws, Nat.reduceAdd, Nat.reduceSub, Nat.reduceMul, Nat.reduceLeDiff, Nat.reduceEqDiff, Nat.reduceLT, Nat.reduceBEq, reduceIte, reduceCtorEq, Int.reduceToNat, Nat.reduceShiftRight, Nat.reduceAnd, Nat.reduceBneDiff, Nat.reduceBNe, c13r1, semI.eq_10, semI.eq_11, semI.eq_3, semI.eq_5, semI.eq_7]
  refine .blk ?_
  obtain ⟨s2, hf, h⟩ := Option.bind_eq_some_iff.1 h
  refine .loop (.weak (Imp.co [] _ _ ?c1 ?c2 ?c3 ?c4 ?c5) (f_name_Tag_l8_ok s _ _ hR _ _ _ hf _ ?_ ?_))
  case c1 | c2 | c3 | c4 | c5 => simp only [wz, wd, ws, Nat.reduceAdd, Nat.reduceSub, Nat.reduceMul, Nat.reduceLeDiff, Nat.reduceEqDiff, Nat.reduceLT, Nat.reduceBEq, reduceIte, reduceCtorEq, Int.reduceToNat, Nat.reduceShiftRight, Nat.reduceAnd, Nat.reduceBneDiff, Nat.reduceBNe, wi, er_nil]
  · intro s3 hs; subst hs; dsimp only at h
    refine .seq ?_
    refine Rw.walk ?_
    simp only [wz, wd, ws, Nat.reduceAdd, Nat.reduceSub, Nat.reduceMul, Nat.reduceLeDiff, Nat.reduceEqDiff, Nat.reduceLT, Nat.reduceBEq, reduceIte, reduceCtorEq, Int.reduceToNat, Nat.reduceShiftRight, Nat.reduceAnd, Nat.reduceBneDiff, Nat.reduceBNe, c13r8, semI.eq_10, semI.eq_11, semI.eq_3, semI.eq_5, semI.eq_7]
    repeat (refine And.intro ?_ ?_; · first | omega | (intro q; simp only [wz, wd, ws, Nat.reduceAdd, Nat.reduceSub, Nat.reduceMul, Nat.reduceLeDiff, Nat.reduceEqDiff, Nat.reduceLT, Nat.reduceBEq, reduceIte, reduceCtorEq, Int.reduceToNat, Nat.reduceShiftRight, Nat.reduceAnd, Nat.reduceBneDiff, Nat.reduceBNe, q]; done))
    obtain rfl := Option.some.inj h
    refine .ret ?_
    rw [← hR]
    simp only [wz, wd, ws, Nat.reduceAdd, Nat.reduceSub, Nat.reduceMul, Nat.reduceLeDiff, Nat.reduceEqDiff, Nat.reduceLT, Nat.reduceBEq, reduceIte, reduceCtorEq, Int.reduceToNat, Nat.reduceShiftRight, Nat.reduceAnd, Nat.reduceBneDiff, Nat.reduceBNe, rv13]
  · intro z hz; subst hz; dsimp only at h
    exact Option.some.inj h
-- 10 consignor/name.Print
def c10r0 : List Opn := [
  ⟨(some 1), none, .box 3 (.t 0)⟩, 
  ⟨(some 2), none, .mv (.c (.s (.d (.str []))))⟩, 
  ⟨(some 3), none, .mv (.c (.s (.d (.int .i64 0))))⟩]
def c10r1 : List Opn := [
  ⟨(some 7), none, .fadr 2 (.t 1)⟩, 
  ⟨(some 8), none, .load false 1 (.t 7)⟩, 
  ⟨(some 9), none, .call (.fn 21) [(.t 8)]⟩, 
  ⟨(some 6), none, .mv (.t 9)⟩, 
  ⟨(some 10), none, .ext (.t 6) 0⟩, 
  ⟨(some 11), none, .ext (.t 6) 1⟩, 
  ⟨(some 4), none, .mv (.t 10)⟩, 
  ⟨(some 5), none, .mv (.t 11)⟩]
def c10r2 : List Opn := [
  ⟨(some 13), none, .fadr 0 (.t 1)⟩, 
  ⟨(some 14), none, .load false 1 (.t 13)⟩, 
  ⟨(some 15), none, .call (.fn 11) [(.t 14)]⟩, 
  ⟨(some 16), none, .un .not (.t 15)⟩, 
  ⟨(some 12), none, .mv (.t 16)⟩]
def c10r3 : List Opn := [
  ⟨(some 18), none, .fadr 2 (.t 1)⟩, 
  ⟨(some 19), none, .load false 1 (.t 18)⟩, 
  ⟨(some 20), none, .bin .eql (.t 19) (.c (.s (.d (.str []))))⟩, 
  ⟨(some 21), none, .mv (.t 20)⟩, 
  ⟨(some 22), some (21, true), .fadr 1 (.t 1)⟩, 
  ⟨(some 23), some (21, true), .load false 1 (.t 22)⟩, 
  ⟨(some 24), some (21, true), .call (.fn 13) [(.t 23)]⟩, 
  ⟨(some 25), none, .pick (.t 21) (.t 24) (.c (.s (.d (.bool false))))⟩, 
  ⟨(some 17), none, .mv (.t 25)⟩]
def c10r4 : List Opn := [
  ⟨(some 26), none, .fadr 0 (.t 1)⟩, 
  ⟨(some 27), none, .load false 1 (.t 26)⟩, 
  ⟨(some 28), none, .bin .add (.t 27) (.c (.s (.d (.str [58]))))⟩, 
  ⟨(some 29), none, .fadr 1 (.t 1)⟩, 
  ⟨(some 30), none, .load false 1 (.t 29)⟩, 
  ⟨(some 31), none, .bin .add (.t 28) (.t 30)⟩, 
  ⟨(some 2), none, .mv (.t 31)⟩, 
  ⟨(some 3), none, .mv (.c (.s (.d (.int .i64 0))))⟩]
def c10r5 : List Opn := [
  ⟨(some 33), none, .fadr 1 (.t 1)⟩, 
  ⟨(some 34), none, .load false 1 (.t 33)⟩, 
  ⟨(some 35), none, .bin .eql (.t 34) (.c (.s (.d (.str []))))⟩, 
  ⟨(some 36), none, .mv (.t 35)⟩, 
  ⟨(some 37), some (36, true), .mv (.t 5)⟩, 
  ⟨(some 38), some (36, true), .bin .eql (.t 37) (.c (.s (.d (.int .i64 0))))⟩, 
  ⟨(some 39), none, .pick (.t 36) (.t 38) (.c (.s (.d (.bool false))))⟩, 
  ⟨(some 32), none, .mv (.t 39)⟩]
def c10r6 : List Opn := [
  ⟨(some 40), none, .fadr 0 (.t 1)⟩, 
  ⟨(some 41), none, .load false 1 (.t 40)⟩, 
  ⟨(some 42), none, .bin .add (.t 41) (.c (.s (.d (.str [64]))))⟩, 
  ⟨(some 43), none, .fadr 2 (.t 1)⟩, 
  ⟨(some 44), none, .load false 1 (.t 43)⟩, 
  ⟨(some 45), none, .bin .add (.t 42) (.t 44)⟩, 
  ⟨(some 2), none, .mv (.t 45)⟩, 
  ⟨(some 3), none, .mv (.c (.s (.d (.int .i64 0))))⟩]
def c10r7 : List Opn := [
  ⟨(some 2), none, .mv (.c (.s (.d (.str []))))⟩, 
  ⟨(some 3), none, .mv (.c (.s (.d (.int .i64 1))))⟩]
def c10 : C := .seq (.reg c10r0 none [1]) (.seq (.reg c10r1 none [1, 5]) (.seq (.blk 0 (.seq (.reg c10r2 none [1, 5, 12]) (.cond (.t 12) (.skip) (.seq (.reg c10r3 none [1, 5, 17]) (.cond (.t 17) (.seq (.reg c10r4 none [2, 3]) (.ret)) (.seq (.reg c10r5 none [1, 32]) (.cond (.t 32) (.seq (.reg c10r6 none [2, 3]) (.ret)) (.skip)))))))) (.seq (.reg c10r7 none [2, 3]) (.ret))))
def k10 : List (Nat × List Nat) := [(7, [2, 3]), (4, [2, 3]), (6, [2, 3]), (5, [1, 32]), (3, [1, 5, 17]), (2, [1, 5, 12]), (1, [1, 5]), (0, [1])]
theorem cc10 : (Tryd.f10.body).bind (cC Tryd.prog 46 k10) = some c10 := by kernel_rfl
def rv10 : List RV := [.t 2, .t 3]
theorem cr10 : cRVs Tryd.prog Tryd.f10.results.toList = some rv10 := by kernel_rfl
theorem f_name_Print_ok (rv : api_Ref) (y_ : Str × Int) (h : f_name_Print rv = some y_) : Fun Tryd.prog glP 10 [.b (.agg ((e_api_Ref rv).map Lc.d))] (.tup [.s (.d (.str y_.1)), .s (.d (.int .i64 y_.2))]) := by
  refine fun_walk [] Tryd.func10 Tryd.ntmps10 cc10 cr10 (by kernel_rfl) (by simp only [List.length_cons, List.length_nil]; decide) ?_
  generalize hR : Ret _ _ _ _ _ = R_
  simp only [wz, wd, ws, Nat.reduceAdd, Nat.reduceSub, Nat.reduceMul, Nat.reduceLeDiff, Nat.reduceEqDiff, Nat.reduceLT, Nat.reduceBEq, reduceIte, reduceCtorEq, Int.reduceToNat, Nat.reduceShiftRight, Nat.reduceAnd, Nat.reduceBneDiff, Nat.reduceBNe, e_api_Ref]
  unfold f_name_Print at h; unfold c10
  refine .seq ?_
  refine Rw.walk ?_
  simp only [wz, wd, ws, Nat.reduceAdd, Nat.reduceSub, Nat.reduceMul, Nat.reduceLeDiff, Nat.reduceEqDiff, Nat.reduceLT, Nat.reduceBEq, reduceIte, reduceCtorEq, Int.reduceToNat, Nat.reduceShiftRight, Nat.reduceAnd, Nat.reduceBneDiff, Nat.reduceBNe, c10r0, semI.eq_10, semI.eq_11, semI.eq_3, semI.eq_5, semI.eq_7, e_api_Ref]
  refine .seq ?_
  refine Rw.walk ?_
  simp only [wz, wd, ws, Nat.reduceAdd, Nat.reduceSub, Nat.reduceMul, Nat.reduceLeDiff, Nat.reduceEqDiff, Nat.reduceLT, Nat.reduceBEq, reduceIte, reduceCtorEq, Int.reduceToNat, Nat.reduceShiftRight, Nat.reduceAnd, Nat.reduceBneDiff, Nat.reduceBNe, c10r1, semI.eq_10, semI.eq_11, semI.eq_3, semI.eq_5, semI.eq_7, e_api_Ref]
  obtain ⟨t, e1, h⟩ := Option.bind_eq_some_iff.1 h
  refine call_fun [] false ⟨trivial, trivial, trivial⟩ rfl ?_ (f_digest_Parse_ok _ _ e1) (fun _ => rfl) (fun i hi => by cases hi) ?_
  · simp only [wz, wd, ws, Nat.reduceAdd, Nat.reduceSub, Nat.reduceMul, Nat.reduceLeDiff, Nat.reduceEqDiff, Nat.reduceLT, Nat.reduceBEq, reduceIte, reduceCtorEq, Int.reduceToNat, Nat.reduceShiftRight, Nat.reduceAnd, Nat.reduceBneDiff, Nat.reduceBNe, e_api_Ref]
  simp only [wz, wd, ws, Nat.reduceAdd, Nat.reduceSub, Nat.reduceMul, Nat.reduceLeDiff, Nat.reduceEqDiff, Nat.reduceLT, Nat.reduceBEq, reduceIte, reduceCtorEq, Int.reduceToNat, Nat.reduceShiftRight, Nat.reduceAnd, Nat.reduceBneDiff, Nat.reduceBNe, c10r1, semI.eq_10, semI.eq_11, semI.eq_3, semI.eq_5, semI.eq_7, e_api_Ref]
  refine .seq ?_
  refine .blk ?_
  refine .seq ?_
  refine Rw.walk ?_
  simp only [wz, wd, ws, Nat.reduceAdd, Nat.reduceSub, Nat.reduceMul, Nat.reduceLeDiff, Nat.reduceEqDiff, Nat.reduceLT, Nat.reduceBEq, reduceIte, reduceCtorEq, Int.reduceToNat, Nat.reduceShiftRight, Nat.reduceAnd, Nat.reduceBneDiff, Nat.reduceBNe, c10r2, semI.eq_10, semI.eq_11, semI.eq_3, semI.eq_5, semI.eq_7, e_api_Ref]
  obtain ⟨t2, e2, h⟩ := Option.bind_eq_some_iff.1 h
  refine call_fun [] false ⟨trivial, trivial, trivial⟩ rfl ?_ (f_name_Repo_ok _ _ e2) (fun _ => rfl) (fun i hi => by cases hi) ?_
  · simp only [wz, wd, ws, Nat.reduceAdd, Nat.reduceSub, Nat.reduceMul, Nat.reduceLeDiff, Nat.reduceEqDiff, Nat.reduceLT, Nat.reduceBEq, reduceIte, reduceCtorEq, Int.reduceToNat, Nat.reduceShiftRight, Nat.reduceAnd, Nat.reduceBneDiff, Nat.reduceBNe, e_api_Ref]
  simp only [wz, wd, ws, Nat.reduceAdd, Nat.reduceSub, Nat.reduceMul, Nat.reduceLeDiff, Nat.reduceEqDiff, Nat.reduceLT, Nat.reduceBEq, reduceIte, reduceCtorEq, Int.reduceToNat, Nat.reduceShiftRight, Nat.reduceAnd, Nat.reduceBneDiff, Nat.reduceBNe, c10r2, semI.eq_10, semI.eq_11, semI.eq_3, semI.eq_5, semI.eq_7, e_api_Ref]
  refine .cond (p := (!t2)) (by first | rfl | simp only [wz, wd, ws, Nat.reduceAdd, Nat.reduceSub, Nat.reduceMul, Nat.reduceLeDiff, Nat.reduceEqDiff, Nat.reduceLT, Nat.reduceBEq, reduceIte, reduceCtorEq, Int.reduceToNat, Nat.reduceShiftRight, Nat.reduceAnd, Nat.reduceBneDiff, Nat.reduceBNe]) (fun h1 => ?_) (fun h1 => ?_)
  · rw [ite_t h1] at h
    refine .skip ?_
    refine .eblk ?_
    refine .seq ?_
    refine Rw.walk ?_
    simp only [wz, wd, ws, Nat.reduceAdd, Nat.reduceSub, Nat.reduceMul, Nat.reduceLeDiff, Nat.reduceEqDiff, Nat.reduceLT, Nat.reduceBEq, reduceIte, reduceCtorEq, Int.reduceToNat, Nat.reduceShiftRight, Nat.reduceAnd, Nat.reduceBneDiff, Nat.reduceBNe, c10r7, semI.eq_10, semI.eq_11, semI.eq_3, semI.eq_5, semI.eq_7, e_api_Ref]
    obtain rfl := Option.some.inj h
    refine .ret ?_
    rw [← hR]
    simp only [wz, wd, ws, Nat.reduceAdd, Nat.reduceSub, Nat.reduceMul, Nat.reduceLeDiff, Nat.reduceEqDiff, Nat.reduceLT, Nat.reduceBEq, reduceIte, reduceCtorEq, Int.reduceToNat, Nat.reduceShiftRight, Nat.reduceAnd, Nat.reduceBneDiff, Nat.reduceBNe, rv10, e_api_Ref]
  · rw [ite_f h1] at h
    refine .seq ?_
    refine Rw.walk ?_
    simp only [wz, wd, ws, Nat.reduceAdd, Nat.reduceSub, Nat.reduceMul, Nat.reduceLeDiff, Nat.reduceEqDiff, Nat.reduceLT, Nat.reduceBEq, reduceIte, reduceCtorEq, Int.reduceToNat, Nat.reduceShiftRight, Nat.reduceAnd, Nat.reduceBneDiff, Nat.reduceBNe, c10r3, semI.eq_10, semI.eq_11, semI.eq_3, semI.eq_5, semI.eq_7, e_api_Ref]
    refine call_alt (v := .b (.s (.d (.str rv.Tag)))) rfl rfl (by simp only [wz, wd, ws, Nat.reduceAdd, Nat.reduceSub, Nat.reduceMul, Nat.reduceLeDiff, Nat.reduceEqDiff, Nat.reduceLT, Nat.reduceBEq, reduceIte, reduceCtorEq, Int.reduceToNat, Nat.reduceShiftRight, Nat.reduceAnd, Nat.reduceBneDiff, Nat.reduceBNe]) (fun q => ⟨_, by simp only [wz, wd, ws, Nat.reduceAdd, Nat.reduceSub, Nat.reduceMul, Nat.reduceLeDiff, Nat.reduceEqDiff, Nat.reduceLT, Nat.reduceBEq, reduceIte, reduceCtorEq, Int.reduceToNat, Nat.reduceShiftRight, Nat.reduceAnd, Nat.reduceBneDiff, Nat.reduceBNe, semI.eq_10, e_api_Ref], trivial⟩) ?_
    simp only [wz, wd, ws, Nat.reduceAdd, Nat.reduceSub, Nat.reduceMul, Nat.reduceLeDiff, Nat.reduceEqDiff, Nat.reduceLT, Nat.reduceBEq, reduceIte, reduceCtorEq, Int.reduceToNat, Nat.reduceShiftRight, Nat.reduceAnd, Nat.reduceBneDiff, Nat.reduceBNe, c10r3, semI.eq_10, semI.eq_11, semI.eq_3, semI.eq_5, semI.eq_7, e_api_Ref]
    obtain ⟨t3, e3, h⟩ := Option.bind_eq_some_iff.1 h
    refine call_funG [] rfl (by simp only [wz, wd, ws, Nat.reduceAdd, Nat.reduceSub, Nat.reduceMul, Nat.reduceLeDiff, Nat.reduceEqDiff, Nat.reduceLT, Nat.reduceBEq, reduceIte, reduceCtorEq, Int.reduceToNat, Nat.reduceShiftRight, Nat.reduceAnd, Nat.reduceBneDiff, Nat.reduceBNe]) rfl ?_ (fun q => (f_name_Tag_ok _ _ (gx_iff e3 (by simpa using q)))) rfl (fun i hi => by cases hi) ?_
    · simp only [wz, wd, ws, Nat.reduceAdd, Nat.reduceSub, Nat.reduceMul, Nat.reduceLeDiff, Nat.reduceEqDiff, Nat.reduceLT, Nat.reduceBEq, reduceIte, reduceCtorEq, Int.reduceToNat, Nat.reduceShiftRight, Nat.reduceAnd, Nat.reduceBneDiff, Nat.reduceBNe, e_api_Ref]
    simp only [wz, wd, ws, Nat.reduceAdd, Nat.reduceSub, Nat.reduceMul, Nat.reduceLeDiff, Nat.reduceEqDiff, Nat.reduceLT, Nat.reduceBEq, reduceIte, reduceCtorEq, Int.reduceToNat, Nat.reduceShiftRight, Nat.reduceAnd, Nat.reduceBneDiff, Nat.reduceBNe, c10r3, semI.eq_10, semI.eq_11, semI.eq_3, semI.eq_5, semI.eq_7, e_api_Ref]
    repeat (refine And.intro ?_ ?_; · first | omega | (intro q; simp only [wz, wd, ws, Nat.reduceAdd, Nat.reduceSub, Nat.reduceMul, Nat.reduceLeDiff, Nat.reduceEqDiff, Nat.reduceLT, Nat.reduceBEq, reduceIte, reduceCtorEq, Int.reduceToNat, Nat.reduceShiftRight, Nat.reduceAnd, Nat.reduceBneDiff, Nat.reduceBNe, q]; done))
    refine .cond (p := ((rv.Digest == ([] : Str)) && t3)) (by first | rfl | simp only [wz, wd, ws, Nat.reduceAdd, Nat.reduceSub, Nat.reduceMul, Nat.reduceLeDiff, Nat.reduceEqDiff, Nat.reduceLT, Nat.reduceBEq, reduceIte, reduceCtorEq, Int.reduceToNat, Nat.reduceShiftRight, Nat.reduceAnd, Nat.reduceBneDiff, Nat.reduceBNe]) (fun h1 => ?_) (fun h1 => ?_)
    · rw [ite_t h1] at h
      refine .seq ?_
      refine Rw.walk ?_
      obtain ⟨g4, h⟩ := gd_iff.1 h
      obtain ⟨g5, h⟩ := gd_iff.1 h
      simp only [wz, wd, ws, Nat.reduceAdd, Nat.reduceSub, Nat.reduceMul, Nat.reduceLeDiff, Nat.reduceEqDiff, Nat.reduceLT, Nat.reduceBEq, reduceIte, reduceCtorEq, Int.reduceToNat, Nat.reduceShiftRight, Nat.reduceAnd, Nat.reduceBneDiff, Nat.reduceBNe, c10r4, semI.eq_10, semI.eq_11, semI.eq_3, semI.eq_5, semI.eq_7, e_api_Ref]
      repeat (refine And.intro ?_ ?_; · first | omega | (intro q; simp only [wz, wd, ws, Nat.reduceAdd, Nat.reduceSub, Nat.reduceMul, Nat.reduceLeDiff, Nat.reduceEqDiff, Nat.reduceLT, Nat.reduceBEq, reduceIte, reduceCtorEq, Int.reduceToNat, Nat.reduceShiftRight, Nat.reduceAnd, Nat.reduceBneDiff, Nat.reduceBNe, q]; done))
      obtain rfl := Option.some.inj h
      refine .ret ?_
      rw [← hR]
      simp only [wz, wd, ws, Nat.reduceAdd, Nat.reduceSub, Nat.reduceMul, Nat.reduceLeDiff, Nat.reduceEqDiff, Nat.reduceLT, Nat.reduceBEq, reduceIte, reduceCtorEq, Int.reduceToNat, Nat.reduceShiftRight, Nat.reduceAnd, Nat.reduceBneDiff, Nat.reduceBNe, rv10, e_api_Ref]
    · rw [ite_f h1] at h
      refine .seq ?_
      refine Rw.walk ?_
      simp only [wz, wd, ws, Nat.reduceAdd, Nat.reduceSub, Nat.reduceMul, Nat.reduceLeDiff, Nat.reduceEqDiff, Nat.reduceLT, Nat.reduceBEq, reduceIte, reduceCtorEq, Int.reduceToNat, Nat.reduceShiftRight, Nat.reduceAnd, Nat.reduceBneDiff, Nat.reduceBNe, c10r5, semI.eq_10, semI.eq_11, semI.eq_3, semI.eq_5, semI.eq_7, e_api_Ref]
      repeat (refine And.intro ?_ ?_; · first | omega | (intro q; simp only [wz, wd, ws, Nat.reduceAdd, Nat.reduceSub, Nat.reduceMul, Nat.reduceLeDiff, Nat.reduceEqDiff, Nat.reduceLT, Nat.reduceBEq, reduceIte, reduceCtorEq, Int.reduceToNat, Nat.reduceShiftRight, Nat.reduceAnd, Nat.reduceBneDiff, Nat.reduceBNe, q]; done))
      refine .cond (p := ((rv.Tag == ([] : Str)) && (t.2 == 0))) (by first | rfl | simp only [wz, wd, ws, Nat.reduceAdd, Nat.reduceSub, Nat.reduceMul, Nat.reduceLeDiff, Nat.reduceEqDiff, Nat.reduceLT, Nat.reduceBEq, reduceIte, reduceCtorEq, Int.reduceToNat, Nat.reduceShiftRight, Nat.reduceAnd, Nat.reduceBneDiff, Nat.reduceBNe]) (fun h1 => ?_) (fun h1 => ?_)
      · rw [ite_t h1] at h
        refine .seq ?_
        refine Rw.walk ?_
        obtain ⟨g6, h⟩ := gd_iff.1 h
        obtain ⟨g7, h⟩ := gd_iff.1 h
        simp only [wz, wd, ws, Nat.reduceAdd, Nat.reduceSub, Nat.reduceMul, Nat.reduceLeDiff, Nat.reduceEqDiff, Nat.reduceLT, Nat.reduceBEq, reduceIte, reduceCtorEq, Int.reduceToNat, Nat.reduceShiftRight, Nat.reduceAnd, Nat.reduceBneDiff, Nat.reduceBNe, c10r6, semI.eq_10, semI.eq_11, semI.eq_3, semI.eq_5, semI.eq_7, e_api_Ref]
        repeat (refine And.intro ?_ ?_; · first | omega | (intro q; simp only [wz, wd, ws, Nat.reduceAdd, Nat.reduceSub, Nat.reduceMul, Nat.reduceLeDiff, Nat.reduceEqDiff, Nat.reduceLT, Nat.reduceBEq, reduceIte, reduceCtorEq, Int.reduceToNat, Nat.reduceShiftRight, Nat.reduceAnd, Nat.reduceBneDiff, Nat.reduceBNe, q]; done))
        obtain rfl := Option.some.inj h
        refine .ret ?_
        rw [← hR]
        simp only [wz, wd, ws, Nat.reduceAdd, Nat.reduceSub, Nat.reduceMul, Nat.reduceLeDiff, Nat.reduceEqDiff, Nat.reduceLT, Nat.reduceBEq, reduceIte, reduceCtorEq, Int.reduceToNat, Nat.reduceShiftRight, Nat.reduceAnd, Nat.reduceBneDiff, Nat.reduceBNe, rv10, e_api_Ref]
      · rw [ite_f h1] at h
        refine .skip ?_
        refine .eblk ?_
        refine .seq ?_
        refine Rw.walk ?_
        simp only [wz, wd, ws, Nat.reduceAdd, Nat.reduceSub, Nat.reduceMul, Nat.reduceLeDiff, Nat.reduceEqDiff, Nat.reduceLT, Nat.reduceBEq, reduceIte, reduceCtorEq, Int.reduceToNat, Nat.reduceShiftRight, Nat.reduceAnd, Nat.reduceBneDiff, Nat.reduceBNe, c10r7, semI.eq_10, semI.eq_11, semI.eq_3, semI.eq_5, semI.eq_7, e_api_Ref]
        obtain rfl := Option.some.inj h
        refine .ret ?_
        rw [← hR]
        simp only [wz, wd, ws, Nat.reduceAdd, Nat.reduceSub, Nat.reduceMul, Nat.reduceLeDiff, Nat.reduceEqDiff, Nat.reduceLT, Nat.reduceBEq, reduceIte, reduceCtorEq, Int.reduceToNat, Nat.reduceShiftRight, Nat.reduceAnd, Nat.reduceBneDiff, Nat.reduceBNe, rv10, e_api_Ref]
-- 37 internal/stringslite.Cut
def c37r0 : List Opn := [
  ⟨(some 4), none, .mv (.c (.s (.d (.str []))))⟩, 
  ⟨(some 5), none, .mv (.c (.s (.d (.str []))))⟩, 
  ⟨(some 6), none, .mv (.c (.s (.d (.bool false))))⟩]
def c37r1 : List Opn := [
  ⟨(some 8), none, .mv (.t 0)⟩, 
  ⟨(some 9), none, .mv (.t 1)⟩, 
  ⟨(some 10), none, .call (.fn 49) [(.t 8), (.t 9)]⟩, 
  ⟨(some 7), none, .mv (.t 10)⟩]
def c37r2 : List Opn := [
  ⟨(some 11), none, .mv (.t 7)⟩, 
  ⟨(some 12), none, .bin .geq (.t 11) (.c (.s (.d (.int .i64 0))))⟩]
def c37r3 : List Opn := [
  ⟨(some 13), none, .mv (.t 0)⟩, 
  ⟨(some 14), none, .mv (.t 7)⟩, 
  ⟨(some 15), none, .slc .str (.t 13) none (some (.t 14)) none⟩, 
  ⟨(some 16), none, .mv (.t 0)⟩, 
  ⟨(some 17), none, .mv (.t 7)⟩, 
  ⟨(some 18), none, .mv (.t 1)⟩, 
  ⟨(some 19), none, .len .str (.t 18)⟩, 
  ⟨(some 20), none, .bin .add (.t 17) (.t 19)⟩, 
  ⟨(some 21), none, .slc .str (.t 16) (some (.t 20)) none none⟩, 
  ⟨(some 4), none, .mv (.t 15)⟩, 
  ⟨(some 5), none, .mv (.t 21)⟩, 
  ⟨(some 6), none, .mv (.c (.s (.d (.bool true))))⟩]
def c37r4 : List Opn := [
  ⟨(some 22), none, .mv (.t 0)⟩, 
  ⟨(some 4), none, .mv (.t 22)⟩, 
  ⟨(some 5), none, .mv (.c (.s (.d (.str []))))⟩, 
  ⟨(some 6), none, .mv (.c (.s (.d (.bool false))))⟩]
def c37 : C := .seq (.reg c37r0 none [0, 1]) (.seq (.seq (.reg c37r1 none [0, 1, 7]) (.seq (.reg c37r2 none [0, 1, 7, 12]) (.cond (.t 12) (.seq (.reg c37r3 (some [0, 0, 3, 0, 0, 0, 32, 112, 248, 7, 1023, 2047]) [4, 5, 6]) (.ret)) (.skip)))) (.seq (.reg c37r4 none [4, 5, 6]) (.ret)))
def k37 : List (Nat × List Nat) := [(4, [4, 5, 6]), (3, [4, 5, 6]), (2, [0, 1, 7, 12]), (1, [0, 1, 7]), (0, [0, 1])]
theorem cc37 : (Tryd.f37.body).bind (cC Tryd.prog 23 k37) = some c37 := by kernel_rfl
def rv37 : List RV := [.t 4, .t 5, .t 6]
theorem cr37 : cRVs Tryd.prog Tryd.f37.results.toList = some rv37 := by kernel_rfl
theorem f_internal_stringslite_Cut_ok (s : Str) (sep : Str) (y_ : Str × Str × Bool) (h : f_internal_stringslite_Cut s sep = some y_) : Fun Tryd.prog glP 37 [.b (.s (.d (.str s))), .b (.s (.d (.str sep)))] (.tup [.s (.d (.str y_.1)), .s (.d (.str y_.2.1)), .s (.d (.bool y_.2.2))]) := by
  refine fun_walk [] Tryd.func37 Tryd.ntmps37 cc37 cr37 (by kernel_rfl) (by simp only [List.length_cons, List.length_nil]; decide) ?_
  generalize hR : Ret _ _ _ _ _ = R_
  simp only [wz, wd, ws, Nat.reduceAdd, Nat.reduceSub, Nat.reduceMul, Nat.reduceLeDiff, Nat.reduceEqDiff, Nat.reduceLT, Nat.reduceBEq, reduceIte, reduceCtorEq, Int.reduceToNat, Nat.reduceShiftRight, Nat.reduceAnd, Nat.reduceBneDiff, Nat.reduceBNe]
  unfold f_internal_stringslite_Cut at h; unfold c37
  refine .seq ?_
  refine Rw.walk ?_
  simp only [wz, wd, ws, Nat.reduceAdd, Nat.reduceSub, Nat.reduceMul, Nat.reduceLeDiff, Nat.reduceEqDiff, Nat.reduceLT, Nat.reduceBEq, reduceIte, reduceCtorEq, Int.reduceToNat, Nat.reduceShiftRight, Nat.reduceAnd, Nat.reduceBneDiff, Nat.reduceBNe, c37r0, semI.eq_10, semI.eq_11, semI.eq_3, semI.eq_5, semI.eq_7]
  refine .seq ?_
  refine .seq ?_
  refine Rw.walk ?_
  simp only [wz, wd, ws, Nat.reduceAdd, Nat.reduceSub, Nat.reduceMul, Nat.reduceLeDiff, Nat.reduceEqDiff, Nat.reduceLT, Nat.reduceBEq, reduceIte, reduceCtorEq, Int.reduceToNat, Nat.reduceShiftRight, Nat.reduceAnd, Nat.reduceBneDiff, Nat.reduceBNe, c37r1, semI.eq_10, semI.eq_11, semI.eq_3, semI.eq_5, semI.eq_7]
  obtain ⟨t, e1, h⟩ := Option.bind_eq_some_iff.1 h
  refine call_fun [] false ⟨trivial, trivial, trivial, trivial⟩ rfl ?_ (f_internal_stringslite_Index_ok _ _ _ e1) (fun _ => rfl) (fun i hi => by cases hi) ?_
  · simp only [wz, wd, ws, Nat.reduceAdd, Nat.reduceSub, Nat.reduceMul, Nat.reduceLeDiff, Nat.reduceEqDiff, Nat.reduceLT, Nat.reduceBEq, reduceIte, reduceCtorEq, Int.reduceToNat, Nat.reduceShiftRight, Nat.reduceAnd, Nat.reduceBneDiff, Nat.reduceBNe]
  simp only [wz, wd, ws, Nat.reduceAdd, Nat.reduceSub, Nat.reduceMul, Nat.reduceLeDiff, Nat.reduceEqDiff, Nat.reduceLT, Nat.reduceBEq, reduceIte, reduceCtorEq, Int.reduceToNat, Nat.reduceShiftRight, Nat.reduceAnd, Nat.reduceBneDiff, Nat.reduceBNe, c37r1, semI.eq_10, semI.eq_11, semI.eq_3, semI.eq_5, semI.eq_7]
  refine .seq ?_
  refine Rw.walk ?_
  simp only [wz, wd, ws, Nat.reduceAdd, Nat.reduceSub, Nat.reduceMul, Nat.reduceLeDiff, Nat.reduceEqDiff, Nat.reduceLT, Nat.reduceBEq, reduceIte, reduceCtorEq, Int.reduceToNat, Nat.reduceShiftRight, Nat.reduceAnd, Nat.reduceBneDiff, Nat.reduceBNe, c37r2, semI.eq_10, semI.eq_11, semI.eq_3, semI.eq_5, semI.eq_7]
  refine .cond (p := (decide (t ≥ 0))) (by first | rfl | simp only [wz, wd, ws, Nat.reduceAdd, Nat.reduceSub, Nat.reduceMul, Nat.reduceLeDiff, Nat.reduceEqDiff, Nat.reduceLT, Nat.reduceBEq, reduceIte, reduceCtorEq, Int.reduceToNat, Nat.reduceShiftRight, Nat.reduceAnd, Nat.reduceBneDiff, Nat.reduceBNe]) (fun h1 => ?_) (fun h1 => ?_)
  · rw [ite_t h1] at h
    refine .seq ?_
    refine RwD.walk ?_
    obtain ⟨g2, h⟩ := gd_iff.1 h
    obtain ⟨g3, h⟩ := gd_iff.1 h
    simp only [wz, wd, ws, Nat.reduceAdd, Nat.reduceSub, Nat.reduceMul, Nat.reduceLeDiff, Nat.reduceEqDiff, Nat.reduceLT, Nat.reduceBEq, reduceIte, reduceCtorEq, Int.reduceToNat, Nat.reduceShiftRight, Nat.reduceAnd, Nat.reduceBneDiff, Nat.reduceBNe, c37r3, semI.eq_10, semI.eq_11, semI.eq_3, semI.eq_5, semI.eq_7]
    repeat (refine And.intro ?_ ?_; · first | omega | (intro q; simp only [wz, wd, ws, Nat.reduceAdd, Nat.reduceSub, Nat.reduceMul, Nat.reduceLeDiff, Nat.reduceEqDiff, Nat.reduceLT, Nat.reduceBEq, reduceIte, reduceCtorEq, Int.reduceToNat, Nat.reduceShiftRight, Nat.reduceAnd, Nat.reduceBneDiff, Nat.reduceBNe, q]; done))
    obtain rfl := Option.some.inj h
    refine .ret ?_
    rw [← hR]
    simp only [wz, wd, ws, Nat.reduceAdd, Nat.reduceSub, Nat.reduceMul, Nat.reduceLeDiff, Nat.reduceEqDiff, Nat.reduceLT, Nat.reduceBEq, reduceIte, reduceCtorEq, Int.reduceToNat, Nat.reduceShiftRight, Nat.reduceAnd, Nat.reduceBneDiff, Nat.reduceBNe, rv37]
  · rw [ite_f h1] at h
    refine .skip ?_
    refine .seq ?_
    refine Rw.walk ?_
    simp only [wz, wd, ws, Nat.reduceAdd, Nat.reduceSub, Nat.reduceMul, Nat.reduceLeDiff, Nat.reduceEqDiff, Nat.reduceLT, Nat.reduceBEq, reduceIte, reduceCtorEq, Int.reduceToNat, Nat.reduceShiftRight, Nat.reduceAnd, Nat.reduceBneDiff, Nat.reduceBNe, c37r4, semI.eq_10, semI.eq_11, semI.eq_3, semI.eq_5, semI.eq_7]
    obtain rfl := Option.some.inj h
    refine .ret ?_
    rw [← hR]
    simp only [wz, wd, ws, Nat.reduceAdd, Nat.reduceSub, Nat.reduceMul, Nat.reduceLeDiff, Nat.reduceEqDiff, Nat.reduceLT, Nat.reduceBEq, reduceIte, reduceCtorEq, Int.reduceToNat, Nat.reduceShiftRight, Nat.reduceAnd, Nat.reduceBneDiff, Nat.reduceBNe, rv37]
-- 29 strings.Cut
def c29r0 : List Opn := [
  ⟨(some 4), none, .mv (.c (.s (.d (.str []))))⟩, 
  ⟨(some 5), none, .mv (.c (.s (.d (.str []))))⟩, 
  ⟨(some 6), none, .mv (.c (.s (.d (.bool false))))⟩]
def c29r1 : List Opn := [
  ⟨(some 7), none, .mv (.t 0)⟩, 
  ⟨(some 8), none, .mv (.t 1)⟩, 
  ⟨(some 9), none, .call (.fn 37) [(.t 7), (.t 8)]⟩, 
  ⟨(some 10), none, .ext (.t 9) 0⟩, 
  ⟨(some 11), none, .ext (.t 9) 1⟩, 
  ⟨(some 12), none, .ext (.t 9) 2⟩, 
  ⟨(some 4), none, .mv (.t 10)⟩, 
  ⟨(some 5), none, .mv (.t 11)⟩, 
  ⟨(some 6), none, .mv (.t 12)⟩]
def c29 : C := .seq (.reg c29r0 none [0, 1]) (.seq (.reg c29r1 none [4, 5, 6]) (.ret))
def k29 : List (Nat × List Nat) := [(1, [4, 5, 6]), (0, [0, 1])]
theorem cc29 : (Tryd.f29.body).bind (cC Tryd.prog 13 k29) = some c29 := by kernel_rfl
def rv29 : List RV := [.t 4, .t 5, .t 6]
theorem cr29 : cRVs Tryd.prog Tryd.f29.results.toList = some rv29 := by kernel_rfl
theorem f_strings_Cut_ok (s : Str) (sep : Str) (y_ : Str × Str × Bool) (h : f_strings_Cut s sep = some y_) : Fun Tryd.prog glP 29 [.b (.s (.d (.str s))), .b (.s (.d (.str sep)))] (.tup [.s (.d (.str y_.1)), .s (.d (.str y_.2.1)), .s (.d (.bool y_.2.2))]) := by
  refine fun_walk [] Tryd.func29 Tryd.ntmps29 cc29 cr29 (by kernel_rfl) (by simp only [List.length_cons, List.length_nil]; decide) ?_
  generalize hR : Ret _ _ _ _ _ = R_
  simp only [wz, wd, ws, Nat.reduceAdd, Nat.reduceSub, Nat.reduceMul, Nat.reduceLeDiff, Nat.reduceEqDiff, Nat.reduceLT, Nat.reduceBEq, reduceIte, reduceCtorEq, Int.reduceToNat, Nat.reduceShiftRight, Nat.reduceAnd, Nat.reduceBneDiff, Nat.reduceBNe]
  unfold f_strings_Cut at h; unfold c29
  refine .seq ?_
  refine Rw.walk ?_
  simp only [wz, wd, ws, Nat.reduceAdd, Nat.reduceSub, Nat.reduceMul, Nat.reduceLeDiff, Nat.reduceEqDiff, Nat.reduceLT, Nat.reduceBEq, reduceIte, reduceCtorEq, Int.reduceToNat, Nat.reduceShiftRight, Nat.reduceAnd, Nat.reduceBneDiff, Nat.reduceBNe, c29r0, semI.eq_10, semI.eq_11, semI.eq_3, semI.eq_5, semI.eq_7]
  refine .seq ?_
  refine Rw.walk ?_
  simp only [wz, wd, ws, Nat.reduceAdd, Nat.reduceSub, Nat.reduceMul, Nat.reduceLeDiff, Nat.reduceEqDiff, Nat.reduceLT, Nat.reduceBEq, reduceIte, reduceCtorEq, Int.reduceToNat, Nat.reduceShiftRight, Nat.reduceAnd, Nat.reduceBneDiff, Nat.reduceBNe, c29r1, semI.eq_10, semI.eq_11, semI.eq_3, semI.eq_5, semI.eq_7]
  obtain ⟨t, e1, h⟩ := Option.bind_eq_some_iff.1 h
  refine call_fun [] false ⟨trivial, trivial, trivial, trivial⟩ rfl ?_ (f_internal_stringslite_Cut_ok _ _ _ e1) (fun _ => rfl) (fun i hi => by cases hi) ?_
  · simp only [wz, wd, ws, Nat.reduceAdd, Nat.reduceSub, Nat.reduceMul, Nat.reduceLeDiff, Nat.reduceEqDiff, Nat.reduceLT, Nat.reduceBEq, reduceIte, reduceCtorEq, Int.reduceToNat, Nat.reduceShiftRight, Nat.reduceAnd, Nat.reduceBneDiff, Nat.reduceBNe]
  simp only [wz, wd, ws, Nat.reduceAdd, Nat.reduceSub, Nat.reduceMul, Nat.reduceLeDiff, Nat.reduceEqDiff, Nat.reduceLT, Nat.reduceBEq, reduceIte, reduceCtorEq, Int.reduceToNat, Nat.reduceShiftRight, Nat.reduceAnd, Nat.reduceBneDiff, Nat.reduceBNe, c29r1, semI.eq_10, semI.eq_11, semI.eq_3, semI.eq_5, semI.eq_7]
  obtain rfl := Option.some.inj h
  refine .ret ?_
  rw [← hR]
  simp only [wz, wd, ws, Nat.reduceAdd, Nat.reduceSub, Nat.reduceMul, Nat.reduceLeDiff, Nat.reduceEqDiff, Nat.reduceLT, Nat.reduceBEq, reduceIte, reduceCtorEq, Int.reduceToNat, Nat.reduceShiftRight, Nat.reduceAnd, Nat.reduceBneDiff, Nat.reduceBNe, rv29]
-- 18 consignor/name.Parse
def c18r0 : List Opn := [
  ⟨(some 2), none, .new [(.d (.str [])), (.d (.str [])), (.d (.str []))]⟩, 
  ⟨(some 3), none, .mv (.c (.s (.d (.int .i64 0))))⟩]
def c18r1 : List Opn := [
  ⟨(some 4), none, .new [(.d (.str [])), (.d (.str [])), (.d (.str []))]⟩]
def c18r2 : List Opn := [
  ⟨(some 14), none, .mv (.t 0)⟩, 
  ⟨(some 15), none, .call (.fn 29) [(.t 14), (.c (.s (.d (.str [64]))))]⟩, 
  ⟨(some 13), none, .mv (.t 15)⟩, 
  ⟨(some 16), none, .ext (.t 13) 0⟩, 
  ⟨(some 17), none, .ext (.t 13) 1⟩, 
  ⟨(some 18), none, .ext (.t 13) 2⟩, 
  ⟨(some 5), none, .mv (.t 16)⟩, 
  ⟨(some 6), none, .mv (.t 17)⟩, 
  ⟨(some 7), none, .mv (.t 18)⟩]
def c18r3 : List Opn := [
  ⟨(some 19), none, .mv (.t 7)⟩]
def c18r4 : List Opn := [
  ⟨(some 20), none, .mv (.t 5)⟩, 
  ⟨(some 21), none, .mv (.t 6)⟩, 
  ⟨(some 22), none, .build [(.d (.str [])), (.d (.str [])), (.d (.str []))] [(0, 1, (.t 20)), (2, 1, (.t 21))]⟩, 
  ⟨none, none, .store 3 (.t 4) (.t 22)⟩]
def c18r5 : List Opn := [
  ⟨(some 24), none, .mv (.t 0)⟩, 
  ⟨(some 25), none, .call (.fn 29) [(.t 24), (.c (.s (.d (.str [58]))))]⟩, 
  ⟨(some 23), none, .mv (.t 25)⟩, 
  ⟨(some 26), none, .ext (.t 23) 0⟩, 
  ⟨(some 27), none, .ext (.t 23) 1⟩, 
  ⟨(some 28), none, .ext (.t 23) 2⟩, 
  ⟨(some 8), none, .mv (.t 26)⟩, 
  ⟨(some 9), none, .mv (.t 27)⟩, 
  ⟨(some 10), none, .mv (.t 28)⟩]
def c18r6 : List Opn := [
  ⟨(some 29), none, .mv (.t 8)⟩, 
  ⟨(some 30), none, .mv (.t 9)⟩, 
  ⟨(some 31), none, .build [(.d (.str [])), (.d (.str [])), (.d (.str []))] [(0, 1, (.t 29)), (1, 1, (.t 30))]⟩, 
  ⟨none, none, .store 3 (.t 4) (.t 31)⟩]
def c18r7 : List Opn := [
  ⟨(some 33), none, .load true 3 (.t 4)⟩, 
  ⟨(some 34), none, .call (.fn 10) [(.t 33)]⟩, 
  ⟨(some 32), none, .mv (.t 34)⟩, 
  ⟨(some 35), none, .ext (.t 32) 0⟩, 
  ⟨(some 36), none, .ext (.t 32) 1⟩, 
  ⟨(some 11), none, .mv (.t 35)⟩, 
  ⟨(some 12), none, .mv (.t 36)⟩]
def c18r8 : List Opn := [
  ⟨(some 37), none, .mv (.t 12)⟩, 
  ⟨(some 38), none, .bin .neq (.t 37) (.c (.s (.d (.int .i64 0))))⟩, 
  ⟨(some 39), none, .mv (.t 38)⟩, 
  ⟨(some 40), some (39, false), .mv (.t 11)⟩, 
  ⟨(some 41), some (39, false), .mv (.t 0)⟩, 
  ⟨(some 42), some (39, false), .bin .neq (.t 40) (.t 41)⟩, 
  ⟨(some 43), none, .pick (.t 39) (.c (.s (.d (.bool true)))) (.t 42)⟩]
def c18r9 : List Opn := [
  ⟨(some 44), none, .build [(.d (.str [])), (.d (.str [])), (.d (.str []))] []⟩, 
  ⟨none, none, .store 3 (.t 2) (.t 44)⟩, 
  ⟨(some 3), none, .mv (.c (.s (.d (.int .i64 5))))⟩]
def c18r10 : List Opn := [
  ⟨(some 45), none, .load true 3 (.t 4)⟩, 
  ⟨none, none, .store 3 (.t 2) (.t 45)⟩, 
  ⟨(some 3), none, .mv (.c (.s (.d (.int .i64 0))))⟩]
def c18 : C := .seq (.reg c18r0 none [0, 2]) (.seq (.reg c18r1 none [0, 2, 4]) (.seq (.seq (.reg c18r2 none [0, 2, 4, 5, 6, 7]) (.seq (.reg c18r3 none [0, 2, 4, 5, 6, 19]) (.cond (.t 19) (.reg c18r4 none [0, 2, 4]) (.seq (.reg c18r5 none [0, 2, 4, 8, 9]) (.reg c18r6 none [0, 2, 4]))))) (.seq (.seq (.reg c18r7 none [0, 2, 4, 11, 12]) (.seq (.reg c18r8 none [2, 4, 43]) (.cond (.t 43) (.seq (.reg c18r9 none [2, 3]) (.ret)) (.skip)))) (.seq (.reg c18r10 none [2, 3]) (.ret)))))
def k18 : List (Nat × List Nat) := [(10, [2, 3]), (9, [2, 3]), (8, [2, 4, 43]), (7, [0, 2, 4, 11, 12]), (4, [0, 2, 4]), (6, [0, 2, 4]), (5, [0, 2, 4, 8, 9]), (3, [0, 2, 4, 5, 6, 19]), (2, [0, 2, 4, 5, 6, 7]), (1, [0, 2, 4]), (0, [0, 2])]
theorem cc18 : (Tryd.f18.body).bind (cC Tryd.prog 46 k18) = some c18 := by kernel_rfl
def rv18 : List RV := [.c 2 true 3, .t 3]
theorem cr18 : cRVs Tryd.prog Tryd.f18.results.toList = some rv18 := by kernel_rfl
theorem f_name_Parse_ok (s : Str) (y_ : api_Ref × Int) (h : f_name_Parse s = some y_) : Fun Tryd.prog glP 18 [.b (.s (.d (.str s)))] (.tup [.agg ((e_api_Ref y_.1).map Lc.d), .s (.d (.int .i64 y_.2))]) := by
  refine fun_walk [] Tryd.func18 Tryd.ntmps18 cc18 cr18 (by kernel_rfl) (by simp only [List.length_cons, List.length_nil]; decide) ?_
  generalize hR : Ret _ _ _ _ _ = R_
  simp only [wz, wd, ws, Nat.reduceAdd, Nat.reduceSub, Nat.reduceMul, Nat.reduceLeDiff, Nat.reduceEqDiff, Nat.reduceLT, Nat.reduceBEq, reduceIte, reduceCtorEq, Int.reduceToNat, Nat.reduceShiftRight, Nat.reduceAnd, Nat.reduceBneDiff, Nat.reduceBNe, e_api_Ref]
  unfold f_name_Parse at h; unfold c18
  refine .seq ?_
  refine Rw.walk ?_
  simp only [wz, wd, ws, Nat.reduceAdd, Nat.reduceSub, Nat.reduceMul, Nat.reduceLeDiff, Nat.reduceEqDiff, Nat.reduceLT, Nat.reduceBEq, reduceIte, reduceCtorEq, Int.reduceToNat, Nat.reduceShiftRight, Nat.reduceAnd, Nat.reduceBneDiff, Nat.reduceBNe, c18r0, semI.eq_10, semI.eq_11, semI.eq_3, semI.eq_5, semI.eq_7, e_api_Ref]
  refine .seq ?_
  refine Rw.walk ?_
  simp only [wz, wd, ws, Nat.reduceAdd, Nat.reduceSub, Nat.reduceMul, Nat.reduceLeDiff, Nat.reduceEqDiff, Nat.reduceLT, Nat.reduceBEq, reduceIte, reduceCtorEq, Int.reduceToNat, Nat.reduceShiftRight, Nat.reduceAnd, Nat.reduceBneDiff, Nat.reduceBNe, c18r1, semI.eq_10, semI.eq_11, semI.eq_3, semI.eq_5, semI.eq_7, e_api_Ref]
  refine .seq ?_
  obtain ⟨s2, hf, h⟩ := Option.bind_eq_some_iff.1 h
  refine W.cut1 ⟨lkT [(0, .b (.s (.d (.str s)))), (2, .b (.s (.ptr 2 1 0 0))), (4, .b (.s (.ptr 4 1 0 0)))], lkG [(2, ⟨3, [[(.d (.str ([] : Str))), (.d (.str ([] : Str))), (.d (.str ([] : Str)))]], false⟩), (4, ⟨3, [[(.d (.str s2.1)), (.d (.str s2.2.1)), (.d (.str s2.2.2))]], false⟩)]⟩ ?_ (fun tail => ?_)
  · skip
    refine .seq ?_
    refine .seq ?_
    refine Rw.walk ?_
    simp only [wz, wd, ws, Nat.reduceAdd, Nat.reduceSub, Nat.reduceMul, Nat.reduceLeDiff, Nat.reduceEqDiff, Nat.reduceLT, Nat.reduceBEq, reduceIte, reduceCtorEq, Int.reduceToNat, Nat.reduceShiftRight, Nat.reduceAnd, Nat.reduceBneDiff, Nat.reduceBNe, c18r7, semI.eq_10, semI.eq_11, semI.eq_3, semI.eq_5, semI.eq_7, e_api_Ref]
    obtain ⟨t, e1, h⟩ := Option.bind_eq_some_iff.1 h
    refine call_fun [] false ⟨trivial, trivial, trivial⟩ rfl ?_ (f_name_Print_ok _ _ e1) (fun _ => rfl) (fun i hi => by cases hi) ?_
    · simp only [wz, wd, ws, Nat.reduceAdd, Nat.reduceSub, Nat.reduceMul, Nat.reduceLeDiff, Nat.reduceEqDiff, Nat.reduceLT, Nat.reduceBEq, reduceIte, reduceCtorEq, Int.reduceToNat, Nat.reduceShiftRight, Nat.reduceAnd, Nat.reduceBneDiff, Nat.reduceBNe, e_api_Ref]
    simp only [wz, wd, ws, Nat.reduceAdd, Nat.reduceSub, Nat.reduceMul, Nat.reduceLeDiff, Nat.reduceEqDiff, Nat.reduceLT, Nat.reduceBEq, reduceIte, reduceCtorEq, Int.reduceToNat, Nat.reduceShiftRight, Nat.reduceAnd, Nat.reduceBneDiff, Nat.reduceBNe, c18r7, semI.eq_10, semI.eq_11, semI.eq_3, semI.eq_5, semI.eq_7, e_api_Ref]
    refine .seq ?_
    refine Rw.walk ?_
    simp only [wz, wd, ws, Nat.reduceAdd, Nat.reduceSub, Nat.reduceMul, Nat.reduceLeDiff, Nat.reduceEqDiff, Nat.reduceLT, Nat.reduceBEq, reduceIte, reduceCtorEq, Int.reduceToNat, Nat.reduceShiftRight, Nat.reduceAnd, Nat.reduceBneDiff, Nat.reduceBNe, c18r8, semI.eq_10, semI.eq_11, semI.eq_3, semI.eq_5, semI.eq_7, e_api_Ref]
    repeat (refine And.intro ?_ ?_; · first | omega | (intro q; simp only [wz, wd, ws, Nat.reduceAdd, Nat.reduceSub, Nat.reduceMul, Nat.reduceLeDiff, Nat.reduceEqDiff, Nat.reduceLT, Nat.reduceBEq, reduceIte, reduceCtorEq, Int.reduceToNat, Nat.reduceShiftRight, Nat.reduceAnd, Nat.reduceBneDiff, Nat.reduceBNe, q]; done))
    refine .cond (p := ((t.2 != 0) || (!(t.1 == s)))) (by first | rfl | simp only [wz, wd, ws, Nat.reduceAdd, Nat.reduceSub, Nat.reduceMul, Nat.reduceLeDiff, Nat.reduceEqDiff, Nat.reduceLT, Nat.reduceBEq, reduceIte, reduceCtorEq, Int.reduceToNat, Nat.reduceShiftRight, Nat.reduceAnd, Nat.reduceBneDiff, Nat.reduceBNe]) (fun h1 => ?_) (fun h1 => ?_)
    · rw [ite_t h1] at h
      refine .seq ?_
      refine Rw.walk ?_
      simp only [wz, wd, ws, Nat.reduceAdd, Nat.reduceSub, Nat.reduceMul, Nat.reduceLeDiff, Nat.reduceEqDiff, Nat.reduceLT, Nat.reduceBEq, reduceIte, reduceCtorEq, Int.reduceToNat, Nat.reduceShiftRight, Nat.reduceAnd, Nat.reduceBneDiff, Nat.reduceBNe, c18r9, semI.eq_10, semI.eq_11, semI.eq_3, semI.eq_5, semI.eq_7, e_api_Ref]
      obtain rfl := Option.some.inj h
      refine .ret ?_
      rw [← hR]
      simp only [wz, wd, ws, Nat.reduceAdd, Nat.reduceSub, Nat.reduceMul, Nat.reduceLeDiff, Nat.reduceEqDiff, Nat.reduceLT, Nat.reduceBEq, reduceIte, reduceCtorEq, Int.reduceToNat, Nat.reduceShiftRight, Nat.reduceAnd, Nat.reduceBneDiff, Nat.reduceBNe, rv18, semI.eq_10, e_api_Ref]
    · rw [ite_f h1] at h
      refine .skip ?_
      refine .seq ?_
      refine Rw.walk ?_
      simp only [wz, wd, ws, Nat.reduceAdd, Nat.reduceSub, Nat.reduceMul, Nat.reduceLeDiff, Nat.reduceEqDiff, Nat.reduceLT, Nat.reduceBEq, reduceIte, reduceCtorEq, Int.reduceToNat, Nat.reduceShiftRight, Nat.reduceAnd, Nat.reduceBneDiff, Nat.reduceBNe, c18r10, semI.eq_10, semI.eq_11, semI.eq_3, semI.eq_5, semI.eq_7, e_api_Ref]
      obtain rfl := Option.some.inj h
      refine .ret ?_
      rw [← hR]
      simp only [wz, wd, ws, Nat.reduceAdd, Nat.reduceSub, Nat.reduceMul, Nat.reduceLeDiff, Nat.reduceEqDiff, Nat.reduceLT, Nat.reduceBEq, reduceIte, reduceCtorEq, Int.reduceToNat, Nat.reduceShiftRight, Nat.reduceAnd, Nat.reduceBneDiff, Nat.reduceBNe, rv18, semI.eq_10, e_api_Ref]
  replace h := hf
  refine .seq ?_
  refine Rw.walk ?_
  simp only [wz, wd, ws, Nat.reduceAdd, Nat.reduceSub, Nat.reduceMul, Nat.reduceLeDiff, Nat.reduceEqDiff, Nat.reduceLT, Nat.reduceBEq, reduceIte, reduceCtorEq, Int.reduceToNat, Nat.reduceShiftRight, Nat.reduceAnd, Nat.reduceBneDiff, Nat.reduceBNe, c18r2, semI.eq_10, semI.eq_11, semI.eq_3, semI.eq_5, semI.eq_7, e_api_Ref]
  obtain ⟨t, e2, h⟩ := Option.bind_eq_some_iff.1 h
  refine call_fun [] false ⟨trivial, trivial, trivial, trivial⟩ rfl ?_ (f_strings_Cut_ok _ _ _ e2) (fun _ => rfl) (fun i hi => by cases hi) ?_
  · simp only [wz, wd, ws, Nat.reduceAdd, Nat.reduceSub, Nat.reduceMul, Nat.reduceLeDiff, Nat.reduceEqDiff, Nat.reduceLT, Nat.reduceBEq, reduceIte, reduceCtorEq, Int.reduceToNat, Nat.reduceShiftRight, Nat.reduceAnd, Nat.reduceBneDiff, Nat.reduceBNe, e_api_Ref]
  simp only [wz, wd, ws, Nat.reduceAdd, Nat.reduceSub, Nat.reduceMul, Nat.reduceLeDiff, Nat.reduceEqDiff, Nat.reduceLT, Nat.reduceBEq, reduceIte, reduceCtorEq, Int.reduceToNat, Nat.reduceShiftRight, Nat.reduceAnd, Nat.reduceBneDiff, Nat.reduceBNe, c18r2, semI.eq_10, semI.eq_11, semI.eq_3, semI.eq_5, semI.eq_7, e_api_Ref]
  refine .seq ?_
  refine Rw.walk ?_
  simp only [wz, wd, ws, Nat.reduceAdd, Nat.reduceSub, Nat.reduceMul, Nat.reduceLeDiff, Nat.reduceEqDiff, Nat.reduceLT, Nat.reduceBEq, reduceIte, reduceCtorEq, Int.reduceToNat, Nat.reduceShiftRight, Nat.reduceAnd, Nat.reduceBneDiff, Nat.reduceBNe, c18r3, semI.eq_10, semI.eq_11, semI.eq_3, semI.eq_5, semI.eq_7, e_api_Ref]
  refine .cond (p := t.2.2) (by first | rfl | simp only [wz, wd, ws, Nat.reduceAdd, Nat.reduceSub, Nat.reduceMul, Nat.reduceLeDiff, Nat.reduceEqDiff, Nat.reduceLT, Nat.reduceBEq, reduceIte, reduceCtorEq, Int.reduceToNat, Nat.reduceShiftRight, Nat.reduceAnd, Nat.reduceBneDiff, Nat.reduceBNe]) (fun h1 => ?_) (fun h1 => ?_)
  · rw [ite_t h1] at h
    refine Rw.walk ?_
    simp only [wz, wd, ws, Nat.reduceAdd, Nat.reduceSub, Nat.reduceMul, Nat.reduceLeDiff, Nat.reduceEqDiff, Nat.reduceLT, Nat.reduceBEq, reduceIte, reduceCtorEq, Int.reduceToNat, Nat.reduceShiftRight, Nat.reduceAnd, Nat.reduceBneDiff, Nat.reduceBNe, c18r4, semI.eq_10, semI.eq_11, semI.eq_3, semI.eq_5, semI.eq_7, e_api_Ref]
    obtain rfl := Option.some.inj h
    refine .weak (Imp.co [] _ _ ?_ ?_ ?_ ?_ ?_) (tail) <;> simp only [wz, wd, ws, Nat.reduceAdd, Nat.reduceSub, Nat.reduceMul, Nat.reduceLeDiff, Nat.reduceEqDiff, Nat.reduceLT, Nat.reduceBEq, reduceIte, reduceCtorEq, Int.reduceToNat, Nat.reduceShiftRight, Nat.reduceAnd, Nat.reduceBneDiff, Nat.reduceBNe, wi, er_nil, e_api_Ref]
  · rw [ite_f h1] at h
    refine .seq ?_
    refine Rw.walk ?_
    simp only [wz, wd, ws, Nat.reduceAdd, Nat.reduceSub, Nat.reduceMul, Nat.reduceLeDiff, Nat.reduceEqDiff, Nat.reduceLT, Nat.reduceBEq, reduceIte, reduceCtorEq, Int.reduceToNat, Nat.reduceShiftRight, Nat.reduceAnd, Nat.reduceBneDiff, Nat.reduceBNe, c18r5, semI.eq_10, semI.eq_11, semI.eq_3, semI.eq_5, semI.eq_7, e_api_Ref]
    obtain ⟨t2, e3, h⟩ := Option.bind_eq_some_iff.1 h
    refine call_fun [] false ⟨trivial, trivial, trivial, trivial⟩ rfl ?_ (f_strings_Cut_ok _ _ _ e3) (fun _ => rfl) (fun i hi => by cases hi) ?_
    · simp only [wz, wd, ws, Nat.reduceAdd, Nat.reduceSub, Nat.reduceMul, Nat.reduceLeDiff, Nat.reduceEqDiff, Nat.reduceLT, Nat.reduceBEq, reduceIte, reduceCtorEq, Int.reduceToNat, Nat.reduceShiftRight, Nat.reduceAnd, Nat.reduceBneDiff, Nat.reduceBNe, e_api_Ref]
    simp only [wz, wd, ws, Nat.reduceAdd, Nat.reduceSub, Nat.reduceMul, Nat.reduceLeDiff, Nat.reduceEqDiff, Nat.reduceLT, Nat.reduceBEq, reduceIte, reduceCtorEq, Int.reduceToNat, Nat.reduceShiftRight, Nat.reduceAnd, Nat.reduceBneDiff, Nat.reduceBNe, c18r5, semI.eq_10, semI.eq_11, semI.eq_3, semI.eq_5, semI.eq_7, e_api_Ref]
    refine Rw.walk ?_
    simp only [wz, wd, ws, Nat.reduceAdd, Nat.reduceSub, Nat.reduceMul, Nat.reduceLeDiff, Nat.reduceEqDiff, Nat.reduceLT, Nat.reduceBEq, reduceIte, reduceCtorEq, Int.reduceToNat, Nat.reduceShiftRight, Nat.reduceAnd, Nat.reduceBneDiff, Nat.reduceBNe, c18r6, semI.eq_10, semI.eq_11, semI.eq_3, semI.eq_5, semI.eq_7, e_api_Ref]
    obtain rfl := Option.some.inj h
    refine .weak (Imp.co [] _ _ ?_ ?_ ?_ ?_ ?_) (tail) <;> simp only [wz, wd, ws, Nat.reduceAdd, Nat.reduceSub, Nat.reduceMul, Nat.reduceLeDiff, Nat.reduceEqDiff, Nat.reduceLT, Nat.reduceBEq, reduceIte, reduceCtorEq, Int.reduceToNat, Nat.reduceShiftRight, Nat.reduceAnd, Nat.reduceBneDiff, Nat.reduceBNe, wi, er_nil, e_api_Ref]
-- 15 consignor/consignorlaw03.alive
def c15r0 : List Opn := [
  ⟨(some 0), none, .mv (.c (.s (.d (.bool false))))⟩]
def c15r1 : List Opn := [
  ⟨(some 4), none, .call (.fn 18) [(.c (.s (.d (.str [108, 105, 98, 47, 103, 111, 95, 95, 120, 58, 49, 46, 48]))))]⟩, 
  ⟨(some 3), none, .mv (.t 4)⟩, 
  ⟨(some 5), none, .ext (.t 3) 0⟩, 
  ⟨(some 6), none, .ext (.t 3) 1⟩, 
  ⟨(some 1), none, .new [(.d (.str [])), (.d (.str [])), (.d (.str []))]⟩, 
  ⟨none, none, .store 3 (.t 1) (.t 5)⟩, 
  ⟨(some 2), none, .mv (.t 6)⟩]
def c15r2 : List Opn := [
  ⟨(some 7), none, .mv (.t 2)⟩, 
  ⟨(some 8), none, .bin .eql (.t 7) (.c (.s (.d (.int .i64 0))))⟩, 
  ⟨(some 9), none, .mv (.t 8)⟩, 
  ⟨(some 10), some (9, true), .load true 3 (.t 1)⟩, 
  ⟨(some 11), some (9, true), .build [(.d (.str [])), (.d (.str [])), (.d (.str []))] [(0, 1, (.c (.s (.d (.str [108, 105, 98, 47, 103, 111, 95, 95, 120]))))), (1, 1, (.c (.s (.d (.str [49, 46, 48])))))]⟩, 
  ⟨(some 12), some (9, true), .bagg .eql [.str, .str, .str] (.t 10) (.t 11)⟩, 
  ⟨(some 13), none, .pick (.t 9) (.t 12) (.c (.s (.d (.bool false))))⟩, 
  ⟨(some 14), none, .mv (.t 13)⟩, 
  ⟨(some 15), some (14, true), .call (.fn 11) [(.c (.s (.d (.str [97]))))]⟩, 
  ⟨(some 16), none, .pick (.t 14) (.t 15) (.c (.s (.d (.bool false))))⟩, 
  ⟨(some 0), none, .mv (.t 16)⟩]
def c15 : C := .seq (.reg c15r0 none []) (.seq (.reg c15r1 none [1, 2]) (.seq (.reg c15r2 none [0]) (.ret)))
def k15 : List (Nat × List Nat) := [(2, [0]), (1, [1, 2]), (0, [])]
theorem cc15 : (Tryd.f15.body).bind (cC Tryd.prog 17 k15) = some c15 := by kernel_rfl
def rv15 : List RV := [.t 0]
theorem cr15 : cRVs Tryd.prog Tryd.f15.results.toList = some rv15 := by kernel_rfl
theorem f_law03_alive_ok (y_ : Bool) (h : f_law03_alive = some y_) : Fun Tryd.prog glP 15 [] (.b (.s (.d (.bool y_)))) := by
  refine fun_walk [] Tryd.func15 Tryd.ntmps15 cc15 cr15 (by kernel_rfl) (by simp only [List.length_cons, List.length_nil]; decide) ?_
  generalize hR : Ret _ _ _ _ _ = R_
  simp only [wz, wd, ws, Nat.reduceAdd, Nat.reduceSub, Nat.reduceMul, Nat.reduceLeDiff, Nat.reduceEqDiff, Nat.reduceLT, Nat.reduceBEq, reduceIte, reduceCtorEq, Int.reduceToNat, Nat.reduceShiftRight, Nat.reduceAnd, Nat.reduceBneDiff, Nat.reduceBNe, e_api_Ref]
  unfold f_law03_alive at h; unfold c15
  refine .seq ?_
  refine Rw.walk ?_
  simp only [wz, wd, ws, Nat.reduceAdd, Nat.reduceSub, Nat.reduceMul, Nat.reduceLeDiff, Nat.reduceEqDiff, Nat.reduceLT, Nat.reduceBEq, reduceIte, reduceCtorEq, Int.reduceToNat, Nat.reduceShiftRight, Nat.reduceAnd, Nat.reduceBneDiff, Nat.reduceBNe, c15r0, semI.eq_10, semI.eq_11, semI.eq_3, semI.eq_5, semI.eq_7, e_api_Ref]
  refine .seq ?_
  refine Rw.walk ?_
  simp only [wz, wd, ws, Nat.reduceAdd, Nat.reduceSub, Nat.reduceMul, Nat.reduceLeDiff, Nat.reduceEqDiff, Nat.reduceLT, Nat.reduceBEq, reduceIte, reduceCtorEq, Int.reduceToNat, Nat.reduceShiftRight, Nat.reduceAnd, Nat.reduceBneDiff, Nat.reduceBNe, c15r1, semI.eq_10, semI.eq_11, semI.eq_3, semI.eq_5, semI.eq_7, e_api_Ref]
  obtain ⟨t, e1, h⟩ := Option.bind_eq_some_iff.1 h
  refine call_fun [] false ⟨trivial, trivial, trivial⟩ rfl ?_ (f_name_Parse_ok _ _ e1) (fun _ => rfl) (fun i hi => by cases hi) ?_
  · simp only [wz, wd, ws, Nat.reduceAdd, Nat.reduceSub, Nat.reduceMul, Nat.reduceLeDiff, Nat.reduceEqDiff, Nat.reduceLT, Nat.reduceBEq, reduceIte, reduceCtorEq, Int.reduceToNat, Nat.reduceShiftRight, Nat.reduceAnd, Nat.reduceBneDiff, Nat.reduceBNe, e_api_Ref]
  simp only [wz, wd, ws, Nat.reduceAdd, Nat.reduceSub, Nat.reduceMul, Nat.reduceLeDiff, Nat.reduceEqDiff, Nat.reduceLT, Nat.reduceBEq, reduceIte, reduceCtorEq, Int.reduceToNat, Nat.reduceShiftRight, Nat.reduceAnd, Nat.reduceBneDiff, Nat.reduceBNe, c15r1, semI.eq_10, semI.eq_11, semI.eq_3, semI.eq_5, semI.eq_7, e_api_Ref]
  refine .seq ?_
  refine Rw.walk ?_
  simp only [wz, wd, ws, Nat.reduceAdd, Nat.reduceSub, Nat.reduceMul, Nat.reduceLeDiff, Nat.reduceEqDiff, Nat.reduceLT, Nat.reduceBEq, reduceIte, reduceCtorEq, Int.reduceToNat, Nat.reduceShiftRight, Nat.reduceAnd, Nat.reduceBneDiff, Nat.reduceBNe, c15r2, semI.eq_10, semI.eq_11, semI.eq_3, semI.eq_5, semI.eq_7, e_api_Ref]
  refine call_alt (v := .b (.agg [(.d (.str t.1.Repo)), (.d (.str t.1.Tag)), (.d (.str t.1.Digest))])) rfl rfl (by simp only [wz, wd, ws, Nat.reduceAdd, Nat.reduceSub, Nat.reduceMul, Nat.reduceLeDiff, Nat.reduceEqDiff, Nat.reduceLT, Nat.reduceBEq, reduceIte, reduceCtorEq, Int.reduceToNat, Nat.reduceShiftRight, Nat.reduceAnd, Nat.reduceBneDiff, Nat.reduceBNe]) (fun q => ⟨_, by simp only [wz, wd, ws, Nat.reduceAdd, Nat.reduceSub, Nat.reduceMul, Nat.reduceLeDiff, Nat.reduceEqDiff, Nat.reduceLT, Nat.reduceBEq, reduceIte, reduceCtorEq, Int.reduceToNat, Nat.reduceShiftRight, Nat.reduceAnd, Nat.reduceBneDiff, Nat.reduceBNe, semI.eq_10, e_api_Ref], trivial⟩) ?_
  simp only [wz, wd, ws, Nat.reduceAdd, Nat.reduceSub, Nat.reduceMul, Nat.reduceLeDiff, Nat.reduceEqDiff, Nat.reduceLT, Nat.reduceBEq, reduceIte, reduceCtorEq, Int.reduceToNat, Nat.reduceShiftRight, Nat.reduceAnd, Nat.reduceBneDiff, Nat.reduceBNe, c15r2, semI.eq_10, semI.eq_11, semI.eq_3, semI.eq_5, semI.eq_7, e_api_Ref]
  repeat (refine And.intro ?_ ?_; · first | omega | (intro q; simp only [wz, wd, ws, Nat.reduceAdd, Nat.reduceSub, Nat.reduceMul, Nat.reduceLeDiff, Nat.reduceEqDiff, Nat.reduceLT, Nat.reduceBEq, reduceIte, reduceCtorEq, Int.reduceToNat, Nat.reduceShiftRight, Nat.reduceAnd, Nat.reduceBneDiff, Nat.reduceBNe, q]; done))
  obtain ⟨t2, e2, h⟩ := Option.bind_eq_some_iff.1 h
  refine call_funG [] rfl (by simp only [wz, wd, ws, Nat.reduceAdd, Nat.reduceSub, Nat.reduceMul, Nat.reduceLeDiff, Nat.reduceEqDiff, Nat.reduceLT, Nat.reduceBEq, reduceIte, reduceCtorEq, Int.reduceToNat, Nat.reduceShiftRight, Nat.reduceAnd, Nat.reduceBneDiff, Nat.reduceBNe]) rfl ?_ (fun q => (f_name_Repo_ok _ _ (gx_iff e2 (by simpa using q)))) rfl (fun i hi => by cases hi) ?_
  · simp only [wz, wd, ws, Nat.reduceAdd, Nat.reduceSub, Nat.reduceMul, Nat.reduceLeDiff, Nat.reduceEqDiff, Nat.reduceLT, Nat.reduceBEq, reduceIte, reduceCtorEq, Int.reduceToNat, Nat.reduceShiftRight, Nat.reduceAnd, Nat.reduceBneDiff, Nat.reduceBNe, e_api_Ref]
  simp only [wz, wd, ws, Nat.reduceAdd, Nat.reduceSub, Nat.reduceMul, Nat.reduceLeDiff, Nat.reduceEqDiff, Nat.reduceLT, Nat.reduceBEq, reduceIte, reduceCtorEq, Int.reduceToNat, Nat.reduceShiftRight, Nat.reduceAnd, Nat.reduceBneDiff, Nat.reduceBNe, c15r2, semI.eq_10, semI.eq_11, semI.eq_3, semI.eq_5, semI.eq_7, e_api_Ref]
  repeat (refine And.intro ?_ ?_; · first | omega | (intro q; simp only [wz, wd, ws, Nat.reduceAdd, Nat.reduceSub, Nat.reduceMul, Nat.reduceLeDiff, Nat.reduceEqDiff, Nat.reduceLT, Nat.reduceBEq, reduceIte, reduceCtorEq, Int.reduceToNat, Nat.reduceShiftRight, Nat.reduceAnd, Nat.reduceBneDiff, Nat.reduceBNe, q]; done))
  obtain rfl := Option.some.inj h
  refine .ret ?_
  rw [← hR]
  simp only [wz, wd, ws, Nat.reduceAdd, Nat.reduceSub, Nat.reduceMul, Nat.reduceLeDiff, Nat.reduceEqDiff, Nat.reduceLT, Nat.reduceBEq, reduceIte, reduceCtorEq, Int.reduceToNat, Nat.reduceShiftRight, Nat.reduceAnd, Nat.reduceBneDiff, Nat.reduceBNe, rv15, e_api_Ref]
end Go.Proofs.YtdcokepmblcdmaaDoor.V
end

section
/- Go functions compute what Lean functions do. -/
namespace Go.Proofs.YtdcokepmblcdmaaDoor.V
open Go Go.RowKit
set_option linter.unusedVariables false
set_option linter.unusedSimpArgs false
set_option maxHeartbeats 1000000
-- 8 consignor/consignorlaw03.NameRefs
def c8r0 : List Opn := [
  ⟨(some 6), none, .mv (.c (.s (.d (.bool false))))⟩]
def c8r1 : List Opn := [
  ⟨(some 18), none, .mv (.t 0)⟩, 
  ⟨(some 19), none, .call (.fn 9) [(.t 18)]⟩, 
  ⟨(some 20), none, .mv (.t 1)⟩, 
  ⟨(some 21), none, .call (.fn 9) [(.t 20)]⟩, 
  ⟨(some 22), none, .mv (.t 2)⟩, 
  ⟨(some 23), none, .call (.fn 9) [(.t 22)]⟩, 
  ⟨(some 0), none, .mv (.t 19)⟩, 
  ⟨(some 1), none, .mv (.t 21)⟩, 
  ⟨(some 2), none, .mv (.t 23)⟩]
def c8r2 : List Opn := [
  ⟨(some 24), none, .mv (.t 2)⟩, 
  ⟨(some 25), none, .call (.fn 20) [(.t 24)]⟩, 
  ⟨(some 7), none, .mv (.t 25)⟩]
def c8r3 : List Opn := [
  ⟨(some 27), none, .mv (.t 0)⟩, 
  ⟨(some 28), none, .mv (.t 1)⟩, 
  ⟨(some 29), none, .build [(.d (.str [])), (.d (.str [])), (.d (.str []))] [(0, 1, (.t 27)), (1, 1, (.t 28))]⟩, 
  ⟨(some 30), none, .call (.fn 10) [(.t 29)]⟩, 
  ⟨(some 26), none, .mv (.t 30)⟩, 
  ⟨(some 31), none, .ext (.t 26) 0⟩, 
  ⟨(some 32), none, .ext (.t 26) 1⟩, 
  ⟨(some 8), none, .mv (.t 31)⟩, 
  ⟨(some 9), none, .mv (.t 32)⟩]
def c8r4 : List Opn := [
  ⟨(some 34), none, .mv (.t 0)⟩, 
  ⟨(some 35), none, .mv (.t 7)⟩, 
  ⟨(some 36), none, .build [(.d (.str [])), (.d (.str [])), (.d (.str []))] [(0, 1, (.t 34)), (2, 1, (.t 35))]⟩, 
  ⟨(some 37), none, .call (.fn 10) [(.t 36)]⟩, 
  ⟨(some 33), none, .mv (.t 37)⟩, 
  ⟨(some 38), none, .ext (.t 33) 0⟩, 
  ⟨(some 39), none, .ext (.t 33) 1⟩, 
  ⟨(some 10), none, .mv (.t 38)⟩, 
  ⟨(some 11), none, .mv (.t 39)⟩]
def c8r5 : List Opn := [
  ⟨(some 41), none, .mv (.t 0)⟩, 
  ⟨(some 42), none, .mv (.t 1)⟩, 
  ⟨(some 43), none, .mv (.t 7)⟩, 
  ⟨(some 44), none, .build [(.d (.str [])), (.d (.str [])), (.d (.str []))] [(0, 1, (.t 41)), (1, 1, (.t 42)), (2, 1, (.t 43))]⟩, 
  ⟨(some 45), none, .call (.fn 10) [(.t 44)]⟩, 
  ⟨(some 40), none, .mv (.t 45)⟩, 
  ⟨(some 46), none, .ext (.t 40) 0⟩, 
  ⟨(some 47), none, .ext (.t 40) 1⟩, 
  ⟨(some 12), none, .mv (.t 46)⟩, 
  ⟨(some 13), none, .mv (.t 47)⟩]
def c8r6 : List Opn := [
  ⟨(some 49), none, .mv (.t 0)⟩, 
  ⟨(some 50), none, .build [(.d (.str [])), (.d (.str [])), (.d (.str []))] [(0, 1, (.t 49))]⟩, 
  ⟨(some 51), none, .call (.fn 10) [(.t 50)]⟩, 
  ⟨(some 48), none, .mv (.t 51)⟩, 
  ⟨(some 52), none, .ext (.t 48) 0⟩, 
  ⟨(some 53), none, .ext (.t 48) 1⟩, 
  ⟨(some 14), none, .mv (.t 52)⟩, 
  ⟨(some 15), none, .mv (.t 53)⟩]
def c8r7 : List Opn := [
  ⟨(some 54), none, .mv (.t 9)⟩, 
  ⟨(some 55), none, .bin .eql (.t 54) (.c (.s (.d (.int .i64 0))))⟩, 
  ⟨(some 56), none, .mv (.t 0)⟩, 
  ⟨(some 57), none, .call (.fn 11) [(.t 56)]⟩, 
  ⟨(some 58), none, .mv (.t 57)⟩, 
  ⟨(some 59), some (58, true), .mv (.t 1)⟩, 
  ⟨(some 60), some (58, true), .call (.fn 13) [(.t 59)]⟩, 
  ⟨(some 61), none, .pick (.t 58) (.t 60) (.c (.s (.d (.bool false))))⟩, 
  ⟨(some 62), none, .bbo .neq (.t 55) (.t 61)⟩, 
  ⟨(some 63), none, .mv (.t 62)⟩, 
  ⟨(some 64), some (63, false), .mv (.t 11)⟩, 
  ⟨(some 65), some (63, false), .bin .eql (.t 64) (.c (.s (.d (.int .i64 0))))⟩, 
  ⟨(some 66), some (63, false), .mv (.t 0)⟩, 
  ⟨(some 67), some (63, false), .call (.fn 11) [(.t 66)]⟩, 
  ⟨(some 68), some (63, false), .bbo .neq (.t 65) (.t 67)⟩, 
  ⟨(some 69), none, .pick (.t 63) (.c (.s (.d (.bool true)))) (.t 68)⟩, 
  ⟨(some 70), none, .mv (.t 69)⟩, 
  ⟨(some 71), some (70, false), .mv (.t 15)⟩, 
  ⟨(some 72), some (70, false), .bin .neq (.t 71) (.c (.s (.d (.int .i64 1))))⟩, 
  ⟨(some 73), none, .pick (.t 70) (.c (.s (.d (.bool true)))) (.t 72)⟩, 
  ⟨(some 74), none, .mv (.t 73)⟩, 
  ⟨(some 75), some (74, false), .mv (.t 13)⟩, 
  ⟨(some 76), some (74, false), .bin .eql (.t 75) (.c (.s (.d (.int .i64 0))))⟩, 
  ⟨(some 77), some (74, false), .mv (.t 76)⟩, 
  ⟨(some 78), some (77, true), .mv (.t 1)⟩, 
  ⟨(some 79), some (77, true), .bin .neq (.t 78) (.c (.s (.d (.str []))))⟩, 
  ⟨(some 80), some (74, false), .pick (.t 77) (.t 79) (.c (.s (.d (.bool false))))⟩, 
  ⟨(some 81), none, .pick (.t 74) (.c (.s (.d (.bool true)))) (.t 80)⟩, 
  ⟨(some 82), none, .mv (.t 81)⟩, 
  ⟨(some 83), some (82, false), .call (.fn 15) []⟩, 
  ⟨(some 84), some (82, false), .un .not (.t 83)⟩, 
  ⟨(some 85), none, .pick (.t 82) (.c (.s (.d (.bool true)))) (.t 84)⟩]
def c8r8 : List Opn := [
  ⟨(some 6), none, .mv (.c (.s (.d (.bool false))))⟩]
def c8r9 : List Opn := [
  ⟨(some 86), none, .mv (.t 9)⟩, 
  ⟨(some 87), none, .bin .eql (.t 86) (.c (.s (.d (.int .i64 0))))⟩, 
  ⟨(some 88), none, .mv (.t 87)⟩, 
  ⟨(some 89), some (88, true), .mv (.t 8)⟩, 
  ⟨(some 90), some (88, true), .mv (.t 0)⟩, 
  ⟨(some 91), some (88, true), .bin .add (.t 90) (.c (.s (.d (.str [58]))))⟩, 
  ⟨(some 92), some (88, true), .mv (.t 1)⟩, 
  ⟨(some 93), some (88, true), .bin .add (.t 91) (.t 92)⟩, 
  ⟨(some 94), some (88, true), .bin .neq (.t 89) (.t 93)⟩, 
  ⟨(some 95), none, .pick (.t 88) (.t 94) (.c (.s (.d (.bool false))))⟩, 
  ⟨(some 96), none, .mv (.t 95)⟩, 
  ⟨(some 97), some (96, false), .mv (.t 11)⟩, 
  ⟨(some 98), some (96, false), .bin .eql (.t 97) (.c (.s (.d (.int .i64 0))))⟩, 
  ⟨(some 99), some (96, false), .mv (.t 98)⟩, 
  ⟨(some 100), some (99, true), .mv (.t 10)⟩, 
  ⟨(some 101), some (99, true), .mv (.t 0)⟩, 
  ⟨(some 102), some (99, true), .bin .add (.t 101) (.c (.s (.d (.str [64]))))⟩, 
  ⟨(some 103), some (99, true), .mv (.t 7)⟩, 
  ⟨(some 104), some (99, true), .bin .add (.t 102) (.t 103)⟩, 
  ⟨(some 105), some (99, true), .bin .neq (.t 100) (.t 104)⟩, 
  ⟨(some 106), some (96, false), .pick (.t 99) (.t 105) (.c (.s (.d (.bool false))))⟩, 
  ⟨(some 107), none, .pick (.t 96) (.c (.s (.d (.bool true)))) (.t 106)⟩]
def c8r10 : List Opn := [
  ⟨(some 6), none, .mv (.c (.s (.d (.bool false))))⟩]
def c8r11 : List Opn := [
  ⟨(some 109), none, .mv (.t 0)⟩, 
  ⟨(some 110), none, .bin .add (.t 109) (.c (.s (.d (.str [58]))))⟩, 
  ⟨(some 111), none, .mv (.t 1)⟩, 
  ⟨(some 112), none, .bin .add (.t 110) (.t 111)⟩, 
  ⟨(some 113), none, .bin .add (.t 112) (.c (.s (.d (.str [64]))))⟩, 
  ⟨(some 114), none, .mv (.t 7)⟩, 
  ⟨(some 115), none, .bin .add (.t 113) (.t 114)⟩, 
  ⟨(some 116), none, .call (.fn 18) [(.t 115)]⟩, 
  ⟨(some 108), none, .mv (.t 116)⟩, 
  ⟨(some 117), none, .ext (.t 108) 0⟩, 
  ⟨(some 118), none, .ext (.t 108) 1⟩, 
  ⟨(some 16), none, .new [(.d (.str [])), (.d (.str [])), (.d (.str []))]⟩, 
  ⟨none, none, .store 3 (.t 16) (.t 117)⟩, 
  ⟨(some 17), none, .mv (.t 118)⟩]
def c8r12 : List Opn := [
  ⟨(some 119), none, .mv (.t 17)⟩, 
  ⟨(some 120), none, .bin .eql (.t 119) (.c (.s (.d (.int .i64 5))))⟩, 
  ⟨(some 6), none, .mv (.t 120)⟩]
def c8 : C := .seq (.reg c8r0 none [0, 1, 2]) (.seq (.reg c8r1 none [0, 1, 2]) (.seq (.reg c8r2 none [0, 1, 7]) (.seq (.reg c8r3 none [0, 1, 7, 8, 9]) (.seq (.reg c8r4 none [0, 1, 7, 8, 9, 10, 11]) (.seq (.reg c8r5 none [0, 1, 7, 8, 9, 10, 11, 13]) (.seq (.reg c8r6 none [0, 1, 7, 8, 9, 10, 11, 13, 15]) (.seq (.seq (.reg c8r7 none [0, 1, 7, 8, 9, 10, 11, 85]) (.cond (.t 85) (.seq (.reg c8r8 none [6]) (.ret)) (.skip))) (.seq (.seq (.reg c8r9 none [0, 1, 7, 107]) (.cond (.t 107) (.seq (.reg c8r10 none [6]) (.ret)) (.skip))) (.seq (.reg c8r11 none [17]) (.seq (.reg c8r12 none [6]) (.ret)))))))))))
def k8 : List (Nat × List Nat) := [(12, [6]), (11, [17]), (10, [6]), (9, [0, 1, 7, 107]), (8, [6]), (7, [0, 1, 7, 8, 9, 10, 11, 85]), (6, [0, 1, 7, 8, 9, 10, 11, 13, 15]), (5, [0, 1, 7, 8, 9, 10, 11, 13]), (4, [0, 1, 7, 8, 9, 10, 11]), (3, [0, 1, 7, 8, 9]), (2, [0, 1, 7]), (1, [0, 1, 2]), (0, [0, 1, 2])]
theorem cc8 : (Tryd.f8.body).bind (cC Tryd.prog 121 k8) = some c8 := by kernel_rfl
def rv8 : List RV := [.t 6]
theorem cr8 : cRVs Tryd.prog Tryd.f8.results.toList = some rv8 := by kernel_rfl
theorem f_law03_NameRefs_ok (repo : Str) (tag : Str) (data : Str) (y_ : Bool) (h : f_law03_NameRefs repo tag data = some y_) : Fun Tryd.prog glP 8 [.b (.s (.d (.str repo))), .b (.s (.d (.str tag))), .b (.s (.d (.str data)))] (.b (.s (.d (.bool y_)))) := by
  refine fun_walk [] Tryd.func8 Tryd.ntmps8 cc8 cr8 (by kernel_rfl) (by simp only [List.length_cons, List.length_nil]; decide) ?_
  generalize hR : Ret _ _ _ _ _ = R_
  simp only [wz, wd, ws, Nat.reduceAdd, Nat.reduceSub, Nat.reduceMul, Nat.reduceLeDiff, Nat.reduceEqDiff, Nat.reduceLT, Nat.reduceBEq, reduceIte, reduceCtorEq, Int.reduceToNat, Nat.reduceShiftRight, Nat.reduceAnd, Nat.reduceBneDiff, Nat.reduceBNe, e_api_Ref]
  unfold f_law03_NameRefs at h; unfold c8
  refine .seq ?_
  refine Rw.walk ?_
  simp only [wz, wd, ws, Nat.reduceAdd, Nat.reduceSub, Nat.reduceMul, Nat.reduceLeDiff, Nat.reduceEqDiff, Nat.reduceLT, Nat.reduceBEq, reduceIte, reduceCtorEq, Int.reduceToNat, Nat.reduceShiftRight, Nat.reduceAnd, Nat.reduceBneDiff, Nat.reduceBNe, c8r0, semI.eq_10, semI.eq_11, semI.eq_3, semI.eq_5, semI.eq_7, e_api_Ref]
  refine .seq ?_
  refine Rw.walk ?_
  simp only [wz, wd, ws, Nat.reduceAdd, Nat.reduceSub, Nat.reduceMul, Nat.reduceLeDiff, Nat.reduceEqDiff, Nat.reduceLT, Nat.reduceBEq, reduceIte, reduceCtorEq, Int.reduceToNat, Nat.reduceShiftRight, Nat.reduceAnd, Nat.reduceBneDiff, Nat.reduceBNe, c8r1, semI.eq_10, semI.eq_11, semI.eq_3, semI.eq_5, semI.eq_7, e_api_Ref]
  obtain ⟨t, e1, h⟩ := Option.bind_eq_some_iff.1 h
  refine call_fun [] false ⟨trivial, trivial, trivial⟩ rfl ?_ (f_law03_short_ok _ _ e1) (fun _ => rfl) (fun i hi => by cases hi) ?_
  · simp only [wz, wd, ws, Nat.reduceAdd, Nat.reduceSub, Nat.reduceMul, Nat.reduceLeDiff, Nat.reduceEqDiff, Nat.reduceLT, Nat.reduceBEq, reduceIte, reduceCtorEq, Int.reduceToNat, Nat.reduceShiftRight, Nat.reduceAnd, Nat.reduceBneDiff, Nat.reduceBNe, e_api_Ref]
  simp only [wz, wd, ws, Nat.reduceAdd, Nat.reduceSub, Nat.reduceMul, Nat.reduceLeDiff, Nat.reduceEqDiff, Nat.reduceLT, Nat.reduceBEq, reduceIte, reduceCtorEq, Int.reduceToNat, Nat.reduceShiftRight, Nat.reduceAnd, Nat.reduceBneDiff, Nat.reduceBNe, c8r1, semI.eq_10, semI.eq_11, semI.eq_3, semI.eq_5, semI.eq_7, e_api_Ref]
  obtain ⟨t2, e2, h⟩ := Option.bind_eq_some_iff.1 h
  refine call_fun [] false ⟨trivial, trivial, trivial⟩ rfl ?_ (f_law03_short_ok _ _ e2) (fun _ => rfl) (fun i hi => by cases hi) ?_
  · simp only [wz, wd, ws, Nat.reduceAdd, Nat.reduceSub, Nat.reduceMul, Nat.reduceLeDiff, Nat.reduceEqDiff, Nat.reduceLT, Nat.reduceBEq, reduceIte, reduceCtorEq, Int.reduceToNat, Nat.reduceShiftRight, Nat.reduceAnd, Nat.reduceBneDiff, Nat.reduceBNe, e_api_Ref]
  simp only [wz, wd, ws, Nat.reduceAdd, Nat.reduceSub, Nat.reduceMul, Nat.reduceLeDiff, Nat.reduceEqDiff, Nat.reduceLT, Nat.reduceBEq, reduceIte, reduceCtorEq, Int.reduceToNat, Nat.reduceShiftRight, Nat.reduceAnd, Nat.reduceBneDiff, Nat.reduceBNe, c8r1, semI.eq_10, semI.eq_11, semI.eq_3, semI.eq_5, semI.eq_7, e_api_Ref]
  obtain ⟨t3, e3, h⟩ := Option.bind_eq_some_iff.1 h
  refine call_fun [] false ⟨trivial, trivial, trivial⟩ rfl ?_ (f_law03_short_ok _ _ e3) (fun _ => rfl) (fun i hi => by cases hi) ?_
  · simp only [wz, wd, ws, Nat.reduceAdd, Nat.reduceSub, Nat.reduceMul, Nat.reduceLeDiff, Nat.reduceEqDiff, Nat.reduceLT, Nat.reduceBEq, reduceIte, reduceCtorEq, Int.reduceToNat, Nat.reduceShiftRight, Nat.reduceAnd, Nat.reduceBneDiff, Nat.reduceBNe, e_api_Ref]
  simp only [wz, wd, ws, Nat.reduceAdd, Nat.reduceSub, Nat.reduceMul, Nat.reduceLeDiff, Nat.reduceEqDiff, Nat.reduceLT, Nat.reduceBEq, reduceIte, reduceCtorEq, Int.reduceToNat, Nat.reduceShiftRight, Nat.reduceAnd, Nat.reduceBneDiff, Nat.reduceBNe, c8r1, semI.eq_10, semI.eq_11, semI.eq_3, semI.eq_5, semI.eq_7, e_api_Ref]
  refine .seq ?_
  refine Rw.walk ?_
  simp only [wz, wd, ws, Nat.reduceAdd, Nat.reduceSub, Nat.reduceMul, Nat.reduceLeDiff, Nat.reduceEqDiff, Nat.reduceLT, Nat.reduceBEq, reduceIte, reduceCtorEq, Int.reduceToNat, Nat.reduceShiftRight, Nat.reduceAnd, Nat.reduceBneDiff, Nat.reduceBNe, c8r2, semI.eq_10, semI.eq_11, semI.eq_3, semI.eq_5, semI.eq_7, e_api_Ref]
  obtain ⟨t4, e4, h⟩ := Option.bind_eq_some_iff.1 h
  refine call_fun [] false ⟨trivial, trivial, trivial⟩ rfl ?_ (f_digest_Of_ok _ _ e4) (fun _ => rfl) (fun i hi => by cases hi) ?_
  · simp only [wz, wd, ws, Nat.reduceAdd, Nat.reduceSub, Nat.reduceMul, Nat.reduceLeDiff, Nat.reduceEqDiff, Nat.reduceLT, Nat.reduceBEq, reduceIte, reduceCtorEq, Int.reduceToNat, Nat.reduceShiftRight, Nat.reduceAnd, Nat.reduceBneDiff, Nat.reduceBNe, e_api_Ref]
  simp only [wz, wd, ws, Nat.reduceAdd, Nat.reduceSub, Nat.reduceMul, Nat.reduceLeDiff, Nat.reduceEqDiff, Nat.reduceLT, Nat.reduceBEq, reduceIte, reduceCtorEq, Int.reduceToNat, Nat.reduceShiftRight, Nat.reduceAnd, Nat.reduceBneDiff, Nat.reduceBNe, c8r2, semI.eq_10, semI.eq_11, semI.eq_3, semI.eq_5, semI.eq_7, e_api_Ref]
  refine .seq ?_
  refine Rw.walk ?_
  simp only [wz, wd, ws, Nat.reduceAdd, Nat.reduceSub, Nat.reduceMul, Nat.reduceLeDiff, Nat.reduceEqDiff, Nat.reduceLT, Nat.reduceBEq, reduceIte, reduceCtorEq, Int.reduceToNat, Nat.reduceShiftRight, Nat.reduceAnd, Nat.reduceBneDiff, Nat.reduceBNe, c8r3, semI.eq_10, semI.eq_11, semI.eq_3, semI.eq_5, semI.eq_7, e_api_Ref]
  obtain ⟨t5, e5, h⟩ := Option.bind_eq_some_iff.1 h
  refine call_fun [] false ⟨trivial, trivial, trivial⟩ rfl ?_ (f_name_Print_ok _ _ e5) (fun _ => rfl) (fun i hi => by cases hi) ?_
  · simp only [wz, wd, ws, Nat.reduceAdd, Nat.reduceSub, Nat.reduceMul, Nat.reduceLeDiff, Nat.reduceEqDiff, Nat.reduceLT, Nat.reduceBEq, reduceIte, reduceCtorEq, Int.reduceToNat, Nat.reduceShiftRight, Nat.reduceAnd, Nat.reduceBneDiff, Nat.reduceBNe, e_api_Ref]
  simp only [wz, wd, ws, Nat.reduceAdd, Nat.reduceSub, Nat.reduceMul, Nat.reduceLeDiff, Nat.reduceEqDiff, Nat.reduceLT, Nat.reduceBEq, reduceIte, reduceCtorEq, Int.reduceToNat, Nat.reduceShiftRight, Nat.reduceAnd, Nat.reduceBneDiff, Nat.reduceBNe, c8r3, semI.eq_10, semI.eq_11, semI.eq_3, semI.eq_5, semI.eq_7, e_api_Ref]
  refine .seq ?_
  refine Rw.walk ?_
  simp only [wz, wd, ws, Nat.reduceAdd, Nat.reduceSub, Nat.reduceMul, Nat.reduceLeDiff, Nat.reduceEqDiff, Nat.reduceLT, Nat.reduceBEq, reduceIte, reduceCtorEq, Int.reduceToNat, Nat.reduceShiftRight, Nat.reduceAnd, Nat.reduceBneDiff, Nat.reduceBNe, c8r4, semI.eq_10, semI.eq_11, semI.eq_3, semI.eq_5, semI.eq_7, e_api_Ref]
  obtain ⟨t6, e6, h⟩ := Option.bind_eq_some_iff.1 h
  refine call_fun [] false ⟨trivial, trivial, trivial⟩ rfl ?_ (f_name_Print_ok _ _ e6) (fun _ => rfl) (fun i hi => by cases hi) ?_
  · simp only [wz, wd, ws, Nat.reduceAdd, Nat.reduceSub, Nat.reduceMul, Nat.reduceLeDiff, Nat.reduceEqDiff, Nat.reduceLT, Nat.reduceBEq, reduceIte, reduceCtorEq, Int.reduceToNat, Nat.reduceShiftRight, Nat.reduceAnd, Nat.reduceBneDiff, Nat.reduceBNe, e_api_Ref]
  simp only [wz, wd, ws, Nat.reduceAdd, Nat.reduceSub, Nat.reduceMul, Nat.reduceLeDiff, Nat.reduceEqDiff, Nat.reduceLT, Nat.reduceBEq, reduceIte, reduceCtorEq, Int.reduceToNat, Nat.reduceShiftRight, Nat.reduceAnd, Nat.reduceBneDiff, Nat.reduceBNe, c8r4, semI.eq_10, semI.eq_11, semI.eq_3, semI.eq_5, semI.eq_7, e_api_Ref]
  refine .seq ?_
  refine Rw.walk ?_
  simp only [wz, wd, ws, Nat.reduceAdd, Nat.reduceSub, Nat.reduceMul, Nat.reduceLeDiff, Nat.reduceEqDiff, Nat.reduceLT, Nat.reduceBEq, reduceIte, reduceCtorEq, Int.reduceToNat, Nat.reduceShiftRight, Nat.reduceAnd, Nat.reduceBneDiff, Nat.reduceBNe, c8r5, semI.eq_10, semI.eq_11, semI.eq_3, semI.eq_5, semI.eq_7, e_api_Ref]
  obtain ⟨t7, e7, h⟩ := Option.bind_eq_some_iff.1 h
  refine call_fun [] false ⟨trivial, trivial, trivial⟩ rfl ?_ (f_name_Print_ok _ _ e7) (fun _ => rfl) (fun i hi => by cases hi) ?_
  · simp only [wz, wd, ws, Nat.reduceAdd, Nat.reduceSub, Nat.reduceMul, Nat.reduceLeDiff, Nat.reduceEqDiff, Nat.reduceLT, Nat.reduceBEq, reduceIte, reduceCtorEq, Int.reduceToNat, Nat.reduceShiftRight, Nat.reduceAnd, Nat.reduceBneDiff, Nat.reduceBNe, e_api_Ref]
  simp only [wz, wd, ws, Nat.reduceAdd, Nat.reduceSub, Nat.reduceMul, Nat.reduceLeDiff, Nat.reduceEqDiff, Nat.reduceLT, Nat.reduceBEq, reduceIte, reduceCtorEq, Int.reduceToNat, Nat.reduceShiftRight, Nat.reduceAnd, Nat.reduceBneDiff, Nat.reduceBNe, c8r5, semI.eq_10, semI.eq_11, semI.eq_3, semI.eq_5, semI.eq_7, e_api_Ref]
  refine .seq ?_
  refine Rw.walk ?_
  simp only [wz, wd, ws, Nat.reduceAdd, Nat.reduceSub, Nat.reduceMul, Nat.reduceLeDiff, Nat.reduceEqDiff, Nat.reduceLT, Nat.reduceBEq, reduceIte, reduceCtorEq, Int.reduceToNat, Nat.reduceShiftRight, Nat.reduceAnd, Nat.reduceBneDiff, Nat.reduceBNe, c8r6, semI.eq_10, semI.eq_11, semI.eq_3, semI.eq_5, semI.eq_7, e_api_Ref]
  obtain ⟨t8, e8, h⟩ := Option.bind_eq_some_iff.1 h
  refine call_fun [] false ⟨trivial, trivial, trivial⟩ rfl ?_ (f_name_Print_ok _ _ e8) (fun _ => rfl) (fun i hi => by cases hi) ?_
  · simp only [wz, wd, ws, Nat.reduceAdd, Nat.reduceSub, Nat.reduceMul, Nat.reduceLeDiff, Nat.reduceEqDiff, Nat.reduceLT, Nat.reduceBEq, reduceIte, reduceCtorEq, Int.reduceToNat, Nat.reduceShiftRight, Nat.reduceAnd, Nat.reduceBneDiff, Nat.reduceBNe, e_api_Ref]
  simp only [wz, wd, ws, Nat.reduceAdd, Nat.reduceSub, Nat.reduceMul, Nat.reduceLeDiff, Nat.reduceEqDiff, Nat.reduceLT, Nat.reduceBEq, reduceIte, reduceCtorEq, Int.reduceToNat, Nat.reduceShiftRight, Nat.reduceAnd, Nat.reduceBneDiff, Nat.reduceBNe, c8r6, semI.eq_10, semI.eq_11, semI.eq_3, semI.eq_5, semI.eq_7, e_api_Ref]
  refine .seq ?_
  refine .seq ?_
  refine Rw.walk ?_
  simp only [wz, wd, ws, Nat.reduceAdd, Nat.reduceSub, Nat.reduceMul, Nat.reduceLeDiff, Nat.reduceEqDiff, Nat.reduceLT, Nat.reduceBEq, reduceIte, reduceCtorEq, Int.reduceToNat, Nat.reduceShiftRight, Nat.reduceAnd, Nat.reduceBneDiff, Nat.reduceBNe, c8r7, semI.eq_10, semI.eq_11, semI.eq_3, semI.eq_5, semI.eq_7, e_api_Ref]
  obtain ⟨t9, e9, h⟩ := Option.bind_eq_some_iff.1 h
  refine call_fun [] false ⟨trivial, trivial, trivial⟩ rfl ?_ (f_name_Repo_ok _ _ e9) (fun _ => rfl) (fun i hi => by cases hi) ?_
  · simp only [wz, wd, ws, Nat.reduceAdd, Nat.reduceSub, Nat.reduceMul, Nat.reduceLeDiff, Nat.reduceEqDiff, Nat.reduceLT, Nat.reduceBEq, reduceIte, reduceCtorEq, Int.reduceToNat, Nat.reduceShiftRight, Nat.reduceAnd, Nat.reduceBneDiff, Nat.reduceBNe, e_api_Ref]
  simp only [wz, wd, ws, Nat.reduceAdd, Nat.reduceSub, Nat.reduceMul, Nat.reduceLeDiff, Nat.reduceEqDiff, Nat.reduceLT, Nat.reduceBEq, reduceIte, reduceCtorEq, Int.reduceToNat, Nat.reduceShiftRight, Nat.reduceAnd, Nat.reduceBneDiff, Nat.reduceBNe, c8r7, semI.eq_10, semI.eq_11, semI.eq_3, semI.eq_5, semI.eq_7, e_api_Ref]
  obtain ⟨t10, e10, h⟩ := Option.bind_eq_some_iff.1 h
  refine call_funG [] rfl (by simp only [wz, wd, ws, Nat.reduceAdd, Nat.reduceSub, Nat.reduceMul, Nat.reduceLeDiff, Nat.reduceEqDiff, Nat.reduceLT, Nat.reduceBEq, reduceIte, reduceCtorEq, Int.reduceToNat, Nat.reduceShiftRight, Nat.reduceAnd, Nat.reduceBneDiff, Nat.reduceBNe]) rfl ?_ (fun q => (f_name_Tag_ok _ _ (gx_iff e10 (by simpa using q)))) rfl (fun i hi => by cases hi) ?_
  · simp only [wz, wd, ws, Nat.reduceAdd, Nat.reduceSub, Nat.reduceMul, Nat.reduceLeDiff, Nat.reduceEqDiff, Nat.reduceLT, Nat.reduceBEq, reduceIte, reduceCtorEq, Int.reduceToNat, Nat.reduceShiftRight, Nat.reduceAnd, Nat.reduceBneDiff, Nat.reduceBNe, e_api_Ref]
  simp only [wz, wd, ws, Nat.reduceAdd, Nat.reduceSub, Nat.reduceMul, Nat.reduceLeDiff, Nat.reduceEqDiff, Nat.reduceLT, Nat.reduceBEq, reduceIte, reduceCtorEq, Int.reduceToNat, Nat.reduceShiftRight, Nat.reduceAnd, Nat.reduceBneDiff, Nat.reduceBNe, c8r7, semI.eq_10, semI.eq_11, semI.eq_3, semI.eq_5, semI.eq_7, e_api_Ref]
  repeat (refine And.intro ?_ ?_; · first | omega | (intro q; simp only [wz, wd, ws, Nat.reduceAdd, Nat.reduceSub, Nat.reduceMul, Nat.reduceLeDiff, Nat.reduceEqDiff, Nat.reduceLT, Nat.reduceBEq, reduceIte, reduceCtorEq, Int.reduceToNat, Nat.reduceShiftRight, Nat.reduceAnd, Nat.reduceBneDiff, Nat.reduceBNe, q]; done))
  obtain ⟨t11, e11, h⟩ := Option.bind_eq_some_iff.1 h
  refine call_funG [] rfl (by simp only [wz, wd, ws, Nat.reduceAdd, Nat.reduceSub, Nat.reduceMul, Nat.reduceLeDiff, Nat.reduceEqDiff, Nat.reduceLT, Nat.reduceBEq, reduceIte, reduceCtorEq, Int.reduceToNat, Nat.reduceShiftRight, Nat.reduceAnd, Nat.reduceBneDiff, Nat.reduceBNe]) rfl ?_ (fun q => (f_name_Repo_ok _ _ (gx_iff e11 (by simpa using q)))) rfl (fun i hi => by cases hi) ?_
  · simp only [wz, wd, ws, Nat.reduceAdd, Nat.reduceSub, Nat.reduceMul, Nat.reduceLeDiff, Nat.reduceEqDiff, Nat.reduceLT, Nat.reduceBEq, reduceIte, reduceCtorEq, Int.reduceToNat, Nat.reduceShiftRight, Nat.reduceAnd, Nat.reduceBneDiff, Nat.reduceBNe, e_api_Ref]
  simp only [wz, wd, ws, Nat.reduceAdd, Nat.reduceSub, Nat.reduceMul, Nat.reduceLeDiff, Nat.reduceEqDiff, Nat.reduceLT, Nat.reduceBEq, reduceIte, reduceCtorEq, Int.reduceToNat, Nat.reduceShiftRight, Nat.reduceAnd, Nat.reduceBneDiff, Nat.reduceBNe, c8r7, semI.eq_10, semI.eq_11, semI.eq_3, semI.eq_5, semI.eq_7, e_api_Ref]
  repeat (refine And.intro ?_ ?_; · first | omega | (intro q; simp only [wz, wd, ws, Nat.reduceAdd, Nat.reduceSub, Nat.reduceMul, Nat.reduceLeDiff, Nat.reduceEqDiff, Nat.reduceLT, Nat.reduceBEq, reduceIte, reduceCtorEq, Int.reduceToNat, Nat.reduceShiftRight, Nat.reduceAnd, Nat.reduceBneDiff, Nat.reduceBNe, q]; done))
  obtain ⟨t12, e12, h⟩ := Option.bind_eq_some_iff.1 h
  refine call_funG [] rfl (by simp only [wz, wd, ws, Nat.reduceAdd, Nat.reduceSub, Nat.reduceMul, Nat.reduceLeDiff, Nat.reduceEqDiff, Nat.reduceLT, Nat.reduceBEq, reduceIte, reduceCtorEq, Int.reduceToNat, Nat.reduceShiftRight, Nat.reduceAnd, Nat.reduceBneDiff, Nat.reduceBNe]) rfl ?_ (fun q => (f_law03_alive_ok _ (gx_iff e12 (by simpa using q)))) rfl (fun i hi => by cases hi) ?_
  · simp only [wz, wd, ws, Nat.reduceAdd, Nat.reduceSub, Nat.reduceMul, Nat.reduceLeDiff, Nat.reduceEqDiff, Nat.reduceLT, Nat.reduceBEq, reduceIte, reduceCtorEq, Int.reduceToNat, Nat.reduceShiftRight, Nat.reduceAnd, Nat.reduceBneDiff, Nat.reduceBNe, e_api_Ref]
  simp only [wz, wd, ws, Nat.reduceAdd, Nat.reduceSub, Nat.reduceMul, Nat.reduceLeDiff, Nat.reduceEqDiff, Nat.reduceLT, Nat.reduceBEq, reduceIte, reduceCtorEq, Int.reduceToNat, Nat.reduceShiftRight, Nat.reduceAnd, Nat.reduceBneDiff, Nat.reduceBNe, c8r7, semI.eq_10, semI.eq_11, semI.eq_3, semI.eq_5, semI.eq_7, e_api_Ref]
  repeat (refine And.intro ?_ ?_; · first | omega | (intro q; simp only [wz, wd, ws, Nat.reduceAdd, Nat.reduceSub, Nat.reduceMul, Nat.reduceLeDiff, Nat.reduceEqDiff, Nat.reduceLT, Nat.reduceBEq, reduceIte, reduceCtorEq, Int.reduceToNat, Nat.reduceShiftRight, Nat.reduceAnd, Nat.reduceBneDiff, Nat.reduceBNe, q]; done))
  refine .cond (p := (((((!((t5.2 == 0) == (t9 && t10))) || (!((t6.2 == 0) == t11))) || (t8.2 != 1)) || ((t7.2 == 0) && (!(t2 == ([] : Str))))) || (!t12))) (by first | rfl | simp only [wz, wd, ws, Nat.reduceAdd, Nat.reduceSub, Nat.reduceMul, Nat.reduceLeDiff, Nat.reduceEqDiff, Nat.reduceLT, Nat.reduceBEq, reduceIte, reduceCtorEq, Int.reduceToNat, Nat.reduceShiftRight, Nat.reduceAnd, Nat.reduceBneDiff, Nat.reduceBNe]) (fun h1 => ?_) (fun h1 => ?_)
  · rw [ite_t h1] at h
    refine .seq ?_
    refine Rw.walk ?_
    simp only [wz, wd, ws, Nat.reduceAdd, Nat.reduceSub, Nat.reduceMul, Nat.reduceLeDiff, Nat.reduceEqDiff, Nat.reduceLT, Nat.reduceBEq, reduceIte, reduceCtorEq, Int.reduceToNat, Nat.reduceShiftRight, Nat.reduceAnd, Nat.reduceBneDiff, Nat.reduceBNe, c8r8, semI.eq_10, semI.eq_11, semI.eq_3, semI.eq_5, semI.eq_7, e_api_Ref]
    obtain rfl := Option.some.inj h
    refine .ret ?_
    rw [← hR]
    simp only [wz, wd, ws, Nat.reduceAdd, Nat.reduceSub, Nat.reduceMul, Nat.reduceLeDiff, Nat.reduceEqDiff, Nat.reduceLT, Nat.reduceBEq, reduceIte, reduceCtorEq, Int.reduceToNat, Nat.reduceShiftRight, Nat.reduceAnd, Nat.reduceBneDiff, Nat.reduceBNe, rv8, e_api_Ref]
  · rw [ite_f h1] at h
    refine .skip ?_
    refine .seq ?_
    refine .seq ?_
    refine Rw.walk ?_
    obtain ⟨g13, h⟩ := gd_iff.1 h
    obtain ⟨g14, h⟩ := gd_iff.1 h
    obtain ⟨g15, h⟩ := gd_iff.1 h
    obtain ⟨g16, h⟩ := gd_iff.1 h
    simp only [wz, wd, ws, Nat.reduceAdd, Nat.reduceSub, Nat.reduceMul, Nat.reduceLeDiff, Nat.reduceEqDiff, Nat.reduceLT, Nat.reduceBEq, reduceIte, reduceCtorEq, Int.reduceToNat, Nat.reduceShiftRight, Nat.reduceAnd, Nat.reduceBneDiff, Nat.reduceBNe, c8r9, semI.eq_10, semI.eq_11, semI.eq_3, semI.eq_5, semI.eq_7, e_api_Ref]
    repeat (refine And.intro ?_ ?_; · first | omega | exact g13 | exact g14 | exact g15 | exact g16 | (intro q; first | omega | (have q2 := g13 (by simpa using q); omega) | (have q2 := g13 q; omega) | (have q2 := g14 (by simpa using q); omega) | (have q2 := g14 q; omega) | (have q2 := g15 (by simpa using q); omega) | (have q2 := g15 q; omega) | (have q2 := g16 (by simpa using q); omega) | (have q2 := g16 q; omega) | (have q2 := g13 (by simpa using q); simp only [List.length_append, List.length_cons, List.length_nil] at q2 ⊢; omega) | (have q2 := g14 (by simpa using q); simp only [List.length_append, List.length_cons, List.length_nil] at q2 ⊢; omega) | (have q2 := g15 (by simpa using q); simp only [List.length_append, List.length_cons, List.length_nil] at q2 ⊢; omega) | (have q2 := g16 (by simpa using q); simp only [List.length_append, List.length_cons, List.length_nil] at q2 ⊢; omega)) | (intro q; simp only [wz, wd, ws, Nat.reduceAdd, Nat.reduceSub, Nat.reduceMul, Nat.reduceLeDiff, Nat.reduceEqDiff, Nat.reduceLT, Nat.reduceBEq, reduceIte, reduceCtorEq, Int.reduceToNat, Nat.reduceShiftRight, Nat.reduceAnd, Nat.reduceBneDiff, Nat.reduceBNe, q]; done))
    refine .cond (p := (((t5.2 == 0) && (!(t5.1 == ((t ++ ([58] : Str)) ++ t2)))) || ((t6.2 == 0) && (!(t6.1 == ((t ++ ([64] : Str)) ++ t4)))))) (by first | rfl | simp only [wz, wd, ws, Nat.reduceAdd, Nat.reduceSub, Nat.reduceMul, Nat.reduceLeDiff, Nat.reduceEqDiff, Nat.reduceLT, Nat.reduceBEq, reduceIte, reduceCtorEq, Int.reduceToNat, Nat.reduceShiftRight, Nat.reduceAnd, Nat.reduceBneDiff, Nat.reduceBNe]) (fun h1 => ?_) (fun h1 => ?_)
    · rw [ite_t h1] at h
      refine .seq ?_
      refine Rw.walk ?_
      simp only [wz, wd, ws, Nat.reduceAdd, Nat.reduceSub, Nat.reduceMul, Nat.reduceLeDiff, Nat.reduceEqDiff, Nat.reduceLT, Nat.reduceBEq, reduceIte, reduceCtorEq, Int.reduceToNat, Nat.reduceShiftRight, Nat.reduceAnd, Nat.reduceBneDiff, Nat.reduceBNe, c8r10, semI.eq_10, semI.eq_11, semI.eq_3, semI.eq_5, semI.eq_7, e_api_Ref]
      obtain rfl := Option.some.inj h
      refine .ret ?_
      rw [← hR]
      simp only [wz, wd, ws, Nat.reduceAdd, Nat.reduceSub, Nat.reduceMul, Nat.reduceLeDiff, Nat.reduceEqDiff, Nat.reduceLT, Nat.reduceBEq, reduceIte, reduceCtorEq, Int.reduceToNat, Nat.reduceShiftRight, Nat.reduceAnd, Nat.reduceBneDiff, Nat.reduceBNe, rv8, e_api_Ref]
    · rw [ite_f h1] at h
      refine .skip ?_
      refine .seq ?_
      refine Rw.walk ?_
      obtain ⟨g17, h⟩ := gd_iff.1 h
      obtain ⟨g18, h⟩ := gd_iff.1 h
      obtain ⟨g19, h⟩ := gd_iff.1 h
      obtain ⟨g20, h⟩ := gd_iff.1 h
      simp only [wz, wd, ws, Nat.reduceAdd, Nat.reduceSub, Nat.reduceMul, Nat.reduceLeDiff, Nat.reduceEqDiff, Nat.reduceLT, Nat.reduceBEq, reduceIte, reduceCtorEq, Int.reduceToNat, Nat.reduceShiftRight, Nat.reduceAnd, Nat.reduceBneDiff, Nat.reduceBNe, c8r11, semI.eq_10, semI.eq_11, semI.eq_3, semI.eq_5, semI.eq_7, e_api_Ref]
      repeat (refine And.intro ?_ ?_; · first | omega | (intro q; simp only [wz, wd, ws, Nat.reduceAdd, Nat.reduceSub, Nat.reduceMul, Nat.reduceLeDiff, Nat.reduceEqDiff, Nat.reduceLT, Nat.reduceBEq, reduceIte, reduceCtorEq, Int.reduceToNat, Nat.reduceShiftRight, Nat.reduceAnd, Nat.reduceBneDiff, Nat.reduceBNe, q]; done))
      obtain ⟨t13, e21, h⟩ := Option.bind_eq_some_iff.1 h
      refine call_fun [] false ⟨trivial, trivial, trivial⟩ rfl ?_ (f_name_Parse_ok _ _ e21) (fun _ => rfl) (fun i hi => by cases hi) ?_
      · simp only [wz, wd, ws, Nat.reduceAdd, Nat.reduceSub, Nat.reduceMul, Nat.reduceLeDiff, Nat.reduceEqDiff, Nat.reduceLT, Nat.reduceBEq, reduceIte, reduceCtorEq, Int.reduceToNat, Nat.reduceShiftRight, Nat.reduceAnd, Nat.reduceBneDiff, Nat.reduceBNe, e_api_Ref]
      simp only [wz, wd, ws, Nat.reduceAdd, Nat.reduceSub, Nat.reduceMul, Nat.reduceLeDiff, Nat.reduceEqDiff, Nat.reduceLT, Nat.reduceBEq, reduceIte, reduceCtorEq, Int.reduceToNat, Nat.reduceShiftRight, Nat.reduceAnd, Nat.reduceBneDiff, Nat.reduceBNe, c8r11, semI.eq_10, semI.eq_11, semI.eq_3, semI.eq_5, semI.eq_7, e_api_Ref]
      refine .seq ?_
      refine Rw.walk ?_
      simp only [wz, wd, ws, Nat.reduceAdd, Nat.reduceSub, Nat.reduceMul, Nat.reduceLeDiff, Nat.reduceEqDiff, Nat.reduceLT, Nat.reduceBEq, reduceIte, reduceCtorEq, Int.reduceToNat, Nat.reduceShiftRight, Nat.reduceAnd, Nat.reduceBneDiff, Nat.reduceBNe, c8r12, semI.eq_10, semI.eq_11, semI.eq_3, semI.eq_5, semI.eq_7, e_api_Ref]
      obtain rfl := Option.some.inj h
      refine .ret ?_
      rw [← hR]
      simp only [wz, wd, ws, Nat.reduceAdd, Nat.reduceSub, Nat.reduceMul, Nat.reduceLeDiff, Nat.reduceEqDiff, Nat.reduceLT, Nat.reduceBEq, reduceIte, reduceCtorEq, Int.reduceToNat, Nat.reduceShiftRight, Nat.reduceAnd, Nat.reduceBneDiff, Nat.reduceBNe, rv8, e_api_Ref]
end Go.Proofs.YtdcokepmblcdmaaDoor.V
end

section
/- Plain laws: numbers, rows and words of 32 bits. -/
namespace Go.Proofs.YtdcokepmblcdmaaDoor.V.M
set_option linter.unusedVariables false
set_option linter.unusedSimpArgs false
open Go Go.RowKit
theorem w_i64 {n : Int} (h : -9223372036854775808 ≤ n) (h2 : n < 9223372036854775808) : IntKind.i64.wrap n = n := by
  simp only [IntKind.wrap, IntKind.bits, IntKind.signed]; simp; omega
theorem bounds_i64 {a : Int} (h : (Lit.int .i64 a).wf = true) : -9223372036854775808 ≤ a ∧ a ≤ 9223372036854775807 := by
  have e := (Bool.and_eq_true_iff.mp h); exact ⟨of_decide_eq_true e.1, of_decide_eq_true e.2⟩
theorem bounds_u8 {a : Int} (h : (Lit.int .u8 a).wf = true) : 0 ≤ a ∧ a ≤ 255 := by
  have e := (Bool.and_eq_true_iff.mp h); exact ⟨of_decide_eq_true e.1, of_decide_eq_true e.2⟩
theorem w_u64 {n : Int} (h : 0 ≤ n) (h2 : n < 18446744073709551616) : IntKind.u64.wrap n = n := by
  simp only [IntKind.wrap, IntKind.bits, IntKind.signed]; simp; omega
theorem w_u32 (n : Int) : IntKind.u32.wrap n = n % 4294967296 := by simp [IntKind.wrap, IntKind.bits, IntKind.signed]
theorem w_u8 (n : Int) : IntKind.u8.wrap n = n % 256 := by simp [IntKind.wrap, IntKind.bits, IntKind.signed]
theorem gd_t {α : Type} {p : Prop} [Decidable p] (k : Option α) (h : p) : gd p k = k := by unfold gd; rw [if_pos h]
theorem ix_nat {α : Type} (l : List α) (n : Nat) : ix l (n : Int) = l[n]? := by unfold ix; rw [if_pos (by omega)]; rfl
theorem ix_lt {α : Type} (l : List α) (d : α) (n : Nat) (h : n < l.length) : ix l (n : Int) = some (l.getD n d) := by
  rw [ix_nat, List.getElem?_eq_getElem h, List.getD_eq_getElem?_getD, List.getElem?_eq_getElem h]; rfl
theorem cut_all {α : Type} (l : List α) (n : Nat) : cut l (n : Int) (l.length : Int) = l.drop n := by unfold cut; simp
theorem cut_zero {α : Type} (l : List α) (n : Nat) : cut l 0 (n : Int) = l.take n := by unfold cut; simp
/-- A word of 32 bits, as the program's number. -/
def B (x : BitVec 32) : Int := (x.toNat : Int)
theorem B_lt (x : BitVec 32) : 0 ≤ B x ∧ B x < 4294967296 := ⟨by unfold B; omega, by unfold B; have := x.isLt; omega⟩
theorem B_of (n : Int) : BitVec.ofInt 32 n = BitVec.ofInt 32 n := rfl
theorem B_ofInt (n : Int) : IntKind.u32.wrap n = B (BitVec.ofInt 32 n) := by
  rw [w_u32]; unfold B; rw [BitVec.toNat_ofInt]; omega
theorem of_B (x : BitVec 32) : BitVec.ofInt 32 (B x) = x := by unfold B; simp
theorem of_B' (x : BitVec 32) : BitVec.ofInt IntKind.u32.bits (B x) = x := of_B x
theorem wrap_B (x : BitVec 32) : IntKind.u32.wrap (B x) = B x := by rw [B_ofInt, of_B]
theorem wrap_N (x : BitVec 32) : IntKind.u32.wrap ((x.toNat : Nat) : Int) = B x := wrap_B x
theorem add_B (x y : BitVec 32) : IntKind.u32.wrap (B x + B y) = B (x + y) := by
  rw [B_ofInt, BitVec.ofInt_add, of_B, of_B]
theorem B_mod (n : Nat) : (n : Int) % 4294967296 = B (BitVec.ofNat 32 n) := by unfold B; simp
theorem not_B (x : BitVec 32) : IntKind.u32.wrap (4294967295 - B x) = B (~~~ x) := by
  have := B_lt x
  rw [w_u32]; unfold B at *; rw [BitVec.toNat_not]; omega
theorem not_B2 (x : BitVec 32) : IntKind.u32.wrap (BitVec.ofInt IntKind.u32.bits (if IntKind.u32.signed then -1 else IntKind.u32.max) ^^^ BitVec.ofInt IntKind.u32.bits (B x)).toNat = B (~~~ x) := by
  have e : (BitVec.ofInt IntKind.u32.bits (if IntKind.u32.signed then -1 else IntKind.u32.max) ^^^ BitVec.ofInt IntKind.u32.bits (B x)) = ~~~ x := by
    show BitVec.ofInt 32 4294967295 ^^^ BitVec.ofInt 32 (B x) = _
    rw [of_B, show BitVec.ofInt 32 4294967295 = BitVec.allOnes 32 from by decide, BitVec.allOnes_xor]
  rw [e]; exact wrap_N _
theorem xor_B (x y : BitVec 32) : IntKind.u32.wrap (BitVec.ofInt IntKind.u32.bits (B x) ^^^ BitVec.ofInt IntKind.u32.bits (B y)).toNat = B (x ^^^ y) := by
  have e : (BitVec.ofInt IntKind.u32.bits (B x) ^^^ BitVec.ofInt IntKind.u32.bits (B y)) = x ^^^ y := by
    show BitVec.ofInt 32 (B x) ^^^ BitVec.ofInt 32 (B y) = _
    rw [of_B, of_B]
  rw [e]; exact wrap_N _
theorem and_B (x y : BitVec 32) : IntKind.u32.wrap (BitVec.ofInt IntKind.u32.bits (B x) &&& BitVec.ofInt IntKind.u32.bits (B y)).toNat = B (x &&& y) := by
  have e : (BitVec.ofInt IntKind.u32.bits (B x) &&& BitVec.ofInt IntKind.u32.bits (B y)) = x &&& y := by
    show BitVec.ofInt 32 (B x) &&& BitVec.ofInt 32 (B y) = _
    rw [of_B, of_B]
  rw [e]; exact wrap_N _
theorem or_B (x y : BitVec 32) : IntKind.u32.wrap (BitVec.ofInt IntKind.u32.bits (B x) ||| BitVec.ofInt IntKind.u32.bits (B y)).toNat = B (x ||| y) := by
  have e : (BitVec.ofInt IntKind.u32.bits (B x) ||| BitVec.ofInt IntKind.u32.bits (B y)) = x ||| y := by
    show BitVec.ofInt 32 (B x) ||| BitVec.ofInt 32 (B y) = _
    rw [of_B, of_B]
  rw [e]; exact wrap_N _
/-- The turn to the right. -/
def rot (n : Nat) (x : BitVec 32) : BitVec 32 := (x <<< (32 - n)) ||| (x >>> n)
theorem rot_add (n : Nat) (h0 : 0 < n) (h : n < 32) (x : BitVec 32) : rot n x = (x <<< (32 - n)) + (x >>> n) := by
  unfold rot; symm; apply BitVec.add_eq_or_of_and_eq_zero
  ext i hi
  simp only [BitVec.getElem_and, BitVec.getElem_shiftLeft, BitVec.getElem_ushiftRight, BitVec.getElem_zero]
  by_cases c : i < 32 - n
  · simp [c]
  · simp [c]; intro _; exact BitVec.getLsbD_of_ge _ _ (by omega)
theorem B_def (x : BitVec 32) : B x = (x.toNat : Int) := rfl
theorem shr_B (x : BitVec 32) (n : Nat) : (B x).fdiv (2 ^ n) = B (x >>> n) := by
  have h : (2 : Int) ^ n = ((2 ^ n : Nat) : Int) := by rw [Int.natCast_pow]; rfl
  rw [B_def, B_def, BitVec.toNat_ushiftRight, Nat.shiftRight_eq_div_pow, h, Int.fdiv_eq_ediv_of_nonneg _ (Int.natCast_nonneg _)]; rfl
theorem shl_B (x : BitVec 32) (n : Nat) : IntKind.u32.wrap (B x * 2 ^ n) = B (x <<< n) := by
  have h : (2 : Int) ^ n = ((2 ^ n : Nat) : Int) := by rw [Int.natCast_pow]; rfl
  rw [w_u32, B_def, B_def, BitVec.toNat_shiftLeft, Nat.shiftLeft_eq, h, ← Int.natCast_mul]; rfl
theorem divB (x : BitVec 32) (n : Nat) (p : Int) (h : p = ((2 ^ n : Nat) : Int)) : IntKind.u32.wrap ((B x).tdiv p) = B (x >>> n) := by
  subst h
  rw [B_def, Int.tdiv_eq_ediv_of_nonneg (Int.natCast_nonneg _), show ((x.toNat : Int) / ((2 ^ n : Nat) : Int)) = ((x >>> n).toNat : Int) by
    rw [BitVec.toNat_ushiftRight, Nat.shiftRight_eq_div_pow]; rfl]
  exact wrap_N _
theorem modB (x : BitVec 32) (n : Nat) (hn : n ≤ 32) (p q : Int) (h : p = ((2 ^ n : Nat) : Int)) (h2 : q = ((2 ^ (32 - n) : Nat) : Int)) : IntKind.u32.wrap ((B x).tmod p * q) = B (x <<< (32 - n)) := by
  subst h; subst h2
  rw [B_def, Int.tmod_eq_emod_of_nonneg (Int.natCast_nonneg _), w_u32, B_def, BitVec.toNat_shiftLeft, Nat.shiftLeft_eq]
  have e : (x.toNat % 2 ^ n) * 2 ^ (32 - n) = x.toNat * 2 ^ (32 - n) % 2 ^ 32 := by
    rw [← Nat.mul_mod_mul_right]; congr 1; rw [← Nat.pow_add]; congr 1; omega
  rw [← e, ← Int.natCast_emod, ← Int.natCast_mul, e]
  have := Nat.mod_lt (x.toNat * 2 ^ (32 - n)) (show 2 ^ 32 > 0 by decide)
  omega
end Go.Proofs.YtdcokepmblcdmaaDoor.V.M
end

section
/- The two ways to turn a word agree; mixed, step and block over words. -/
namespace Go.Proofs.YtdcokepmblcdmaaDoor.V.M
set_option linter.unusedVariables false
set_option linter.unusedSimpArgs false
open Go Go.RowKit
theorem rl_ok (x : BitVec 32) (n : Nat) (h0 : 0 < n) (h : n < 32) : f_math_bits_RotateLeft32 (B x) (IntKind.i64.wrap (0 - (n : Int))) = some (B (rot n x)) := by
  have e : (IntKind.u64.wrap ((BitVec.ofInt IntKind.u64.bits (IntKind.u64.wrap (IntKind.i64.wrap (0 - (n : Int)))) &&& BitVec.ofInt IntKind.u64.bits 31).toNat)) = ((32 - n : Nat) : Int) := by
    have : ∀ n : Fin 32, 0 < n.val → (IntKind.u64.wrap ((BitVec.ofInt IntKind.u64.bits (IntKind.u64.wrap (IntKind.i64.wrap (0 - (n.val : Int)))) &&& BitVec.ofInt IntKind.u64.bits 31).toNat)) = ((32 - n.val : Nat) : Int) := by decide
    exact this ⟨n, h⟩ h0
  have e2 : IntKind.u64.wrap (32 - ((32 - n : Nat) : Int)) = (n : Int) := by rw [w_u64 (by omega) (by omega)]; omega
  unfold f_math_bits_RotateLeft32
  rw [e, Option.bind_some, gd_t _ (by omega), e2, gd_t _ (by omega)]
  rw [show min ((32 - n : Nat) : Int).toNat IntKind.u32.bits = 32 - n from by show min _ 32 = _; omega, show min (n : Int).toNat IntKind.u32.bits = n from by show min _ 32 = _; omega]
  rw [shl_B, shr_B, or_B]; rfl
theorem mixed_t (x : BitVec 32) (a b c : Nat) (ha : 0 < a ∧ a < 32) (hb : 0 < b ∧ b < 32) (hc : 0 < c ∧ c < 32) :
    f_digest_mixed (B x) a b c true = some (B (rot a x ^^^ rot b x ^^^ (x >>> c))) := by
  unfold f_digest_mixed
  rw [rl_ok x c hc.1 hc.2, Option.bind_some, if_pos rfl, gd_t _ (by omega), Option.bind_some, rl_ok x a ha.1 ha.2, Option.bind_some, rl_ok x b hb.1 hb.2, Option.bind_some,
    show min (c : Int).toNat IntKind.u32.bits = c from by show min _ 32 = _; omega, shr_B, xor_B, xor_B]
theorem mixed_f (x : BitVec 32) (a b c : Nat) (ha : 0 < a ∧ a < 32) (hb : 0 < b ∧ b < 32) (hc : 0 < c ∧ c < 32) :
    f_digest_mixed (B x) a b c false = some (B (rot a x ^^^ rot b x ^^^ rot c x)) := by
  unfold f_digest_mixed
  rw [rl_ok x c hc.1 hc.2, Option.bind_some, if_neg (by decide), Option.bind_some, rl_ok x a ha.1 ha.2, Option.bind_some, rl_ok x b hb.1 hb.2, Option.bind_some, xor_B, xor_B]
def sg0 (x : BitVec 32) := rot 7 x ^^^ rot 18 x ^^^ (x >>> 3)
def sg1 (x : BitVec 32) := rot 17 x ^^^ rot 19 x ^^^ (x >>> 10)
def bg0 (x : BitVec 32) := rot 2 x ^^^ rot 13 x ^^^ rot 22 x
def bg1 (x : BitVec 32) := rot 6 x ^^^ rot 11 x ^^^ rot 25 x
theorem mx0 (x : BitVec 32) : f_digest_mixed (B x) 7 18 3 true = some (B (sg0 x)) := mixed_t x 7 18 3 (by decide) (by decide) (by decide)
theorem mx1 (x : BitVec 32) : f_digest_mixed (B x) 17 19 10 true = some (B (sg1 x)) := mixed_t x 17 19 10 (by decide) (by decide) (by decide)
theorem my0 (x : BitVec 32) : f_digest_mixed (B x) 2 13 22 false = some (B (bg0 x)) := mixed_f x 2 13 22 (by decide) (by decide) (by decide)
theorem my1 (x : BitVec 32) : f_digest_mixed (B x) 6 11 25 false = some (B (bg1 x)) := mixed_f x 6 11 25 (by decide) (by decide) (by decide)
def Cb (c : UInt8) : BitVec 32 := BitVec.ofNat 32 c.toNat
theorem bn_B (c : UInt8) : IntKind.u32.wrap (bn c) = B (Cb c) := by
  rw [w_u32]; unfold bn Cb; exact B_mod _
def wd (a b c d : UInt8) : BitVec 32 := Cb a <<< 24 ||| Cb b <<< 16 ||| Cb c <<< 8 ||| Cb d
theorem mn24 : min 24 IntKind.u32.bits = 24 := rfl
theorem mn16 : min 16 IntKind.u32.bits = 16 := rfl
theorem mn8 : min 8 IntKind.u32.bits = 8 := rfl
theorem big_ok (s : Str) (h : 4 ≤ s.length) : f_digest_big s = some (B (wd (s.getD 0 0) (s.getD 1 0) (s.getD 2 0) (s.getD 3 0))) := by
  unfold f_digest_big
  have e0 : ix s 0 = some (s.getD 0 0) := ix_lt s 0 0 (by omega)
  have e1 : ix s 1 = some (s.getD 1 0) := ix_lt s 0 1 (by omega)
  have e2 : ix s 2 = some (s.getD 2 0) := ix_lt s 0 2 (by omega)
  have e3 : ix s 3 = some (s.getD 3 0) := ix_lt s 0 3 (by omega)
  rw [e0, Option.bind_some, e1, Option.bind_some, e2, Option.bind_some, e3, Option.bind_some]
  simp only [bn_B, mn24, mn16, mn8, shl_B, or_B]
  rfl
theorem wd_eq (a b c d : UInt8) : 256#32 * (256#32 * (256#32 * (256#32 * 0#32 + Cb a) + Cb b) + Cb c) + Cb d = wd a b c d := by
  apply BitVec.eq_of_toNat_eq
  unfold wd Cb
  have ha := a.toNat_lt; have hb := b.toNat_lt; have hc := c.toNat_lt; have hd := d.toNat_lt
  simp only [BitVec.toNat_add, BitVec.toNat_mul, BitVec.toNat_or, BitVec.toNat_shiftLeft, BitVec.toNat_ofNat, Nat.shiftLeft_eq]
  rw [Nat.or_assoc, Nat.or_assoc, Nat.mod_eq_of_lt (show d.toNat < 2 ^ 32 by omega), Nat.mod_eq_of_lt (show c.toNat < 2 ^ 32 by omega), Nat.mod_eq_of_lt (show b.toNat < 2 ^ 32 by omega), Nat.mod_eq_of_lt (show a.toNat < 2 ^ 32 by omega),
    Nat.mod_eq_of_lt (show c.toNat * 2 ^ 8 < 2 ^ 32 by omega), Nat.mod_eq_of_lt (show b.toNat * 2 ^ 16 < 2 ^ 32 by omega), Nat.mod_eq_of_lt (show a.toNat * 2 ^ 24 < 2 ^ 32 by omega),
    Nat.mul_comm c.toNat, Nat.mul_comm b.toNat, Nat.mul_comm a.toNat, ← Nat.two_pow_add_eq_or_of_lt (show d.toNat < 2 ^ 8 by omega),
    ← Nat.two_pow_add_eq_or_of_lt (show 2 ^ 8 * c.toNat + d.toNat < 2 ^ 16 by omega), ← Nat.two_pow_add_eq_or_of_lt (show 2 ^ 16 * b.toNat + (2 ^ 8 * c.toNat + d.toNat) < 2 ^ 24 by omega)]
  omega
end Go.Proofs.YtdcokepmblcdmaaDoor.V.M
end

section
/- The words of a block, and a block, computed in both ways. -/
namespace Go.Proofs.YtdcokepmblcdmaaDoor.V.M
set_option linter.unusedVariables false
set_option linter.unusedSimpArgs false
open Go Go.RowKit
def wr (s : Str) (i : Nat) : BitVec 32 := wd (s.getD (4 * i) 0) (s.getD (4 * i + 1) 0) (s.getD (4 * i + 2) 0) (s.getD (4 * i + 3) 0)
def nxWord (s : Str) (i : Nat) (l : List (BitVec 32)) : BitVec 32 :=
  if i < 16 then wr s i else sg1 (l.getD (i - 2) 0#32) + l.getD (i - 7) 0#32 + sg0 (l.getD (i - 15) 0#32) + l.getD (i - 16) 0#32
def sch (s : Str) : Nat → List (BitVec 32)
  | 0 => []
  | i + 1 => sch s i ++ [nxWord s i (sch s i)]
theorem sch_len (s : Str) (i : Nat) : (sch s i).length = i := by
  induction i with
  | zero => rfl
  | succ i ih => simp [sch, ih]
def W0 (s : Str) (i : Nat) : List Int := (sch s i).map B ++ List.replicate (64 - i) 0
theorem ix_sch (s : Str) (i j : Nat) (h : j < i) (r : List Int) : ix ((sch s i).map B ++ r) (j : Int) = some (B ((sch s i).getD j 0#32)) := by
  rw [ix_nat, List.getElem?_append_left (by simpa [sch_len] using h), List.getElem?_map, List.getElem?_eq_getElem (by simpa [sch_len] using h), List.getD_eq_getElem?_getD, List.getElem?_eq_getElem (by simpa [sch_len] using h)]; rfl
theorem ix_W0 (s : Str) (i j : Nat) (h : j < i) : ix (W0 s i) (j : Int) = some (B ((sch s i).getD j 0#32)) := ix_sch s i j h _
theorem ix_V0 (s : Str) (i j : Nat) (h : j < i) : ix ((sch s i).map B) (j : Int) = some (B ((sch s i).getD j 0#32)) := by
  have := ix_sch s i j h []; rwa [List.append_nil] at this
theorem W0_len (s : Str) (i : Nat) (h : i ≤ 64) : (W0 s i).length = 64 := by simp [W0, sch_len]; omega
theorem W0_set (s : Str) (i : Nat) (h : i < 64) (y : Int) (hy : y = B (nxWord s i (sch s i))) : (W0 s i).set i y = W0 s (i + 1) := by
  subst hy
  unfold W0
  rw [show 64 - i = (64 - (i + 1)) + 1 from by omega, List.replicate_succ, List.set_append_right _ _ (by simp [sch_len])]
  simp [sch_len, sch]
theorem over9_step (hv : List Int) (s : Str) (h : 64 ≤ s.length) (hs : s.length < 9223372036854775808) (i m : Nat) (hi : i < 64) :
    f_digest_over_l9 hv s (m + 1) (i : Int) (W0 s i) = f_digest_over_l9 hv s m ((i + 1 : Nat) : Int) (W0 s (i + 1)) := by
  have e1 : IntKind.i64.wrap ((i : Int) + 1) = ((i + 1 : Nat) : Int) := by rw [w_i64 (by omega) (by omega)]; omega
  rw [f_digest_over_l9, if_pos (decide_eq_true (by omega)), e1]
  have hl := W0_len s i (by omega)
  by_cases c : i < 16
  · rw [if_pos (decide_eq_true (by omega))]
    have e2 : IntKind.i64.wrap (4 * (i : Int)) = ((4 * i : Nat) : Int) := by rw [w_i64 (by omega) (by omega)]; omega
    rw [e2, gd_t _ (by omega), cut_all, big_ok _ (by rw [List.length_drop]; omega), Option.bind_some, gd_t _ (by omega), gd_t _ (by omega), Int.toNat_natCast, W0_set s i hi]
    congr 1
    unfold nxWord wr; rw [if_pos c]
    simp only [List.getD_eq_getElem?_getD, List.getElem?_drop]; rfl
  · rw [if_neg (by simp; omega)]
    have e2 : IntKind.i64.wrap ((i : Int) - 2) = ((i - 2 : Nat) : Int) := by rw [w_i64 (by omega) (by omega)]; omega
    have e7 : IntKind.i64.wrap ((i : Int) - 7) = ((i - 7 : Nat) : Int) := by rw [w_i64 (by omega) (by omega)]; omega
    have e15 : IntKind.i64.wrap ((i : Int) - 15) = ((i - 15 : Nat) : Int) := by rw [w_i64 (by omega) (by omega)]; omega
    have e16 : IntKind.i64.wrap ((i : Int) - 16) = ((i - 16 : Nat) : Int) := by rw [w_i64 (by omega) (by omega)]; omega
    rw [e2, e7, e15, e16, gd_t _ (by omega), ix_W0 s i _ (by omega), Option.bind_some, mx1, Option.bind_some, gd_t _ (by omega), ix_W0 s i _ (by omega), Option.bind_some,
      gd_t _ (by omega), ix_W0 s i _ (by omega), Option.bind_some, mx0, Option.bind_some, gd_t _ (by omega), ix_W0 s i _ (by omega), Option.bind_some, gd_t _ (by omega), gd_t _ (by omega), Int.toNat_natCast, W0_set s i hi]
    rw [add_B, add_B, add_B]; congr 1; unfold nxWord; rw [if_neg c]
theorem over9 (hv : List Int) (s : Str) (h : 64 ≤ s.length) (hs : s.length < 9223372036854775808) (k : Nat) : ∀ i, i + k = 64 →
    f_digest_over_l9 hv s (k + 1) (i : Int) (W0 s i) = some (64, W0 s 64) := by
  induction k with
  | zero => intro i hi; obtain rfl : i = 64 := by omega
            rw [f_digest_over_l9, if_neg (by decide)]; rfl
  | succ k ih => intro i hi; rw [over9_step hv s h hs i (k + 1) (by omega)]; exact ih _ (by omega)
end Go.Proofs.YtdcokepmblcdmaaDoor.V.M
end

section
/- A block, computed in both ways. -/
namespace Go.Proofs.YtdcokepmblcdmaaDoor.V.M
set_option linter.unusedVariables false
set_option linter.unusedSimpArgs false
open Go Go.RowKit
def keysB : List (BitVec 32) := g_digest_keys.map (BitVec.ofInt 32)
theorem keysB_map : g_digest_keys = keysB.map B := by kernel_rfl
theorem keysB_len : keysB.length = 64 := by kernel_rfl
theorem ix_map (l : List (BitVec 32)) (j : Nat) (h : j < l.length) : ix (l.map B) (j : Int) = some (B (l.getD j 0#32)) := by
  rw [ix_nat, List.getElem?_map, List.getElem?_eq_getElem h, List.getD_eq_getElem?_getD, List.getElem?_eq_getElem h]; rfl
def rnd (k w : BitVec 32) : List (BitVec 32) → List (BitVec 32)
  | [a, b, c, d, e, f, g, h] =>
    [h + bg1 e + (e &&& f ^^^ (~~~ e) &&& g) + k + w + (bg0 a + (a &&& b ^^^ a &&& c ^^^ b &&& c)), a, b, c, d + (h + bg1 e + (e &&& f ^^^ (~~~ e) &&& g) + k + w), e, f, g]
  | v => v
theorem len8 {α : Type} (l : List α) (h : l.length = 8) : ∃ a b c d e f g i, l = [a, b, c, d, e, f, g, i] := by
  match l, h with
  | [a, b, c, d, e, f, g, i], _ => exact ⟨a, b, c, d, e, f, g, i, rfl⟩
theorem rnd_len (k w : BitVec 32) (v : List (BitVec 32)) (h : v.length = 8) : (rnd k w v).length = 8 := by
  obtain ⟨a, b, c, d, e, f, g, i, rfl⟩ := len8 v h; rfl
def rn (hv : List (BitVec 32)) (s : Str) : Nat → List (BitVec 32)
  | 0 => hv
  | i + 1 => rnd (keysB.getD i 0#32) ((sch s 64).getD i 0#32) (rn hv s i)
theorem rn_len (hv : List (BitVec 32)) (s : Str) (h : hv.length = 8) (i : Nat) : (rn hv s i).length = 8 := by
  induction i with
  | zero => exact h
  | succ i ih => exact rnd_len _ _ _ ih
theorem bsn {α β : Type} (a : α) (f : α → Option β) : (some a).bind f = f a := Eq.trans (Option.bind_some a f) rfl
theorem gdc0 (a : BitVec 32) (l : List (BitVec 32)) : (a :: l).getD 0 0#32 = a := Eq.trans List.getD_cons_zero rfl
theorem gdc1 (a : BitVec 32) (l : List (BitVec 32)) (n : Nat) : (a :: l).getD (n + 1) 0#32 = l.getD n 0#32 := Eq.trans List.getD_cons_succ rfl
theorem ix8 (a b c d e f g i : BitVec 32) : ix ([a, b, c, d, e, f, g, i].map B) 0 = some (B a) ∧ ix ([a, b, c, d, e, f, g, i].map B) 1 = some (B b) ∧ ix ([a, b, c, d, e, f, g, i].map B) 2 = some (B c) ∧ ix ([a, b, c, d, e, f, g, i].map B) 3 = some (B d) ∧ ix ([a, b, c, d, e, f, g, i].map B) 4 = some (B e) ∧ ix ([a, b, c, d, e, f, g, i].map B) 5 = some (B f) ∧ ix ([a, b, c, d, e, f, g, i].map B) 6 = some (B g) ∧ ix ([a, b, c, d, e, f, g, i].map B) 7 = some (B i) := ⟨rfl, rfl, rfl, rfl, rfl, rfl, rfl, rfl⟩
theorem l19_step (hv : List Int) (s : Str) (s2 : Int × List Int) (u : List (BitVec 32)) (hs : s2.2 = u.map B) (hu : u.length = 64) (v : List (BitVec 32)) (h : v.length = 8) (i m : Nat) (hi : i < 64) :
    f_digest_over_l19 hv s s2 (m + 1) (i : Int) (v.map B) = f_digest_over_l19 hv s s2 m ((i + 1 : Nat) : Int) ((rnd (keysB.getD i 0#32) (u.getD i 0#32) v).map B) := by
  obtain ⟨a, b, c, d, e, f, g, k, rfl⟩ := len8 v h
  obtain ⟨x0, x1, x2, x3, x4, x5, x6, x7⟩ := ix8 a b c d e f g k
  have y := ix_map u i (by omega)
  have z := ix_map keysB i (by rw [keysB_len]; omega)
  rw [← keysB_map] at z
  rw [← hs] at y
  have g1 : (0 ≤ (i : Int) ∧ (i : Int) < 64) := by omega
  have e1 : IntKind.i64.wrap ((i : Int) + 1) = ((i + 1 : Nat) : Int) := by rw [w_i64 (by omega) (by omega)]; omega
  have gl : ([a, b, c, d, e, f, g, k].map B).length = 8 := rfl
  rw [f_digest_over_l19, if_pos (decide_eq_true (by omega)), e1]
  simp only [x0, x1, x2, x3, x4, x5, x6, x7, y, z, gd_t _ g1, gd_t _ gl, bsn, my0, my1, not_B2, xor_B, and_B, add_B]
  rfl
theorem l19_ok (hv : List Int) (s : Str) (s2 : Int × List Int) (hs : s2.2 = (sch s 64).map B) (v : List (BitVec 32)) (h : v.length = 8) (k : Nat) : ∀ i, i + k = 64 →
    f_digest_over_l19 hv s s2 (k + 1) (i : Int) ((rn v s i).map B) = some (64, (rn v s 64).map B) := by
  induction k with
  | zero => intro i hi; obtain rfl : i = 64 := by omega
            rw [f_digest_over_l19, if_neg (by decide)]; rfl
  | succ k ih => intro i hi; rw [l19_step hv s s2 (sch s 64) hs (sch_len s 64) _ (rn_len v s h i) i (k + 1) (by omega)]; exact ih _ (by omega)
def comp (hv : List (BitVec 32)) (s : Str) : List (BitVec 32) := List.zipWith (· + ·) hv (rn hv s 64)
theorem comp_len (hv : List (BitVec 32)) (s : Str) (h : hv.length = 8) : (comp hv s).length = 8 := by simp [comp, h, rn_len hv s h]
theorem l25_ok (s : Str) (s3 : Int × List Int) (a b : List (BitVec 32)) (ha : a.length = 8) (hb : b.length = 8) (hs : s3.2 = b.map B) :
    f_digest_over_l25 s s3 (((8 : Int) - 0).toNat + 1) 0 (a.map B) = some (8, (List.zipWith (· + ·) a b).map B) := by
  obtain ⟨t, u⟩ := s3
  dsimp only at hs; subst hs
  obtain ⟨a0, a1, a2, a3, a4, a5, a6, a7, rfl⟩ := len8 a ha
  obtain ⟨b0, b1, b2, b3, b4, b5, b6, b7, rfl⟩ := len8 b hb
  have : f_digest_over_l25 s (t, [b0, b1, b2, b3, b4, b5, b6, b7].map B) (((8 : Int) - 0).toNat + 1) 0 ([a0, a1, a2, a3, a4, a5, a6, a7].map B) =
    some (8, [IntKind.u32.wrap (B a0 + B b0), IntKind.u32.wrap (B a1 + B b1), IntKind.u32.wrap (B a2 + B b2), IntKind.u32.wrap (B a3 + B b3), IntKind.u32.wrap (B a4 + B b4), IntKind.u32.wrap (B a5 + B b5), IntKind.u32.wrap (B a6 + B b6), IntKind.u32.wrap (B a7 + B b7)]) := by kernel_rfl
  rw [this]; simp only [add_B]; rfl
theorem over_ok (hv : List (BitVec 32)) (s : Str) (h : hv.length = 8) (hs : 64 ≤ s.length) (hl : s.length < 9223372036854775808) : f_digest_over (hv.map B) s = some ((comp hv s).map B) := by
  have g1 : (hv.map B).length = 8 := by simpa using h
  have q1 := over9 (hv.map B) s hs hl 64 0 rfl
  have q2 := l19_ok (hv.map B) s (64, W0 s 64) (by simp [W0]) hv h 64 0 rfl
  have q3 : f_digest_over_l25 s (64, (rn hv s 64).map B) (((8 : Int) - 0).toNat + 1) 0 (hv.map B) = some (8, (comp hv s).map B) := l25_ok s (64, (rn hv s 64).map B) hv _ h (rn_len hv s h 64) rfl
  have g2 : ((comp hv s).map B).length = 8 := by simpa using comp_len hv s h
  unfold f_digest_over
  rw [gd_t _ g1]
  have q1' : f_digest_over_l9 (hv.map B) s (((64 : Int) - 0).toNat + 1) 0 (List.replicate 64 0) = some (64, W0 s 64) := q1
  have q2' : f_digest_over_l19 (hv.map B) s (64, W0 s 64) (((64 : Int) - 0).toNat + 1) 0 (hv.map B) = some (64, (rn hv s 64).map B) := q2
  rw [q1', Option.bind_some, gd_t _ g1, gd_t _ g1, q2', Option.bind_some, q3, Option.bind_some]
  dsimp only
  rw [gd_t _ g2, gd_t _ g2, gd_t _ g2]
theorem nx_take (s : Str) (i : Nat) (l : List (BitVec 32)) : nxWord (s.take 64) i l = nxWord s i l := by
  have e : ∀ j, j < 64 → (s.take 64).getD j 0 = s.getD j 0 := by
    intro j hj; rw [List.getD_eq_getElem?_getD, List.getD_eq_getElem?_getD, List.getElem?_take_of_lt hj]
  unfold nxWord
  by_cases c : i < 16
  · rw [if_pos c, if_pos c]; unfold wr; rw [e _ (by omega), e _ (by omega), e _ (by omega), e _ (by omega)]
  · rw [if_neg c, if_neg c]
theorem sch_take (s : Str) (i : Nat) : sch (s.take 64) i = sch s i := by
  induction i with
  | zero => rfl
  | succ i ih => rw [sch, sch, ih, nx_take]
theorem comp_take (hv : List (BitVec 32)) (s : Str) : comp hv (s.take 64) = comp hv s := by
  have : ∀ i, rn hv (s.take 64) i = rn hv s i := by
    intro i; induction i with
    | zero => rfl
    | succ i ih => rw [rn, rn, ih, sch_take]
  unfold comp; rw [this]
end Go.Proofs.YtdcokepmblcdmaaDoor.V.M
end

section
/- The sum of a text, computed in both ways. -/
namespace Go.Proofs.YtdcokepmblcdmaaDoor.V.M
set_option linter.unusedVariables false
set_option linter.unusedSimpArgs false
open Go Go.RowKit
def padS (s : Str) : Str := s ++ List.replicate ((120 - s.length % 64) % 64) 0
theorem padS_next (s : Str) (h : s.length % 64 ≠ 56) : padS (s ++ [0]) = padS s := by
  unfold padS
  rw [List.length_append, List.append_assoc, show ([0] : Str) = List.replicate 1 0 from rfl, List.replicate_append_replicate, List.length_replicate]
  congr 2; omega
theorem padS_end (s : Str) (h : s.length % 64 = 56) : padS s = s := by
  unfold padS; rw [h]; simp
theorem padS_len (s : Str) : (padS s).length % 64 = 56 ∧ (padS s).length ≤ s.length + 63 ∧ s.length ≤ (padS s).length := by
  unfold padS; rw [List.length_append, List.length_replicate]; omega
theorem tm64 (n : Nat) : ((((n : Int).tmod 64) != 56) = true) ↔ n % 64 ≠ 56 := by
  rw [Int.tmod_eq_emod_of_nonneg (Int.natCast_nonneg _)]; simp; omega
theorem l6_ok (t : Str) (m : Nat) : ∀ s : Str, s.length + (120 - s.length % 64) % 64 ≤ 9223372036854775807 → (120 - s.length % 64) % 64 < m → f_digest_Sum_l6 t m s = some (padS s) := by
  induction m with
  | zero => intro s _ h; omega
  | succ m ih =>
    intro s h hm
    rw [f_digest_Sum_l6]
    by_cases c : s.length % 64 = 56
    · rw [if_neg (by rw [tm64]; omega), padS_end s c]
    · rw [if_pos (by rw [tm64]; omega), gd_t _ (by omega), ih _ (by rw [List.length_append]; show _ + 1 + (120 - (_ + 1) % 64) % 64 ≤ _; omega) (by rw [List.length_append]; show (120 - (_ + 1) % 64) % 64 < _; omega), padS_next s c]
theorem map_bn0 (s : Str) : s.map bn ++ ([0] : List Int) = (s ++ [0]).map bn := by rw [List.map_append]; rfl
def byt (T j : Nat) : UInt8 := UInt8.ofNat (T / 2 ^ (8 * j))
def lbs (T : Nat) : Str := [byt T 7, byt T 6, byt T 5, byt T 4, byt T 3, byt T 2, byt T 1, byt T 0]
def Tb (n : Nat) : Nat := n * 8 % 18446744073709551616
theorem T_ok (n : Nat) (h : n ≤ 140737488355328) : IntKind.u64.wrap ((IntKind.u64.wrap (n : Int)) * 8) = (Tb n : Int) := by
  rw [w_u64 (n := (n : Int)) (by omega) (by omega), w_u64 (by omega) (by omega)]; unfold Tb; omega
theorem pow_c (n : Nat) : (2 : Int) ^ n = ((2 ^ n : Nat) : Int) := by rw [Int.natCast_pow]; rfl
theorem nb_mod (n : Nat) : nb (((n % 256 : Nat)) : Int) = UInt8.ofNat n := by
  unfold nb; rw [Int.toNat_natCast]; apply UInt8.toNat_inj.mp; rw [UInt8.toNat_ofNat', UInt8.toNat_ofNat', Nat.mod_mod]
theorem byt_f (T j : Nat) (hj : j < 8) : nb (IntKind.u8.wrap ((T : Int).fdiv (2 ^ (min (IntKind.i64.wrap (8 * (j : Int))).toNat IntKind.u64.bits)))) = byt T j := by
  rw [w_i64 (by omega) (by omega), show min (8 * (j : Int)).toNat IntKind.u64.bits = 8 * j from by show min _ 64 = _; omega, pow_c, Int.fdiv_eq_ediv_of_nonneg _ (Int.natCast_nonneg _), w_u8, ← Int.natCast_ediv]
  exact nb_mod _
theorem l11_step (t s : Str) (m : Nat) (s2 : Str) (j : Nat) (hj : j < 8) (ht : t.length ≤ 140737488355328) (h : s2.length + 1 ≤ 9223372036854775807) :
    f_digest_Sum_l11 t s (m + 1) s2 (j : Int) = f_digest_Sum_l11 t s m (s2 ++ [byt (Tb t.length) j]) ((j : Int) - 1) := by
  rw [f_digest_Sum_l11, if_pos (decide_eq_true (by omega)), gd_t _ (by rw [w_i64 (by omega) (by omega)]; omega), gd_t _ h, Option.bind_some, T_ok _ ht, w_i64 (n := (j : Int) - 1) (by omega) (by omega), List.map_cons, byt_f _ _ hj]; rfl
theorem l11_ok (t s : Str) (ht : t.length ≤ 140737488355328) (h : s.length + 8 ≤ 9223372036854775807) : f_digest_Sum_l11 t s (((7 : Int) - 0).toNat + 2) s 7 = some (s ++ lbs (Tb t.length), -1) := by
  show f_digest_Sum_l11 t s (8 + 1) s ((7 : Nat) : Int) = _
  rw [l11_step t s _ _ _ (by decide) ht (by omega), show ((7 : Nat) : Int) - 1 = ((6 : Nat) : Int) from rfl, l11_step t s _ _ _ (by decide) ht (by simp; omega), show ((6 : Nat) : Int) - 1 = ((5 : Nat) : Int) from rfl,
    l11_step t s _ _ _ (by decide) ht (by simp; omega), show ((5 : Nat) : Int) - 1 = ((4 : Nat) : Int) from rfl, l11_step t s _ _ _ (by decide) ht (by simp; omega), show ((4 : Nat) : Int) - 1 = ((3 : Nat) : Int) from rfl,
    l11_step t s _ _ _ (by decide) ht (by simp; omega), show ((3 : Nat) : Int) - 1 = ((2 : Nat) : Int) from rfl, l11_step t s _ _ _ (by decide) ht (by simp; omega), show ((2 : Nat) : Int) - 1 = ((1 : Nat) : Int) from rfl,
    l11_step t s _ _ _ (by decide) ht (by simp; omega), show ((1 : Nat) : Int) - 1 = ((0 : Nat) : Int) from rfl, l11_step t s _ _ _ (by decide) ht (by simp; omega), show ((0 : Nat) : Int) - 1 = -1 from rfl]
  rw [f_digest_Sum_l11, if_neg (by decide)]
  simp only [List.append_assoc, List.cons_append, List.nil_append]; rfl
theorem byt_t (T j : Nat) (hT : T < 18446744073709551616) : IntKind.u8.wrap ((IntKind.u64.wrap ((T : Int).tdiv ((2 ^ (8 * j) : Nat) : Int))).tmod 256) = bn (byt T j) := by
  rw [Int.tdiv_eq_ediv_of_nonneg (Int.natCast_nonneg _), ← Int.natCast_ediv, w_u64 (Int.natCast_nonneg _) (by have := Nat.div_le_self T (2 ^ (8 * j)); omega), Int.tmod_eq_emod_of_nonneg (Int.natCast_nonneg _), w_u8]
  unfold bn byt; rw [UInt8.toNat_ofNat']; omega
end Go.Proofs.YtdcokepmblcdmaaDoor.V.M
end

section
/- The sum of a text, computed in both ways: the blocks, and what is handed back. -/
namespace Go.Proofs.YtdcokepmblcdmaaDoor.V.M
set_option linter.unusedVariables false
set_option linter.unusedSimpArgs false
open Go Go.RowKit
def bl : Nat → List (BitVec 32) → Str → List (BitVec 32)
  | 0, hv, _ => hv
  | k + 1, hv, s => bl k (comp hv s) (s.drop 64)
theorem bl_len (k : Nat) : ∀ hv s, hv.length = 8 → (bl k hv s).length = 8 := by
  induction k with
  | zero => intro hv s h; exact h
  | succ k ih => intro hv s h; exact ih _ _ (comp_len hv s h)
theorem l16_ok (s : Str) (k : Nat) : ∀ (m : Nat) (hv : List (BitVec 32)) (s3 : Str), s3.length = 64 * k → s3.length < 9223372036854775808 → k < m → hv.length = 8 → f_digest_Sum_l16 s m s3 (hv.map B) = some ([], (bl k hv s3).map B) := by
  induction k with
  | zero =>
    intro m hv s3 h _ hm h8
    obtain ⟨m, rfl⟩ : ∃ m', m = m' + 1 := ⟨m - 1, by omega⟩
    obtain rfl : s3 = [] := List.length_eq_zero_iff.mp (by omega)
    rw [f_digest_Sum_l16, if_neg (by simp)]; rfl
  | succ k ih =>
    intro m hv s3 h hb hm h8
    obtain ⟨m, rfl⟩ : ∃ m', m = m' + 1 := ⟨m - 1, by omega⟩
    have ne : s3 ≠ [] := by intro e; subst e; simp at h
    have c : cut s3 64 (s3.length : Int) = s3.drop 64 := cut_all s3 64
    rw [f_digest_Sum_l16, if_pos (by simpa using ne), gd_t _ (by simpa using h8), over_ok hv s3 h8 (by omega) hb, Option.bind_some, gd_t _ (by simpa using h8), gd_t _ (by simpa using comp_len hv s3 h8), gd_t _ (by omega), c]
    rw [ih m (comp hv s3) (s3.drop 64) (by rw [List.length_drop]; omega) (by rw [List.length_drop]; omega) (by omega) (comp_len hv s3 h8)]; rfl
theorem nb_bn (s : Str) : (s.map bn).map nb = s := by
  rw [List.map_map]
  have : nb ∘ bn = id := by funext c; simp [nb, bn]
  rw [this, List.map_id]
def o4 (x : Int) : List Int := [(IntKind.u8.wrap (x.fdiv (2 ^ (min 24 IntKind.u32.bits)))), (IntKind.u8.wrap (x.fdiv (2 ^ (min 16 IntKind.u32.bits)))), (IntKind.u8.wrap (x.fdiv (2 ^ (min 8 IntKind.u32.bits)))), (IntKind.u8.wrap x)]
def p4 (x : Int) : List Int := [(IntKind.u8.wrap (IntKind.u32.wrap (x.tdiv 16777216))), (IntKind.u8.wrap ((IntKind.u32.wrap (x.tdiv 65536)).tmod 256)), (IntKind.u8.wrap ((IntKind.u32.wrap (x.tdiv 256)).tmod 256)), (IntKind.u8.wrap (x.tmod 256))]
theorem m8 (y : BitVec 32) : IntKind.u8.wrap ((B y).tmod 256) = IntKind.u8.wrap (B y) := by
  have := B_lt y
  rw [Int.tmod_eq_emod_of_nonneg this.1, w_u8, w_u8]; omega
theorem p4_eq (x : BitVec 32) : p4 (B x) = o4 (B x) := by
  unfold p4 o4
  rw [divB x 24 16777216 rfl, divB x 16 65536 rfl, divB x 8 256 rfl, m8, m8, m8, mn24, mn16, mn8, shr_B, shr_B, shr_B]
theorem l23_ok (s : Str) (s3 : Str × List Int) (a : List (BitVec 32)) (ha : a.length = 8) (hs : s3.2 = a.map B) :
    f_digest_Sum_l23 s s3 (((8 : Int) - 0).toNat + 1) 0 [] = some (8, (a.map B).flatMap o4) := by
  obtain ⟨t, u⟩ := s3
  dsimp only at hs; subst hs
  obtain ⟨a0, a1, a2, a3, a4, a5, a6, a7, rfl⟩ := len8 a ha
  kernel_rfl
def firstB : List (BitVec 32) := [1779033703#32, 3144134277#32, 1013904242#32, 2773480762#32, 1359893119#32, 2600822924#32, 528734635#32, 1541459225#32]
def full (s : Str) : Str := padS (s ++ [128]) ++ lbs (Tb s.length)
def sumS (s : Str) : Str := ((((bl ((full s).length / 64) firstB (full s)).map B).flatMap o4)).map nb
theorem full_len (s : Str) : (full s).length = 64 * ((full s).length / 64) ∧ (full s).length ≤ s.length + 72 ∧ (full s).length = (padS (s ++ [128])).length + 8 := by
  have := padS_len (s ++ [128])
  unfold full
  rw [List.length_append] at *
  have e : (lbs (Tb s.length)).length = 8 := rfl
  simp only [List.length_cons, List.length_nil] at *
  omega
theorem sum_len (s : Str) : (sumS s).length = 32 := by
  unfold sumS
  obtain ⟨a0, a1, a2, a3, a4, a5, a6, a7, e⟩ := len8 _ (bl_len ((full s).length / 64) firstB (full s) rfl)
  rw [e]; rfl
theorem digestSum_ok (parts : List Str) (hp : parts.length ≤ 140737488355328) (h : (Lib.join parts []).length + 100 ≤ 140737488355328) : f_digest_Sum parts = some (sumS (Lib.join parts [])) := by
  generalize e : Lib.join parts [] = s at h
  have fl := full_len s
  have pl := padS_len (s ++ [128])
  simp only [List.length_append, List.length_cons, List.length_nil] at pl
  have q1 := l6_ok s 65 (s ++ [128]) (by simp; omega) (by omega)
  have q2 := l11_ok s (padS (s ++ [128])) (by omega) (by omega)
  have q3 := l16_ok (padS (s ++ [128])) ((full s).length / 64) ((padS (s ++ [128])).length + 1) firstB (full s) (by omega) (by omega) (by omega) rfl
  have g8 : ((bl ((full s).length / 64) firstB (full s)).map B).length = 8 := by rw [List.length_map]; exact bl_len _ _ _ rfl
  have q4 := l23_ok (padS (s ++ [128])) ([], (bl ((full s).length / 64) firstB (full s)).map B) _ (bl_len _ _ _ rfl) rfl
  unfold f_digest_Sum f_strings_Join
  rw [gd_t _ (by rw [e]; omega), e, Option.bind_some, gd_t _ (by omega), q1, Option.bind_some, q2, Option.bind_some, show f_digest_begins = some (firstB.map B) from by kernel_rfl, Option.bind_some, gd_t (p := (firstB.map B).length = 8) _ rfl]
  dsimp only
  rw [show padS (s ++ [128]) ++ lbs (Tb s.length) = full s from rfl]
  rw [q3, Option.bind_some]
  dsimp only
  rw [gd_t _ g8, q4, Option.bind_some]; rfl
end Go.Proofs.YtdcokepmblcdmaaDoor.V.M
end

section
/- Hex, read and written, in both ways. -/
namespace Go.Proofs.YtdcokepmblcdmaaDoor.V.M
set_option linter.unusedVariables false
set_option linter.unusedSimpArgs false
open Go Go.RowKit
theorem bn_dig (n : Nat) (h : n < 16) : bn (dig n) = if n < 10 then 48 + (n : Int) else 97 + (n : Int) - 10 := by
  have : ∀ n : Fin 16, bn (dig n.val) = if n.val < 10 then 48 + (n.val : Int) else 97 + (n.val : Int) - 10 := by decide
  exact this ⟨n, h⟩
def ofS (s : Str) : Str := ([115, 104, 97, 50, 53, 54, 58] : Str) ++ hexl (sumS s)
theorem digestOf_ok (s : Str) (h : s.length + 100 ≤ 140737488355328) : f_digest_Of s = some (ofS s) := by
  have l := sum_len s
  unfold f_digest_Of f_octet_Hex
  rw [digestSum_ok [s] (by simp) (by rw [Lib.join_one]; exact h), Option.bind_some, Lib.join_one, gd_t _ (by omega), Option.bind_some, gd_t _ (by rw [hexl_length]; omega)]; rfl
end Go.Proofs.YtdcokepmblcdmaaDoor.V.M
end

section
/- Hex read back, in both ways; digests parsed in both ways. -/
namespace Go.Proofs.YtdcokepmblcdmaaDoor.V.M
set_option linter.unusedVariables false
set_option linter.unusedSimpArgs false
open Go Go.RowKit
def hx (c : UInt8) : Nat := if 48 ≤ c.toNat ∧ c.toNat ≤ 57 then c.toNat - 48 else if 97 ≤ c.toNat ∧ c.toNat ≤ 102 then c.toNat - 87 else 16
def un : Str → Option Str
  | [] => some []
  | [_] => none
  | a :: b :: r => if hx a < 16 ∧ hx b < 16 then (un r).map (UInt8.ofNat (16 * hx a + hx b) :: ·) else none
theorem u8_all {P : UInt8 → Prop} [DecidablePred P] (h : (List.range 256).all (fun n => decide (P (UInt8.ofNat n))) = true) (c : UInt8) : P c := by
  have := (List.all_eq_true.mp h) c.toNat (List.mem_range.mpr c.toNat_lt)
  simpa using this
abbrev dgs : Str := [48, 49, 50, 51, 52, 53, 54, 55, 56, 57, 97, 98, 99, 100, 101, 102]
theorem ib_ok (c : UInt8) : f_strings_IndexByte dgs (bn c) = some (if hx c < 16 then (hx c : Int) else -1) :=
  u8_all (P := fun c => f_strings_IndexByte dgs (bn c) = some (if hx c < 16 then (hx c : Int) else -1)) (by kernel_rfl) c
theorem hx_le (c : UInt8) : hx c ≤ 16 := by unfold hx; split <;> (try split) <;> omega
theorem hx_dig (n : Nat) (h : n < 16) : hx (dig n) = n := by
  have : ∀ n : Fin 16, hx (dig n.val) = n.val := by decide
  exact this ⟨n, h⟩
theorem un_hexl (x : Str) : un (hexl x) = some x := by
  induction x with
  | nil => rfl
  | cons c x ih =>
    have hc := c.toNat_lt
    show un (dig (c.toNat / 16) :: dig (c.toNat % 16) :: hexl x) = _
    rw [un, hx_dig _ (by omega), hx_dig _ (by omega), if_pos (by omega), ih, show 16 * (c.toNat / 16) + c.toNat % 16 = c.toNat by omega]; simp
theorem un_len : ∀ (n : Nat) (s x : Str), s.length ≤ n → un s = some x → s.length = 2 * x.length := by
  intro n
  induction n with
  | zero => intro s x h e; obtain rfl : s = [] := List.length_eq_zero_iff.mp (by omega); cases e; rfl
  | succ n ih =>
    intro s x h e
    match s, e with
    | [], e => cases e; rfl
    | [_], e => cases e
    | a :: b :: r, e =>
      rw [un] at e
      split at e
      · obtain ⟨y, hy, rfl⟩ := Option.map_eq_some_iff.mp e
        have := ih r y (by simp only [List.length_cons] at h; omega) hy
        simp only [List.length_cons]; omega
      · cases e
theorem w8h (a b : UInt8) (ha : hx a < 16) (hb : hx b < 16) : IntKind.u8.wrap (IntKind.i64.wrap ((IntKind.i64.wrap ((hx a : Int) * 16)) + (hx b : Int))) = bn (UInt8.ofNat (16 * hx a + hx b)) := by
  rw [w_i64 (n := (hx a : Int) * 16) (by omega) (by omega), w_i64 (by omega) (by omega), w_u8]; unfold bn; rw [UInt8.toNat_ofNat']; omega
theorem drop2 (s : Str) (v : Nat) (h : 2 * v + 1 < s.length) : s.drop (2 * v) = s.getD (2 * v) 0 :: s.getD (2 * v + 1) 0 :: s.drop (2 * (v + 1)) := by
  rw [List.drop_eq_getElem_cons (by omega), List.drop_eq_getElem_cons (i := 2 * v + 1) (by omega), List.getD_eq_getElem?_getD, List.getD_eq_getElem?_getD, List.getElem?_eq_getElem (by omega), List.getElem?_eq_getElem (by omega)]; rfl
theorem b12o (s : Str) (m : Nat) (hs : s.length = 2 * m) (hb : s.length < 9223372036854775807) (k : Nat) : ∀ (v : Nat) (pre : Str), v + k = m → pre.length = v →
    f_octet_Bytes_l12 s (k + 1) (v : Int) (pre.map bn ++ List.replicate k 0) = match un (s.drop (2 * v)) with | some x => some (.inl ((m : Int), (pre ++ x).map bn)) | none => some (.inr ([], 4)) := by
  have L : (((List.replicate (IntKind.i64.wrap ((s.length : Int).tdiv 2)).toNat (0 : Nat)).length : Nat) : Int) = (m : Int) := by
    rw [List.length_replicate, Int.tdiv_eq_ediv_of_nonneg (Int.natCast_nonneg _), w_i64 (by omega) (by omega)]; omega
  induction k with
  | zero =>
    intro v pre hv hp
    rw [f_octet_Bytes_l12, if_neg (by rw [L]; simp; omega), List.drop_of_length_le (by omega)]
    simp only [un, List.append_nil, List.replicate_zero]
    rw [show v = m by omega]
  | succ k ih =>
    intro v pre hv hp
    have e1 : IntKind.i64.wrap (2 * (v : Int)) = ((2 * v : Nat) : Int) := by rw [w_i64 (by omega) (by omega)]; omega
    have e2 : IntKind.i64.wrap (((2 * v : Nat) : Int) + 1) = ((2 * v + 1 : Nat) : Int) := by rw [w_i64 (by omega) (by omega)]; omega
    have e3 : IntKind.i64.wrap ((v : Int) + 1) = ((v + 1 : Nat) : Int) := by rw [w_i64 (by omega) (by omega)]; omega
    rw [f_octet_Bytes_l12, if_pos (by rw [L]; simp; omega), e1, e2, e3, ix_lt s 0 _ (by omega), Option.bind_some, ib_ok, Option.bind_some, ix_lt s 0 _ (by omega), Option.bind_some, ib_ok, Option.bind_some, drop2 s v (by omega), un]
    generalize s.getD (2 * v) 0 = a
    generalize s.getD (2 * v + 1) 0 = b
    by_cases c : hx a < 16 ∧ hx b < 16
    · rw [if_pos c.1, if_pos c.2, if_neg (by simp), if_pos c, ix_nat, List.getElem?_append_right (by simp; omega)]
      rw [show (List.replicate (k + 1) (0 : Int))[v - (pre.map bn).length]? = some 0 by rw [List.length_map, hp, Nat.sub_self]; rfl, Option.bind_some, w8h a b c.1 c.2, Int.toNat_natCast, List.set_append_right _ _ (by simp; omega), List.length_map, hp, Nat.sub_self, List.replicate_succ, List.set_cons_zero]
      have := ih (v + 1) (pre ++ [UInt8.ofNat (16 * hx a + hx b)]) (by omega) (by simp; omega)
      rw [List.map_append, List.append_assoc] at this
      rw [show (pre.map bn ++ bn (UInt8.ofNat (16 * hx a + hx b)) :: List.replicate k 0) = pre.map bn ++ (List.map bn [UInt8.ofNat (16 * hx a + hx b)] ++ List.replicate k 0) from rfl, this]
      cases un (s.drop (2 * (v + 1))) <;> simp
    · rw [if_neg c, if_pos]
      by_cases d : hx a < 16
      · rw [if_neg (show ¬ hx b < 16 by omega)]; simp
      · rw [if_neg d]; simp
theorem octBytes_ok (s : Str) (hb : s.length ≤ 140737488355328) : f_octet_Bytes s = some (match un s with | some x => (x, 0) | none => ([], 4)) := by
  unfold f_octet_Bytes
  by_cases c : s.length % 2 = 0
  · obtain ⟨m, hm⟩ : ∃ m, s.length = 2 * m := ⟨s.length / 2, by omega⟩
    have t : (s.length : Int).tdiv 2 = (m : Int) := by rw [Int.tdiv_eq_ediv_of_nonneg (Int.natCast_nonneg _)]; omega
    have q := b12o s m hm (by omega) m 0 [] (by omega) rfl
    rw [if_neg (by rw [Int.tmod_eq_emod_of_nonneg (Int.natCast_nonneg _)]; simp; omega)]
    rw [t, w_i64 (n := (m : Int)) (by omega) (by omega), gd_t _ (by omega), List.length_replicate, Int.toNat_natCast, show ((((m : Int)) - 0).toNat + 1) = m + 1 by omega]
    rw [show ((0 : Nat) : Int) = 0 from rfl, List.map_nil, List.nil_append, show 2 * 0 = 0 from rfl, List.drop_zero] at q
    rw [q]
    cases un s with
    | none => rfl
    | some x => simp only [Option.bind_some, List.nil_append, nb_bn]
  · rw [if_pos (by rw [Int.tmod_eq_emod_of_nonneg (Int.natCast_nonneg _)]; simp; omega)]
    have : un s = none := by
      cases e : un s with
      | none => rfl
      | some x => have := un_len s.length s x (Nat.le_refl _) e; omega
    rw [this]
abbrev pfx : Str := [115, 104, 97, 50, 53, 54, 58]
def parseS (s : Str) : Str × Int := if s.take 7 = pfx then (match un (s.drop 7) with | some x => if x.length = 32 then (x, 0) else ([], 6) | none => ([], 6)) else ([], 6)
theorem cutp_ok (s : Str) (hb : s.length ≤ 140737488355328) : f_strings_CutPrefix s pfx = some (if s.take 7 = pfx then (s.drop 7, true) else (s, false)) := by
  have L : ((pfx.length : Nat) : Int) = 7 := rfl
  have hp : f_internal_stringslite_HasPrefix s pfx = some (decide (s.take 7 = pfx)) := by
    unfold f_internal_stringslite_HasPrefix
    rw [L]
    rw [gd_t _ (by intro h; have := of_decide_eq_true h; omega), show cut s 0 7 = s.take 7 from cut_zero s 7]
    congr 1
    by_cases c : s.take 7 = pfx
    · have : 7 ≤ s.length := by have := congrArg List.length c; rw [List.length_take] at this; simp at this; omega
      simp [c]; omega
    · simp [c]
  unfold f_strings_CutPrefix f_internal_stringslite_CutPrefix
  rw [hp, Option.bind_some]
  by_cases c : s.take 7 = pfx
  · have : 7 ≤ s.length := by have := congrArg List.length c; rw [List.length_take] at this; simp at this; omega
    rw [if_neg (by simp [c]), if_pos c, L, gd_t _ (by omega), show cut s 7 (s.length : Int) = s.drop 7 from cut_all s 7]; rfl
  · rw [if_pos (by simp [c]), if_neg c]; rfl
theorem parse_ok (s : Str) (hb : s.length ≤ 140737488355328) : f_digest_Parse s = some (parseS s) := by
  unfold f_digest_Parse
  rw [cutp_ok s hb, Option.bind_some]
  unfold parseS
  by_cases c : s.take 7 = pfx
  · rw [if_pos c, if_pos c, octBytes_ok _ (by rw [List.length_drop]; omega), Option.bind_some]
    cases un (s.drop 7) with
    | none => rfl
    | some x =>
      by_cases d : x.length = 32
      · simp [d]
      · have : ¬ (x.length : Int) = 32 := by omega
        simp [d, this]
  · rw [if_neg c, if_neg c, octBytes_ok _ hb, Option.bind_some, if_pos (by simp)]
end Go.Proofs.YtdcokepmblcdmaaDoor.V.M
end

section
/- The laws DigestParses and DigestBack. -/
namespace Go.Proofs.YtdcokepmblcdmaaDoor.V.M
set_option linter.unusedVariables false
set_option linter.unusedSimpArgs false
open Go Go.RowKit
theorem w8r (a b : UInt8) (ha : hx a < 16) (hb : hx b < 16) : IntKind.u8.wrap (IntKind.i64.wrap ((IntKind.i64.wrap (16 * (hx a : Int))) + (hx b : Int))) = bn (UInt8.ofNat (16 * hx a + hx b)) := by
  rw [Int.mul_comm]; exact w8h a b ha hb
def refParseS (s : Str) : Str × Bool := if s.length = 71 ∧ s.take 7 = pfx then (match un (s.drop 7) with | some x => (x, true) | none => ([], false)) else ([], false)
theorem parseS_cases (s : Str) : (∃ x, parseS s = (x, 0) ∧ x.length = 32 ∧ refParseS s = (x, true)) ∨ (parseS s = ([], 6) ∧ refParseS s = ([], false)) := by
  unfold parseS refParseS
  by_cases c : s.take 7 = pfx
  · have l7 : 7 ≤ s.length := by have := congrArg List.length c; rw [List.length_take] at this; simp at this; omega
    rw [if_pos c]
    cases e : un (s.drop 7) with
    | none => right; refine ⟨rfl, ?_⟩; split <;> rfl
    | some x =>
      have l := un_len _ _ _ (Nat.le_refl _) e
      rw [List.length_drop] at l
      by_cases d : x.length = 32
      · left; exact ⟨x, by simp [d], d, by rw [if_pos ⟨by omega, c⟩]⟩
      · right; refine ⟨by simp [d], ?_⟩; rw [if_neg (by omega)]
  · right; rw [if_neg c, if_neg (fun h => c h.2)]; exact ⟨rfl, rfl⟩
end Go.Proofs.YtdcokepmblcdmaaDoor.V.M
end

section
/- The law DigestBack. -/
namespace Go.Proofs.YtdcokepmblcdmaaDoor.V.M
set_option linter.unusedVariables false
set_option linter.unusedSimpArgs false
open Go Go.RowKit
theorem take_if {α : Type} (x : List α) (n : Nat) (c : Int) (hc : c = (n : Int)) : cut x 0 (if c < (x.length : Int) then c else (x.length : Int)) = x.take n ∧ (0 ≤ (if c < (x.length : Int) then c else (x.length : Int)) ∧ (if c < (x.length : Int) then c else (x.length : Int)) ≤ (x.length : Int)) := by
  subst hc
  by_cases c : n < x.length
  · rw [if_pos (by omega)]; exact ⟨cut_zero x n, by omega⟩
  · rw [if_neg (by omega)]; refine ⟨?_, by omega⟩; rw [cut_zero, List.take_of_length_le (Nat.le_refl _), List.take_of_length_le (by omega)]
theorem join_le (n m : Nat) : ∀ l : List Str, l.length ≤ n → (∀ x ∈ l, x.length ≤ m) → (Lib.join l []).length ≤ n * m := by
  have e : ∀ l : List Str, Lib.join l [] = l.flatten := by
    intro l
    cases l with
    | nil => rfl
    | cons x r =>
      rw [Lib.join_cons, List.flatten_cons]; congr 1
      induction r with
      | nil => rfl
      | cons y r ih => simp [Lib.joinTail] at *
  intro l hl hx
  rw [e]
  have : ∀ l : List Str, (∀ x ∈ l, x.length ≤ m) → l.flatten.length ≤ l.length * m := by
    intro l
    induction l with
    | nil => intro _; simp
    | cons x l ih =>
      intro h
      have a := h x List.mem_cons_self
      have b := ih (fun y hy => h y (List.mem_cons_of_mem _ hy))
      rw [List.flatten_cons, List.length_append, List.length_cons, Nat.add_mul]; omega
  exact Nat.le_trans (this l hx) (Nat.mul_le_mul_right _ hl)
theorem parse_of (s : Str) : parseS (ofS s) = (sumS s, 0) := by
  have l := sum_len s
  unfold parseS
  rw [show (ofS s).take 7 = pfx from rfl, if_pos rfl, show (ofS s).drop 7 = hexl (sumS s) from rfl, un_hexl]
  simp [l]
end Go.Proofs.YtdcokepmblcdmaaDoor.V.M
end

section
/- Names: what a part is, by both texts. -/
namespace Go.Proofs.YtdcokepmblcdmaaDoor.V.M
set_option linter.unusedVariables false
set_option linter.unusedSimpArgs false
open Go Go.RowKit
def sm (c : UInt8) : Bool := (decide (97 ≤ c.toNat) && decide (c.toNat ≤ 122)) || (decide (48 ≤ c.toNat) && decide (c.toNat ≤ 57))
theorem nsmall_ok (c : UInt8) : f_name_small (bn c) = some (sm c) := u8_all (P := fun c => f_name_small (bn c) = some (sm c)) (by kernel_rfl) c
theorem bn45 (c : UInt8) : (bn c == 45) = decide (c = 45) := u8_all (P := fun c => (bn c == 45) = decide (c = 45)) (by kernel_rfl) c
theorem bn46 (c : UInt8) : (bn c == 46) = decide (c = 46) := u8_all (P := fun c => (bn c == 46) = decide (c = 46)) (by kernel_rfl) c
theorem bn95 (c : UInt8) : (bn c == 95) = decide (c = 95) := u8_all (P := fun c => (bn c == 95) = decide (c = 95)) (by kernel_rfl) c
theorem bn47 (c : UInt8) : (bn c == 47) = decide (c = 47) := u8_all (P := fun c => (bn c == 47) = decide (c = 47)) (by kernel_rfl) c
theorem bn64 (c : UInt8) : (bn c == 64) = decide (c = 64) := u8_all (P := fun c => (bn c == 64) = decide (c = 64)) (by kernel_rfl) c
/-- The rest of a part behind the byte p, run bytes behind the last letter. -/
def partGo : Nat → UInt8 → Str → Bool
  | run, _, [] => run == 0
  | run, p, c :: l => if sm c then partGo 0 c l else if c = 45 then (if run ≠ 0 ∧ p ≠ 45 then false else partGo (run + 1) c l) else if c = 95 ∧ run = 1 ∧ p = 95 then partGo (run + 1) c l else if (c = 95 ∨ c = 46) ∧ run = 0 then partGo (run + 1) c l else false
def partS : Str → Bool
  | [] => false
  | c :: l => sm c && partGo 0 c l
theorem ix_app {α : Type} (pre : List α) (c : α) (l : List α) (n : Nat) (hn : n = pre.length) : ix (pre ++ c :: l) (n : Int) = some c := by subst hn; rw [ix_nat]; simp
theorem getD_app (pre : Str) (c : UInt8) (l : Str) (n : Nat) (hn : n = pre.length) : (pre ++ c :: l).getD n 0 = c := by subst hn; simp
theorem w_nat {n : Nat} (h : n < 9223372036854775808) : IntKind.i64.wrap (n : Int) = n := w_i64 (by omega) (by omega)
theorem w_s {n : Nat} (h : n + 1 < 9223372036854775808) : IntKind.i64.wrap ((n : Int) + 1) = ((n + 1 : Nat) : Int) := by rw [w_i64 (by omega) (by omega)]; rfl
theorem w_p {n : Nat} (h : n < 9223372036854775808) : IntKind.i64.wrap (((n + 1 : Nat) : Int) - 1) = (n : Int) := by rw [w_i64 (by omega) (by omega)]; omega
theorem l21_step (s pre l : Str) (p c : UInt8) (run m : Nat) (hs : s = pre ++ p :: c :: l) (hb : s.length < 4611686018427387904) (hr : run < 4611686018427387904) :
    f_name_part_l21 s (m + 1) run ((pre.length + 1 : Nat) : Int) = if sm c then f_name_part_l21 s m ((0 : Nat) : Int) ((pre.length + 1 + 1 : Nat) : Int) else if c = 45 then (if run ≠ 0 ∧ p ≠ 45 then some (.inr false) else f_name_part_l21 s m ((run + 1 : Nat) : Int) ((pre.length + 1 + 1 : Nat) : Int)) else if c = 95 ∧ run = 1 ∧ p = 95 then f_name_part_l21 s m ((run + 1 : Nat) : Int) ((pre.length + 1 + 1 : Nat) : Int) else if (c = 95 ∨ c = 46) ∧ run = 0 then f_name_part_l21 s m ((run + 1 : Nat) : Int) ((pre.length + 1 + 1 : Nat) : Int) else some (.inr false) := by
  have hl : s.length = pre.length + 2 + l.length := by rw [hs]; simp; omega
  rw [f_name_part_l21.eq_2, if_pos (by simp; omega)]
  have e1 : ix s ((pre.length + 1 : Nat) : Int) = some c := by rw [hs, show pre ++ p :: c :: l = (pre ++ [p]) ++ c :: l by simp]; exact ix_app _ _ _ _ (by simp)
  have e2 : s.getD pre.length 0 = p := by rw [hs]; exact getD_app _ _ _ _ rfl
  rw [e1, Option.bind_some, nsmall_ok, Option.bind_some, w_s (by omega), w_s (by omega), w_p (by omega), Int.toNat_natCast, e2, bn45, bn95, bn46, show (bn p != 45) = !(decide (p = 45)) by rw [bne, bn45], bn95]
  by_cases h1 : sm c = true
  · rw [if_pos h1, if_pos h1]; rfl
  · rw [if_neg h1, if_neg h1]
    by_cases h2 : c = 45
    · subst h2
      rw [if_pos rfl, if_pos (by decide), gd_t _ (fun _ => by omega)]
      by_cases h3 : run ≠ 0 ∧ p ≠ 45
      · rw [if_pos h3, if_pos (by simp [h3]; omega)]
      · rw [if_neg h3, if_neg (by simp at h3 ⊢; intro h; exact h3 (by omega)), if_neg (by simp; omega)]
    · rw [if_neg h2, if_neg (by simpa using h2), gd_t _ (fun _ => by omega)]
      have hz : (((pre.length + 1 : Nat) : Int) == 0) = false := by simp; omega
      by_cases h4 : c = 95 ∧ run = 1 ∧ p = 95
      · rw [if_pos h4]
        obtain ⟨rfl, rfl, rfl⟩ := h4
        simp [hz]; intro h; omega
      · rw [if_neg h4, if_neg (by simp at h4 ⊢; intro a b; exact h4 a (by omega))]
        by_cases h5 : (c = 95 ∨ c = 46) ∧ run = 0
        · rw [if_pos h5]
          obtain ⟨h5, rfl⟩ := h5
          rcases h5 with rfl | rfl
          · simp [hz]; intro h; omega
          · simp [hz]; intro h; omega
        · rw [if_neg h5]
          by_cases h6 : c = 95
          · rw [if_pos (by simpa using h6), if_pos (by simp; simp [h6] at h5; omega)]
          · rw [if_neg (by simpa using h6)]
            by_cases h7 : c = 46
            · rw [if_pos (by simpa using h7), if_pos (by simp; simp [h7] at h5; omega)]
            · rw [if_neg (by simpa using h7)]
theorem l21_ok (s : Str) (hb : s.length < 4611686018427387904) : ∀ (suf pre : Str) (p : UInt8) (run m : Nat), s = pre ++ p :: suf → run + suf.length ≤ s.length → suf.length < m →
    (partGo run p suf = false ∧ f_name_part_l21 s m run ((pre.length + 1 : Nat) : Int) = some (.inr false)) ∨ ∃ r : Nat, f_name_part_l21 s m run ((pre.length + 1 : Nat) : Int) = some (.inl ((r : Int), (s.length : Int))) ∧ partGo run p suf = (r == 0) := by
  intro suf
  induction suf with
  | nil =>
    intro pre p run m hs hr hm
    obtain ⟨m, rfl⟩ : ∃ k, m = k + 1 := ⟨m - 1, by omega⟩
    have hl : s.length = pre.length + 1 := by rw [hs]; simp
    refine .inr ⟨run, ?_, rfl⟩
    rw [f_name_part_l21.eq_2, if_neg (by simp; omega), hl]
  | cons c l ih =>
    intro pre p run m hs hr hm
    obtain ⟨m, rfl⟩ : ∃ k, m = k + 1 := ⟨m - 1, by omega⟩
    have hl : s.length = pre.length + 2 + l.length := by rw [hs]; simp; omega
    have hs2 : s = (pre ++ [p]) ++ c :: l := by rw [hs]; simp
    simp only [List.length_cons] at hr hm
    rw [l21_step s pre l p c run m hs hb (by omega), partGo]
    have key := fun (r : Nat) (h : r + l.length ≤ s.length) => ih (pre ++ [p]) c r m hs2 h (by omega)
    simp only [List.length_append, List.length_singleton] at key
    by_cases h1 : sm c = true
    · rw [if_pos h1, if_pos h1]; exact key 0 (by omega)
    · rw [if_neg h1, if_neg h1]
      by_cases h2 : c = 45
      · rw [if_pos h2, if_pos h2]
        by_cases h3 : run ≠ 0 ∧ p ≠ 45
        · rw [if_pos h3, if_pos h3]; exact .inl ⟨rfl, rfl⟩
        · rw [if_neg h3, if_neg h3]; exact key (run + 1) (by omega)
      · rw [if_neg h2, if_neg h2]
        by_cases h4 : c = 95 ∧ run = 1 ∧ p = 95
        · rw [if_pos h4, if_pos h4]; exact key (run + 1) (by omega)
        · rw [if_neg h4, if_neg h4]
          by_cases h5 : (c = 95 ∨ c = 46) ∧ run = 0
          · rw [if_pos h5, if_pos h5]; exact key (run + 1) (by omega)
          · rw [if_neg h5, if_neg h5]; exact .inl ⟨rfl, rfl⟩
theorem part_first (c : UInt8) (l : Str) (m : Nat) (hb : (c :: l).length < 4611686018427387904) : f_name_part_l21 (c :: l) (m + 1) 0 0 = if sm c then f_name_part_l21 (c :: l) m ((0 : Nat) : Int) ((0 + 1 : Nat) : Int) else some (.inr false) := by
  rw [f_name_part_l21.eq_2, if_pos (by simp), show ix (c :: l) 0 = some c from rfl, Option.bind_some, nsmall_ok, Option.bind_some]
  by_cases h1 : sm c = true
  · rw [if_pos h1, if_pos h1]; rfl
  · rw [if_neg h1, if_neg h1, show (decide ((0 : Int) > 0)) = false from rfl, show ((0 : Int) == 1) = false from rfl, show ((0 : Int) == 0) = true from rfl]
    simp only [Bool.and_false, Bool.false_and, if_true, Bool.false_eq_true, if_false]
    rw [gd_t _ (fun h => by cases h), gd_t _ (fun h => by cases h)]
    split
    · rfl
    · split
      · rfl
      · split <;> rfl
theorem part_ok (s : Str) (hb : s.length < 4611686018427387904) : f_name_part s = some (partS s) := by
  unfold f_name_part
  cases s with
  | nil => rfl
  | cons c l =>
    rw [show ((((c :: l).length : Int) : Int) - 0).toNat + 1 = (l.length + 1) + 1 by simp, part_first c l _ hb, partS]
    by_cases h1 : sm c = true
    · rw [if_pos h1, h1]
      rcases l21_ok (c :: l) hb l [] c 0 (l.length + 1) rfl (by simp) (by omega) with ⟨h2, h3⟩ | ⟨r, h2, h3⟩
      · simp only [List.length_nil] at h3
        rw [h3, Option.bind_some, h2]; rfl
      · simp only [List.length_nil] at h2
        rw [h2, Option.bind_some, h3]
        have : ((r : Int) == 0) = (r == 0) := by rw [Bool.eq_iff_iff]; simp
        simp [this]
    · rw [if_neg h1, Option.bind_some]
      have : sm c = false := by simpa using h1
      rw [this]; rfl
end Go.Proofs.YtdcokepmblcdmaaDoor.V.M
end

section
/- Names: the document's parts are the same. -/
namespace Go.Proofs.YtdcokepmblcdmaaDoor.V.M
set_option linter.unusedVariables false
set_option linter.unusedSimpArgs false
open Go Go.RowKit
def markS (m : Str) : Bool := m == [46] || m == [95] || m == [95, 95] || (m.all (· == 45) && m != [])
def refGo : Str → Str → Bool
  | _, [] => true
  | now, c :: l => if sm c then (if now ≠ [] ∧ markS now = false then false else refGo [] l) else refGo (now ++ [c]) l
/-- Whether the last byte of a text, that goes on behind a mark, is a letter. -/
def ends : Str → Str → Bool
  | now, [] => now == []
  | now, c :: l => ends (if sm c then [] else now ++ [c]) l
theorem ends_last : ∀ (l now : Str) (h : l ≠ []), ends now l = sm (l.getLast h)
  | [c], now, _ => by
    simp only [ends, List.getLast_singleton]
    by_cases h : sm c = true
    · rw [if_pos h, h]; rfl
    · rw [if_neg h]
      have : sm c = false := by simpa using h
      rw [this]; simp
  | c :: d :: l, now, _ => by
    rw [ends, ends_last (d :: l) _ (by simp)]; rfl
def V (now l : Str) : Bool := refGo now l && ends now l
theorem V_cons_s {now l : Str} {c : UInt8} (h : sm c = true) (hm : now = [] ∨ markS now = true) : V now (c :: l) = V [] l := by
  unfold V
  rw [refGo, if_pos h, if_neg (by rintro ⟨a, b⟩; rcases hm with hm | hm; exact a hm; rw [hm] at b; cases b), ends, if_pos h]
theorem V_cons_m {now l : Str} {c : UInt8} (h : ¬ sm c = true) : V now (c :: l) = V (now ++ [c]) l := by
  unfold V
  rw [refGo, if_neg h, ends, if_neg h]
theorem V_bad : ∀ (l now : Str), now ≠ [] → (∀ e, markS (now ++ e) = false) → V now l = false
  | [], now, h, _ => by simp [V, ends, h]
  | c :: l, now, h, hb => by
    by_cases h1 : sm c = true
    · unfold V; rw [refGo, if_pos h1, if_pos ⟨h, by simpa using hb []⟩]; rfl
    · rw [V_cons_m h1]
      exact V_bad l (now ++ [c]) (by simp) (fun e => by rw [List.append_assoc]; exact hb _)
def good (now : Str) : Prop := now = [] ∨ now = [46] ∨ now = [95] ∨ now = [95, 95] ∨ ∃ k, now = List.replicate (k + 1) 45
theorem sm_marks : sm 45 = false ∧ sm 46 = false ∧ sm 95 = false := by decide
theorem all45 (k : Nat) : (List.replicate k (45 : UInt8)).all (· == 45) = true := by simp
theorem rep_ne (k : Nat) (c : UInt8) (hc : c ≠ 45) (e : Str) : markS (List.replicate (k + 1) 45 ++ [c] ++ e) = false := by
  unfold markS
  rw [List.replicate_succ]
  simp [hc]
theorem part_eq : ∀ (l now : Str) (p : UInt8), good now → (∀ q, now.getLast? = some q → p = q) → (now = [] → sm p = true) → partGo now.length p l = V now l
  | [], now, p, _, _, _ => by
    rw [partGo, V, refGo, ends]; cases now <;> simp
  | c :: l, now, p, hg, hp, hs => by
    rw [partGo]
    by_cases h1 : sm c = true
    · rw [if_pos h1, V_cons_s h1]
      · exact part_eq l [] c (.inl rfl) (by simp) (fun _ => h1)
      · rcases hg with rfl | rfl | rfl | rfl | ⟨k, rfl⟩
        · exact .inl rfl
        · exact .inr rfl
        · exact .inr rfl
        · exact .inr rfl
        · right; unfold markS; rw [all45]; simp
    · rw [if_neg h1, V_cons_m h1]
      have go := fun (h : good (now ++ [c])) => part_eq l (now ++ [c]) c h (by simp) (by simp)
      simp only [List.length_append, List.length_singleton] at go
      have bad := fun (h : ∀ e, markS (now ++ [c] ++ e) = false) => (V_bad l (now ++ [c]) (by simp) h).symm
      rcases hg with rfl | rfl | rfl | rfl | ⟨k, rfl⟩
      · by_cases h2 : c = 45
        · rw [if_pos h2, if_neg (by simp)]; exact go (.inr (.inr (.inr (.inr ⟨0, by simp [h2]⟩))))
        · rw [if_neg h2, if_neg (by simp)]
          by_cases h3 : c = 95
          · rw [if_pos ⟨.inl h3, rfl⟩]; exact go (.inr (.inr (.inl (by simp [h3]))))
          · by_cases h4 : c = 46
            · rw [if_pos ⟨.inr h4, rfl⟩]; exact go (.inr (.inl (by simp [h4])))
            · rw [if_neg (by simp [h3, h4])]; exact bad (fun e => by simp [markS, h2, h3, h4])
      · obtain rfl := hp 46 rfl
        by_cases h2 : c = 45
        · rw [if_pos h2, if_pos (by decide)]; exact bad (fun e => by simp [markS])
        · rw [if_neg h2, if_neg (by simp), if_neg (by simp)]; exact bad (fun e => by simp [markS])
      · obtain rfl := hp 95 rfl
        by_cases h2 : c = 45
        · rw [if_pos h2, if_pos (by decide)]; exact bad (fun e => by simp [markS, h2])
        · rw [if_neg h2]
          by_cases h3 : c = 95
          · rw [if_pos ⟨h3, rfl, rfl⟩]; exact go (.inr (.inr (.inr (.inl (by simp [h3])))))
          · rw [if_neg (by simp [h3]), if_neg (by simp)]; exact bad (fun e => by simp [markS, h3])
      · obtain rfl := hp 95 rfl
        by_cases h2 : c = 45
        · rw [if_pos h2, if_pos (by decide)]; exact bad (fun e => by simp [markS])
        · rw [if_neg h2, if_neg (by simp), if_neg (by simp)]; exact bad (fun e => by simp [markS])
      · obtain rfl : p = 45 := hp 45 (by rw [List.getLast?_replicate]; simp)
        by_cases h2 : c = 45
        · rw [if_pos h2, if_neg (by simp)]
          exact go (.inr (.inr (.inr (.inr ⟨k + 1, by rw [h2]; exact (List.replicate_succ' ..).symm⟩))))
        · rw [if_neg h2, if_neg (by simp), if_neg (by simp)]; exact bad (fun e => rep_ne k c h2 e)
end Go.Proofs.YtdcokepmblcdmaaDoor.V.M
end

section
/- Names: repositories and tags, by both texts. -/
namespace Go.Proofs.YtdcokepmblcdmaaDoor.V.M
set_option linter.unusedVariables false
set_option linter.unusedSimpArgs false
open Go Go.RowKit
theorem splitOnB_len (c : UInt8) : ∀ (s : Str), (splitOnB c s).length ≤ s.length + 1 ∧ ∀ x ∈ splitOnB c s, x.length ≤ s.length
  | [] => ⟨by simp [splitOnB], by simp [splitOnB]⟩
  | x :: l => by
    obtain ⟨h1, h2⟩ := splitOnB_len c l
    unfold splitOnB
    by_cases h : x = c
    · rw [if_pos h]
      refine ⟨by simp; omega, fun y hy => ?_⟩
      rcases List.mem_cons.1 hy with rfl | hy
      · simp
      · have := h2 y hy; simp; omega
    · rw [if_neg h]
      split
      · rename_i y t e
        rw [e] at h1 h2
        simp only [List.length_cons] at h1
        refine ⟨by simp; omega, fun z hz => ?_⟩
        rcases List.mem_cons.1 hz with rfl | hz
        · have := h2 y (List.mem_cons_self ..); simp; omega
        · have := h2 z (List.mem_cons_of_mem _ hz); simp; omega
      · simp
/-- The pieces that come when now stands ahead of the first one. -/
def glue (now : Str) : List Str → List Str
  | [] => [now]
  | h :: t => (now ++ h) :: t
theorem glue_nil (c : UInt8) (s : Str) : glue [] (splitOnB c s) = splitOnB c s := by
  cases h : splitOnB c s with
  | nil => exact absurd h (splitOnB_ne c s)
  | cons x l => rfl
theorem glue_cons (c x : UInt8) (now l : Str) (h : x ≠ c) : glue now (splitOnB c (x :: l)) = glue (now ++ [x]) (splitOnB c l) := by
  rw [splitOnB, if_neg h]
  cases e : splitOnB c l with
  | nil => exact absurd e (splitOnB_ne c l)
  | cons y t => simp [glue]
theorem glue_hit (c : UInt8) (now l : Str) : glue now (splitOnB c (c :: l)) = now :: splitOnB c l := by
  rw [splitOnB, if_pos rfl]; simp [glue]
def repoS (s : Str) : Bool := decide (s.length ≤ 128) && (splitOnB 47 s).all partS
theorem allO_ok {α : Type} {f : α → Option Bool} {g : α → Bool} : ∀ (l : List α), (∀ x ∈ l, f x = some (g x)) → allO f l = some (l.all g)
  | [], _ => rfl
  | x :: l, h => by
    rw [allO, h x (List.mem_cons_self ..), Option.bind_some, List.all_cons]
    cases g x with
    | true => rw [if_pos rfl, allO_ok l (fun y hy => h y (List.mem_cons_of_mem _ hy))]; rfl
    | false => rfl
theorem repo_ok (s : Str) (hb : s.length < 1000000000000) : f_name_Repo s = some (repoS s) := by
  unfold f_name_Repo repoOf repoS
  by_cases h : 128 < s.length
  · rw [if_pos h]
    have : decide (s.length ≤ 128) = false := by simp; omega
    rw [this]; rfl
  · rw [if_neg h, allO_ok (g := partS) _ (fun x hx => part_ok x (by have := (splitOnB_len 47 s).2 x hx; omega))]
    have : decide (s.length ≤ 128) = true := by simp; omega
    rw [this]; rfl
/-- A byte of a tag; at its begin. -/
def tg (c : UInt8) : Bool := sm c || (decide (65 ≤ c.toNat) && decide (c.toNat ≤ 90)) || decide (c = 95)
def tgm (c : UInt8) : Bool := decide (c = 46) || decide (c = 45)
def tagS : Str → Bool
  | [] => false
  | c :: l => decide ((c :: l).length ≤ 128) && (tg c && l.all fun c => tg c || tgm c)
theorem tg_ok (c : UInt8) : ((sm c || ((decide ((bn c) ≥ 65)) && (decide ((bn c) ≤ 90)))) || ((bn c) == 95)) = tg c := u8_all (P := fun c => ((sm c || ((decide ((bn c) ≥ 65)) && (decide ((bn c) ≤ 90)))) || ((bn c) == 95)) = tg c) (by kernel_rfl) c
theorem tgm_ok (c : UInt8) : (((bn c) == 46) || ((bn c) == 45)) = tgm c := u8_all (P := fun c => (((bn c) == 46) || ((bn c) == 45)) = tgm c) (by kernel_rfl) c
theorem tag8_ok (s : Str) (hb : s.length < 4611686018427387904) : ∀ (suf pre : Str) (m : Nat), s = pre ++ suf → 0 < pre.length → suf.length < m → f_name_Tag_l8 s m (pre.length : Int) = some (if suf.all (fun c => tg c || tgm c) then .inl (s.length : Int) else .inr false) := by
  intro suf
  induction suf with
  | nil =>
    intro pre m hs h0 hm
    obtain ⟨m, rfl⟩ : ∃ k, m = k + 1 := ⟨m - 1, by omega⟩
    have hl : s.length = pre.length := by rw [hs]; simp
    rw [f_name_Tag_l8.eq_2, if_neg (by simp; omega), hl]; rfl
  | cons c l ih =>
    intro pre m hs h0 hm
    obtain ⟨m, rfl⟩ : ∃ k, m = k + 1 := ⟨m - 1, by omega⟩
    have hl : s.length = pre.length + 1 + l.length := by rw [hs]; simp; omega
    simp only [List.length_cons] at hm
    rw [f_name_Tag_l8.eq_2, if_pos (by simp; omega), show ix s (pre.length : Int) = some c by rw [hs]; exact ix_app _ _ _ _ rfl, Option.bind_some, nsmall_ok, Option.bind_some, w_s (by omega), tg_ok, tgm_ok, show decide ((pre.length : Int) > 0) = true by simp; omega, Bool.true_and, List.all_cons]
    by_cases h : (tg c || tgm c) = true
    · rw [if_pos h]
      have := ih (pre ++ [c]) m (by rw [hs]; simp) (by simp) (by omega)
      simp only [List.length_append, List.length_singleton] at this
      rw [this, h]; rfl
    · rw [if_neg h]
      have : (tg c || tgm c) = false := by simpa using h
      rw [this]; rfl
theorem tag_ok (s : Str) (hb : s.length < 4611686018427387904) : f_name_Tag s = some (tagS s) := by
  unfold f_name_Tag
  cases s with
  | nil => rfl
  | cons c l =>
    rw [show ((((c :: l).length : Int) : Int) - 0).toNat + 1 = (l.length + 1) + 1 by simp, f_name_Tag_l8.eq_2, if_pos (by simp), show ix (c :: l) 0 = some c from rfl, Option.bind_some, nsmall_ok, Option.bind_some, tg_ok, tgm_ok, show decide ((0 : Int) > 0) = false from rfl, Bool.false_and, Bool.or_false, show IntKind.i64.wrap ((0 : Int) + 1) = (([c] : Str).length : Int) from rfl, tag8_ok (c :: l) hb l [c] _ rfl (by simp) (by omega), tagS]
    have e : decide (((c :: l).length : Int) ≤ 128) = decide ((c :: l).length ≤ 128) := by rw [decide_eq_decide]; omega
    by_cases h1 : tg c = true
    · rw [if_pos h1, Option.bind_some, h1, e]
      by_cases h2 : l.all (fun c => tg c || tgm c) = true
      · rw [if_pos h2, h2]; simp
      · rw [if_neg h2]
        have : l.all (fun c => tg c || tgm c) = false := by simpa using h2
        rw [this]; simp
    · rw [if_neg h1, Option.bind_some]
      have : tg c = false := by simpa using h1
      rw [this]; simp
theorem rtg_ok (c : UInt8) : (((((!sm c) && ((decide ((bn c) < 65)) || (decide ((bn c) > 90)))) && ((bn c) != 95)) && ((bn c) != 46)) && ((bn c) != 45)) = !(tg c || tgm c) := u8_all (P := fun c => (((((!sm c) && ((decide ((bn c) < 65)) || (decide ((bn c) > 90)))) && ((bn c) != 95)) && ((bn c) != 46)) && ((bn c) != 45)) = !(tg c || tgm c)) (by kernel_rfl) c
theorem tg_first (c : UInt8) : (((bn c) != 46) && ((bn c) != 45) && (tg c || tgm c)) = tg c := u8_all (P := fun c => (((bn c) != 46) && ((bn c) != 45) && (tg c || tgm c)) = tg c) (by kernel_rfl) c
end Go.Proofs.YtdcokepmblcdmaaDoor.V.M
end

section
/- Names: references, by both texts. -/
namespace Go.Proofs.YtdcokepmblcdmaaDoor.V.M
set_option linter.unusedVariables false
set_option linter.unusedSimpArgs false
open Go Go.RowKit
theorem gx_some {α : Type} (g : Bool) (x d : α) : gx g (some x) d = some (if g then x else d) := by cases g <;> rfl
theorem nshort_ok (s : Str) : f_law03_short s = some (s.take 220) := by
  obtain ⟨h1, h2⟩ := take_if s 220 220 rfl
  unfold f_law03_short
  rw [gd_t _ h2, h1]
theorem nalive_ok : f_law03_alive = some true := by kernel_rfl
def dig2 (d : Str) : Bool := (parseS d).2 == 0
theorem dig2_nil : dig2 [] = false := by decide
theorem refParse2 (s : Str) : (refParseS s).2 = dig2 s := by
  unfold dig2
  rcases parseS_cases s with ⟨x, h1, _, h2⟩ | ⟨h1, h2⟩ <;> (rw [h1, h2]; rfl)
def printS (r : api_Ref) : Str × Int := if repoS r.Repo = false then ([], 1) else if r.Digest = [] ∧ tagS r.Tag = true then (r.Repo ++ [58] ++ r.Tag, 0) else if r.Tag = [] ∧ dig2 r.Digest = true then (r.Repo ++ [64] ++ r.Digest, 0) else ([], 1)
def small3 (r : api_Ref) : Prop := r.Repo.length < 1000000000000 ∧ r.Tag.length < 1000000000000 ∧ r.Digest.length < 1000000000000
theorem print_ok (r : api_Ref) (h : small3 r) : f_name_Print r = some (printS r) := by
  obtain ⟨h1, h2, h3⟩ := h
  unfold f_name_Print printS
  have g1 : ∀ k : Option (Str × Int), gd (r.Repo.length + 1 ≤ 9223372036854775807) k = k := fun k => gd_t k (by omega)
  have g2 : ∀ k : Option (Str × Int), gd ((r.Repo ++ ([58] : Str)).length + r.Tag.length ≤ 9223372036854775807) k = k := fun k => gd_t k (by simp; omega)
  have g3 : ∀ k : Option (Str × Int), gd ((r.Repo ++ ([64] : Str)).length + r.Digest.length ≤ 9223372036854775807) k = k := fun k => gd_t k (by simp; omega)
  rw [parse_ok _ (by omega), Option.bind_some, repo_ok _ h1, Option.bind_some, tag_ok _ (by omega), gx_some, Option.bind_some, g1, g2, g1, g3]
  unfold dig2
  by_cases hr : repoS r.Repo = true
  · by_cases hd : r.Digest = []
    · by_cases ht : tagS r.Tag = true
      · simp [hr, hd, ht]
      · have : (parseS []).2 = 6 := by decide
        simp [hr, hd, ht, this]
    · by_cases ht : r.Tag = []
      · by_cases hp : (parseS r.Digest).2 = 0
        · simp [hr, hd, ht, hp]
        · simp [hr, hd, ht, hp]
      · simp [hr, hd, ht]
  · simp [hr]
def cutS (c : UInt8) : Str → Str × Str × Bool
  | [] => ([], [], false)
  | x :: l => if x = c then ([], l, true) else (x :: (cutS c l).1, (cutS c l).2.1, (cutS c l).2.2)
theorem cutS_eq (c : UInt8) : ∀ (s : Str), (Lib.indexByte s c < 0 ∧ cutS c s = (s, [], false)) ∨ ∃ i : Nat, Lib.indexByte s c = i ∧ i < s.length ∧ cutS c s = (s.take i, s.drop (i + 1), true)
  | [] => .inl ⟨by unfold Lib.indexByte; decide, rfl⟩
  | x :: l => by
    unfold Lib.indexByte
    by_cases h : x = c
    · subst h
      exact .inr ⟨0, by simp, by simp, by simp [cutS]⟩
    · rw [if_neg (by simpa using h), cutS, if_neg h]
      have g := Lib.indexByte_ge l c
      rcases cutS_eq c l with ⟨h1, h2⟩ | ⟨i, h1, h2, h3⟩
      · have : Lib.indexByte l c = -1 := by omega
        rw [this, h2]; exact .inl ⟨by decide, rfl⟩
      · rw [if_neg (by rw [h1]; simp), h3, h1]
        exact .inr ⟨i + 1, by omega, by simp; omega, by simp⟩
theorem cut_ok (c : UInt8) (s : Str) (hb : s.length < 4611686018427387904) : f_strings_Cut s [c] = some (cutS c s) := by
  unfold f_strings_Cut f_internal_stringslite_Cut
  rw [show f_internal_stringslite_Index s [c] = some (Lib.indexByte s c) from rfl, Option.bind_some]
  rcases cutS_eq c s with ⟨h1, h2⟩ | ⟨i, h1, h2, h3⟩
  · rw [if_neg (by simpa using h1), Option.bind_some, h2]
  · have hw : IntKind.i64.wrap ((i : Int) + (([c] : Str).length : Int)) = ((i + 1 : Nat) : Int) := w_s (by omega)
    rw [h1, if_pos (by simp), hw, gd_t _ (by omega), gd_t _ (by omega), cut_zero, cut_all, Option.bind_some, h3]
theorem cutS_true {c : UInt8} : ∀ {s : Str}, (cutS c s).2.2 = true → s = (cutS c s).1 ++ c :: (cutS c s).2.1 ∧ c ∉ (cutS c s).1
  | [], h => by cases h
  | x :: l, h => by
    rw [cutS] at h ⊢
    by_cases hx : x = c
    · rw [if_pos hx]; simp [hx]
    · rw [if_neg hx] at h ⊢
      obtain ⟨h1, h2⟩ := cutS_true (s := l) h
      refine ⟨by dsimp only; rw [List.cons_append, ← h1], by simp only [List.mem_cons, not_or]; exact ⟨fun e => hx e.symm, h2⟩⟩
theorem cutS_false {c : UInt8} : ∀ {s : Str}, (cutS c s).2.2 = false → c ∉ s ∧ (cutS c s).1 = s ∧ (cutS c s).2.1 = []
  | [], _ => by simp [cutS]
  | x :: l, h => by
    rw [cutS] at h ⊢
    by_cases hx : x = c
    · rw [if_pos hx] at h; cases h
    · rw [if_neg hx] at h ⊢
      obtain ⟨h1, h2, h3⟩ := cutS_false (s := l) h
      exact ⟨by simp only [List.mem_cons, not_or]; exact ⟨fun e => hx e.symm, h1⟩, by dsimp only; rw [h2], h3⟩
theorem cutS_mem {c : UInt8} {s : Str} (h : c ∈ s) : (cutS c s).2.2 = true := by
  cases e : (cutS c s).2.2 with
  | true => rfl
  | false => exact absurd h (cutS_false e).1
theorem cutS_app {c : UInt8} : ∀ {a : Str} (b : Str), c ∉ a → cutS c (a ++ c :: b) = (a, b, true)
  | [], b, _ => by simp [cutS]
  | x :: a, b, h => by
    simp only [List.mem_cons, not_or] at h
    rw [List.cons_append, cutS, if_neg (fun e => h.1 e.symm), cutS_app b h.2]
theorem cutS_no {c : UInt8} {s : Str} (h : c ∉ s) : cutS c s = (s, [], false) := by
  cases e : (cutS c s).2.2 with
  | true => have := cutS_true e; exact absurd (by rw [this.1]; simp) h
  | false =>
    obtain ⟨_, h2, h3⟩ := cutS_false e
    exact Prod.ext h2 (Prod.ext h3 e)
/-- What a text's reference is. -/
def parseR (s : Str) : Option api_Ref :=
  if (cutS 64 s).2.2 = true then (if repoS (cutS 64 s).1 = true ∧ dig2 (cutS 64 s).2.1 = true then some (api_Ref.mk (cutS 64 s).1 [] (cutS 64 s).2.1) else none)
  else if repoS (cutS 58 s).1 = true ∧ tagS (cutS 58 s).2.1 = true then some (api_Ref.mk (cutS 58 s).1 (cutS 58 s).2.1 []) else none
def parsed (o : Option api_Ref) : api_Ref × Int := match o with
  | some r => (r, 0)
  | none => (api_Ref.mk [] [] [], 5)
theorem cutS_len (c : UInt8) (s : Str) : (cutS c s).1.length ≤ s.length ∧ (cutS c s).2.1.length ≤ s.length := by
  cases e : (cutS c s).2.2 with
  | true =>
    have := congrArg List.length (cutS_true e).1
    simp only [List.length_append, List.length_cons] at this
    omega
  | false =>
    obtain ⟨_, h2, h3⟩ := cutS_false e
    rw [h2, h3]; simp
theorem tag_nil : tagS [] = false := rfl
theorem nparse_ok (s : Str) (hb : s.length < 1000000000000) : f_name_Parse s = some (parsed (parseR s)) := by
  unfold f_name_Parse
  have l64 := cutS_len 64 s
  have l58 := cutS_len 58 s
  rw [cut_ok 64 s (by omega), Option.bind_some]
  by_cases h : (cutS 64 s).2.2 = true
  · obtain ⟨h1, h2⟩ := cutS_true h
    rw [if_pos h, Option.bind_some, print_ok _ ⟨by dsimp only; omega, by simp, by dsimp only; omega⟩, Option.bind_some, parseR, if_pos h]
    unfold printS
    dsimp only
    generalize (cutS 64 s).1 = a at *
    generalize (cutS 64 s).2.1 = b at *
    by_cases hr : repoS a = true
    · by_cases hd : dig2 b = true
      · have : a ++ [64] ++ b = s := by rw [h1]; simp
        simp [hr, hd, tag_nil, parsed, h1]
      · simp [hr, hd, tag_nil, parsed]
    · simp [hr, parsed]
  · rw [if_neg h, cut_ok 58 s (by omega), Option.bind_some, Option.bind_some, print_ok _ ⟨by dsimp only; omega, by dsimp only; omega, by simp⟩, Option.bind_some, parseR, if_neg h]
    unfold printS
    dsimp only
    have hc : tagS (cutS 58 s).2.1 = true → s = (cutS 58 s).1 ++ 58 :: (cutS 58 s).2.1 := by
      intro ht
      cases e : (cutS 58 s).2.2 with
      | true => exact (cutS_true e).1
      | false => rw [(cutS_false e).2.2, tag_nil] at ht; cases ht
    generalize (cutS 58 s).1 = a at *
    generalize (cutS 58 s).2.1 = b at *
    by_cases hr : repoS a = true
    · by_cases ht : tagS b = true
      · simp [hr, ht, parsed, hc ht]
      · simp [hr, ht, dig2_nil, parsed]
    · simp [hr, parsed]
/-- The bytes of a name. -/
def nb8 (c : UInt8) : Bool := sm c || c == 45 || c == 95 || c == 46
theorem partGo_mem : ∀ (l : Str) (run : Nat) (p : UInt8), partGo run p l = true → ∀ c ∈ l, nb8 c = true
  | [], _, _, _, c, h => by cases h
  | x :: l, run, p, h, c, hc => by
    rw [partGo] at h
    have go : ∀ (q : Bool) (r : Nat), (if q = true then partGo r x l else false) = true → nb8 x = true → nb8 c = true := by
      intro q r h1 h2
      rcases List.mem_cons.1 hc with rfl | hc
      · exact h2
      · cases q with
        | true => rw [if_pos rfl] at h1; exact partGo_mem l _ _ h1 c hc
        | false => cases h1
    by_cases h1 : sm x = true
    · rw [if_pos h1] at h; exact go true 0 h (by simp [nb8, h1])
    · rw [if_neg h1] at h
      by_cases h2 : x = 45
      · rw [if_pos h2] at h
        by_cases h3 : run ≠ 0 ∧ p ≠ 45
        · rw [if_pos h3] at h; cases h
        · rw [if_neg h3] at h; exact go true _ h (by simp [nb8, h2])
      · rw [if_neg h2] at h
        by_cases h4 : x = 95 ∧ run = 1 ∧ p = 95
        · rw [if_pos h4] at h; exact go true _ h (by simp [nb8, h4.1])
        · rw [if_neg h4] at h
          by_cases h5 : (x = 95 ∨ x = 46) ∧ run = 0
          · rw [if_pos h5] at h
            refine go true _ h ?_
            rcases h5.1 with e | e <;> simp [nb8, e]
          · rw [if_neg h5] at h; cases h
theorem part_mem {s : Str} (h : partS s = true) : ∀ c ∈ s, nb8 c = true := by
  cases s with
  | nil => cases h
  | cons x l =>
    rw [partS, Bool.and_eq_true] at h
    intro c hc
    rcases List.mem_cons.1 hc with rfl | hc
    · simp [nb8, h.1]
    · exact partGo_mem l _ _ h.2 c hc
theorem split_mem (b : UInt8) : ∀ (s : Str) (c : UInt8), c ∈ s → c = b ∨ ∃ x ∈ splitOnB b s, c ∈ x
  | [], c, h => by cases h
  | x :: l, c, h => by
    rw [splitOnB]
    by_cases hx : x = b
    · rw [if_pos hx]
      rcases List.mem_cons.1 h with rfl | h
      · exact .inl hx
      · rcases split_mem b l c h with e | ⟨y, hy, hc⟩
        · exact .inl e
        · exact .inr ⟨y, List.mem_cons_of_mem _ hy, hc⟩
    · rw [if_neg hx]
      cases e : splitOnB b l with
      | nil => exact absurd e (splitOnB_ne b l)
      | cons y t =>
        dsimp only
        rcases List.mem_cons.1 h with rfl | h
        · exact .inr ⟨c :: y, List.mem_cons_self .., List.mem_cons_self ..⟩
        · rcases split_mem b l c h with e1 | ⟨z, hz, hc⟩
          · exact .inl e1
          · rw [e] at hz
            rcases List.mem_cons.1 hz with rfl | hz
            · exact .inr ⟨x :: z, List.mem_cons_self .., List.mem_cons_of_mem _ hc⟩
            · exact .inr ⟨z, List.mem_cons_of_mem _ hz, hc⟩
theorem repo_mem {s : Str} (h : repoS s = true) (c : UInt8) (hc : c ∈ s) : (c == 47 || nb8 c) = true := by
  unfold repoS at h
  rw [Bool.and_eq_true] at h
  rcases split_mem 47 s c hc with rfl | ⟨x, hx, hcx⟩
  · rfl
  · have := part_mem (List.all_eq_true.1 h.2 x hx) c hcx
    rw [this]; simp
theorem repo_clean {s : Str} (h : repoS s = true) : 58 ∉ s ∧ 64 ∉ s := ⟨fun hc => absurd (repo_mem h 58 hc) (by decide), fun hc => absurd (repo_mem h 64 hc) (by decide)⟩
theorem tag_clean {s : Str} (h : tagS s = true) : 58 ∉ s ∧ 64 ∉ s := by
  cases s with
  | nil => cases h
  | cons x l =>
    rw [tagS, Bool.and_eq_true, Bool.and_eq_true] at h
    have key : ∀ c ∈ x :: l, (tg c || tgm c) = true := by
      intro c hc
      rcases List.mem_cons.1 hc with rfl | hc
      · rw [h.2.1]; rfl
      · exact List.all_eq_true.1 h.2.2 c hc
    exact ⟨fun hc => absurd (key 58 hc) (by decide), fun hc => absurd (key 64 hc) (by decide)⟩
end Go.Proofs.YtdcokepmblcdmaaDoor.V.M
end

section
/- Names: the laws NameMay, NameParses, NameBack, NameParts, NameMarks. -/
namespace Go.Proofs.YtdcokepmblcdmaaDoor.V.M
set_option linter.unusedVariables false
set_option linter.unusedSimpArgs false
open Go Go.RowKit
def refFind : Str → Str → Option api_Ref
  | _, [] => none
  | pre, c :: l => if c = 64 ∧ repoS pre = true ∧ dig2 l = true then some (api_Ref.mk pre [] l) else if c = 58 ∧ repoS pre = true ∧ tagS l = true then some (api_Ref.mk pre l []) else refFind (pre ++ [c]) l
theorem refFind_bad : ∀ (l pre : Str), repoS pre = false → (58 ∈ pre ∨ 64 ∈ pre) → refFind pre l = none
  | [], _, _, _ => rfl
  | c :: l, pre, h, hm => by
    rw [refFind, if_neg (by simp [h]), if_neg (by simp [h])]
    have hm2 : 58 ∈ pre ++ [c] ∨ 64 ∈ pre ++ [c] := hm.imp (fun h => List.mem_append_left _ h) (fun h => List.mem_append_left _ h)
    refine refFind_bad l (pre ++ [c]) ?_ hm2
    cases e : repoS (pre ++ [c]) with
    | false => rfl
    | true => rcases hm2 with h | h; exact absurd h (repo_clean e).1; exact absurd h (repo_clean e).2
theorem bad_of {pre : Str} (hm : 58 ∈ pre ∨ 64 ∈ pre) : repoS pre = false := by
  cases e : repoS pre with
  | false => rfl
  | true => rcases hm with h | h; exact absurd h (repo_clean e).1; exact absurd h (repo_clean e).2
def parseR2 (pre s : Str) : Option api_Ref :=
  if (cutS 64 s).2.2 = true then (if repoS (pre ++ (cutS 64 s).1) = true ∧ dig2 (cutS 64 s).2.1 = true then some (api_Ref.mk (pre ++ (cutS 64 s).1) [] (cutS 64 s).2.1) else none)
  else if repoS (pre ++ (cutS 58 s).1) = true ∧ tagS (cutS 58 s).2.1 = true then some (api_Ref.mk (pre ++ (cutS 58 s).1) (cutS 58 s).2.1 []) else none
theorem find_eq : ∀ (l pre : Str), refFind pre l = parseR2 pre l
  | [], pre => by simp [refFind, parseR2, cutS, tag_nil]
  | c :: l, pre => by
    rw [refFind]
    by_cases h1 : c = 64
    · subst h1
      rw [parseR2, show cutS 64 (64 :: l) = ([], l, true) by rw [cutS, if_pos rfl], if_pos rfl]
      dsimp only
      rw [List.append_nil, if_neg (show ¬ ((64 : UInt8) = 58 ∧ repoS pre = true ∧ tagS l = true) by simp), refFind_bad l (pre ++ [64]) (bad_of (.inr (by simp))) (.inr (by simp))]
      simp
    · rw [if_neg (by simp [h1])]
      have e64 : cutS 64 (c :: l) = (c :: (cutS 64 l).1, (cutS 64 l).2.1, (cutS 64 l).2.2) := by rw [cutS, if_neg h1]
      by_cases h2 : c = 58
      · subst h2
        have e58 : cutS 58 (58 :: l) = ([], l, true) := by rw [cutS, if_pos rfl]
        rw [refFind_bad l (pre ++ [58]) (bad_of (.inl (by simp))) (.inl (by simp)), parseR2, e64, e58]
        dsimp only
        rw [List.append_nil]
        by_cases ht : tagS l = true
        · rw [cutS_no (tag_clean ht).2]; simp [ht]
        · rw [if_neg (by simp [ht]), if_neg (show ¬ (repoS pre = true ∧ tagS l = true) by simp [ht]), bad_of (pre := pre ++ 58 :: (cutS 64 l).1) (.inl (by simp))]
          simp
      · rw [if_neg (by simp [h2]), find_eq l (pre ++ [c]), parseR2, parseR2, e64, show cutS 58 (c :: l) = (c :: (cutS 58 l).1, (cutS 58 l).2.1, (cutS 58 l).2.2) by rw [cutS, if_neg h2]]
        simp only [List.append_assoc, List.singleton_append]
theorem take_lt (s : Str) : (s.take 220).length < 1000000000000 := by rw [List.length_take]; omega
/-- What is printed of a reference that may be is parsed to it. -/
theorem parse_print (r : api_Ref) (h : (printS r).2 = 0) : parseR (printS r).1 = some r := by
  unfold printS at h ⊢
  obtain ⟨a, b, d⟩ := r
  dsimp only at h ⊢
  by_cases hr : repoS a = true
  · rw [if_neg (by simp [hr])] at h ⊢
    obtain ⟨c58, c64⟩ := repo_clean hr
    by_cases h1 : d = [] ∧ tagS b = true
    · rw [if_pos h1]
      obtain ⟨rfl, ht⟩ := h1
      dsimp only
      obtain ⟨t58, t64⟩ := tag_clean ht
      rw [parseR, List.append_assoc, List.singleton_append, cutS_no (c := 64) (by simp [c64, t64]), cutS_app b c58]
      simp [hr, ht]
    · rw [if_neg h1] at h ⊢
      by_cases h2 : b = [] ∧ dig2 d = true
      · rw [if_pos h2]
        obtain ⟨rfl, hd⟩ := h2
        dsimp only
        rw [parseR, List.append_assoc, List.singleton_append, cutS_app d c64]
        simp [hr, hd]
      · rw [if_neg h2] at h; cases h
  · rw [if_pos (by simpa using hr)] at h; cases h
theorem parse_right {s : Str} {r : api_Ref} (h : parseR s = some r) : printS r = (s, 0) ∧ r.Repo.length ≤ s.length ∧ r.Tag.length ≤ s.length ∧ r.Digest.length ≤ s.length := by
  unfold parseR at h
  have l64 := cutS_len 64 s
  have l58 := cutS_len 58 s
  by_cases h1 : (cutS 64 s).2.2 = true
  · rw [if_pos h1] at h
    split at h
    · rename_i h2
      cases h
      have e := (cutS_true h1).1
      refine ⟨?_, by dsimp only; omega, by simp, by dsimp only; omega⟩
      unfold printS
      dsimp only
      rw [if_neg (by simp [h2.1]), if_neg (by simp [tag_nil]), if_pos ⟨rfl, h2.2⟩, List.append_assoc, List.singleton_append, ← e]
    · cases h
  · rw [if_neg h1] at h
    split at h
    · rename_i h2
      cases h
      have hc : (cutS 58 s).2.2 = true := by
        cases e : (cutS 58 s).2.2 with
        | true => rfl
        | false => rw [(cutS_false e).2.2, tag_nil] at h2; exact absurd h2.2 (by decide)
      refine ⟨?_, by dsimp only; omega, by dsimp only; omega, by simp⟩
      unfold printS
      dsimp only
      rw [if_neg (by simp [h2.1]), if_pos ⟨rfl, h2.2⟩, List.append_assoc, List.singleton_append, ← (cutS_true hc).1]
    · cases h
theorem print_len (r : api_Ref) : (printS r).1.length ≤ r.Repo.length + r.Tag.length + r.Digest.length + 1 := by
  unfold printS
  split
  · simp
  · split
    · simp; omega
    · split
      · simp; omega
      · simp
theorem split_app (c : UInt8) : ∀ (a b : Str), splitOnB c (a ++ c :: b) = splitOnB c a ++ splitOnB c b
  | [], b => by
    have : splitOnB c (c :: b) = [] :: splitOnB c b := by rw [splitOnB.eq_2, if_pos rfl]
    rw [List.nil_append, this]; rfl
  | x :: a, b => by
    rw [List.cons_append, splitOnB, splitOnB]
    by_cases h : x = c
    · rw [if_pos h, if_pos h, split_app c a b]; rfl
    · rw [if_neg h, if_neg h, split_app c a b]
      cases e : splitOnB c a with
      | nil => exact absurd e (splitOnB_ne c a)
      | cons y t => rfl
end Go.Proofs.YtdcokepmblcdmaaDoor.V.M
end

section
/- Names: the laws NameMarks and NameRefs. -/
namespace Go.Proofs.YtdcokepmblcdmaaDoor.V.M
set_option linter.unusedVariables false
set_option linter.unusedSimpArgs false
open Go Go.RowKit
theorem tm_range (a c : Int) (n : Nat) (hn : c = (n : Int)) (h0 : 0 < n) (hx : n < 1000000) : ∃ k : Nat, k < n ∧ (IntKind.i64.wrap ((a.tmod c) + c)).tmod c = (k : Int) := by
  subst hn
  have h1 := Int.lt_tmod_of_pos a (b := (n : Int)) (by omega)
  have h2 := Int.tmod_lt_of_pos a (b := (n : Int)) (by omega)
  have h3 : 0 ≤ a.tmod n + n := by omega
  have h4 := Int.emod_nonneg (a.tmod n + n) (show (n : Int) ≠ 0 by omega)
  have h5 := Int.emod_lt_of_pos (a.tmod n + n) (show 0 < (n : Int) by omega)
  rw [w_i64 (by omega) (by omega), Int.tmod_eq_emod_of_nonneg h3]
  exact ⟨((a.tmod n + n) % n).toNat, by omega, by omega⟩
def mk4 : List Str := [([46] : Str), ([95] : Str), ([95, 95] : Str), ([45] : Str)]
def marksB (x y d : Str) : Bool := repoS (([97] ++ x) ++ [98, 49]) && repoS (([97] ++ d) ++ [98, 49]) && (repoS (([97] ++ (x ++ y)) ++ [98, 49]) == ((x ++ y) == [95, 95] || (x ++ y) == [45, 45])) && !repoS (x ++ [98, 49]) && !repoS ([97] ++ x) && repoS (((([97] ++ x) ++ [98, 49]) ++ y) ++ [97])
theorem marks_all : (mk4.all fun x => mk4.all fun y => (List.range 6).all fun n => marksB x y (List.replicate (n + 1) 45)) = true := by kernel_rfl
theorem mk4_len : ∀ x ∈ mk4, x.length ≤ 2 := by decide
theorem dig2_len {d : Str} (h : dig2 d = true) : d.length = 71 := by
  unfold dig2 at h
  rcases parseS_cases d with ⟨x, h1, _, h2⟩ | ⟨h1, h2⟩
  · unfold refParseS at h2
    split at h2
    · rename_i c; exact c.1
    · cases h2
  · rw [h1] at h; cases h
theorem ofS_len (t : Str) : (ofS t).length = 71 := by unfold ofS; rw [List.length_append, hexl_length, sum_len]; rfl
theorem ofS_dig (t : Str) : dig2 (ofS t) = true := by unfold dig2; rw [parse_of]; rfl
theorem nameRefs_true (repo tag data : Str) : f_law03_NameRefs repo tag data = some true := by
  unfold f_law03_NameRefs
  rw [nshort_ok, Option.bind_some, nshort_ok, Option.bind_some, nshort_ok, Option.bind_some]
  have l1 : (repo.take 220).length ≤ 220 := by rw [List.length_take]; omega
  have l2 : (tag.take 220).length ≤ 220 := by rw [List.length_take]; omega
  have l3 : (data.take 220).length ≤ 220 := by rw [List.length_take]; omega
  generalize repo.take 220 = a at *
  generalize tag.take 220 = b at *
  generalize data.take 220 = t at *
  have ld := ofS_len t
  have dd := ofS_dig t
  rw [digestOf_ok t (by omega), Option.bind_some]
  generalize ofS t = d at *
  have hne : d ≠ [] := by rintro rfl; simp at ld
  have sm : ∀ x y : Str, x.length ≤ 220 → y.length ≤ 220 → small3 (api_Ref.mk a x y) := fun x y h h2 => ⟨by dsimp only; omega, by dsimp only; omega, by dsimp only; omega⟩
  rw [print_ok _ (sm b [] l2 (by simp)), Option.bind_some, print_ok _ (sm [] d (by simp) (by omega)), Option.bind_some, print_ok _ (sm b d l2 (by omega)), Option.bind_some, print_ok _ (sm [] [] (by simp) (by simp)), Option.bind_some, repo_ok _ (by omega), Option.bind_some, tag_ok _ (by omega), gx_some, Option.bind_some, gx_some, Option.bind_some, nalive_ok, gx_some, Option.bind_some]
  have p1 : printS (api_Ref.mk a b []) = if repoS a = true ∧ tagS b = true then (a ++ [58] ++ b, 0) else ([], 1) := by
    unfold printS; dsimp only
    by_cases hr : repoS a = true <;> by_cases ht : tagS b = true <;> simp [hr, ht, dig2_nil]
  have p2 : printS (api_Ref.mk a [] d) = if repoS a = true then (a ++ [64] ++ d, 0) else ([], 1) := by
    unfold printS; dsimp only
    by_cases hr : repoS a = true <;> simp [hr, dd, hne]
  have p3 : printS (api_Ref.mk a [] []) = ([], 1) := by
    unfold printS; dsimp only
    by_cases hr : repoS a = true <;> simp [hr, tag_nil, dig2_nil]
  have p4 : (printS (api_Ref.mk a b d)).2 = 0 → b = [] := by
    unfold printS; dsimp only
    intro h
    by_cases hr : repoS a = true
    · rw [if_neg (by simp [hr]), if_neg (by simp [hne])] at h
      by_cases hb : b = [] ∧ dig2 d = true
      · exact hb.1
      · rw [if_neg hb] at h; cases h
    · rw [if_pos (by simpa using hr)] at h; cases h
  have c1 : (!(((printS (api_Ref.mk a b [])).2 == 0) == (repoS a && if repoS a = true then tagS b else default))) = false := by
    rw [p1]
    cases repoS a <;> cases tagS b <;> rfl
  have c2 : (!(((printS (api_Ref.mk a [] d)).2 == 0) == repoS a)) = false := by
    rw [p2]
    cases repoS a <;> rfl
  have c3 : ((printS (api_Ref.mk a [] [])).2 != 1) = false := by rw [p3]; rfl
  have c4 : (((printS (api_Ref.mk a b d)).2 == 0) && (!(b == ([] : Str)))) = false := by
    by_cases h : (printS (api_Ref.mk a b d)).2 = 0
    · rw [p4 h]; simp
    · have : ((printS (api_Ref.mk a b d)).2 == 0) = false := by simpa using h
      rw [this]; rfl
  have c5 : (((printS (api_Ref.mk a b [])).2 == 0) && (!((printS (api_Ref.mk a b [])).1 == ((a ++ ([58] : Str)) ++ b)))) = false := by
    rw [p1]; split <;> simp
  have c6 : (((printS (api_Ref.mk a [] d)).2 == 0) && (!((printS (api_Ref.mk a [] d)).1 == ((a ++ ([64] : Str)) ++ d)))) = false := by
    rw [p2]; split <;> simp
  rw [c1]
  simp only [Bool.not_false, if_true, c2, c3, c4, c5, c6, Bool.or_false, Bool.false_or, Bool.not_true, Bool.false_eq_true, if_false]
  rw [gd_t _ (fun _ => by omega), gd_t _ (fun _ => by simp; omega), gd_t _ (fun _ => by omega), gd_t _ (fun _ => by simp; omega), gd_t _ (by omega), gd_t _ (by simp; omega), gd_t _ (by simp; omega), gd_t _ (by simp; omega), nparse_ok _ (by simp; omega), Option.bind_some]
  have key : parseR ((((a ++ ([58] : Str)) ++ b) ++ ([64] : Str)) ++ d) = none := by
    unfold parseR
    have hm : (64 : UInt8) ∈ (((a ++ ([58] : Str)) ++ b) ++ ([64] : Str)) ++ d := by simp
    have ht := cutS_mem hm
    rw [if_pos ht, if_neg]
    rintro ⟨h1, h2⟩
    have hl := dig2_len h2
    obtain ⟨h3, h4⟩ := cutS_true ht
    generalize (cutS 64 ((((a ++ ([58] : Str)) ++ b) ++ ([64] : Str)) ++ d)).1 = p at *
    generalize (cutS 64 ((((a ++ ([58] : Str)) ++ b) ++ ([64] : Str)) ++ d)).2.1 = q at *
    have h5 : p = (a ++ [58]) ++ b := by
      have e : ((a ++ ([58] : Str)) ++ b) ++ (64 :: d) = p ++ 64 :: q := by rw [← h3]; simp
      have := List.append_inj_left' e (by simp; omega)
      exact this.symm
    rw [h5] at h1
    exact (repo_clean h1).1 (by simp)
  rw [key]; rfl
end Go.Proofs.YtdcokepmblcdmaaDoor.V.M
end

section
/- The functions' proofs and the plain laws, side by side. -/
namespace Go.Proofs.YtdcokepmblcdmaaDoor.V
set_option linter.unusedVariables false
set_option linter.unusedSimpArgs false
theorem nameRefs_true (repo tag data : Str) : f_law03_NameRefs repo tag data = some true := M.nameRefs_true repo tag data
end Go.Proofs.YtdcokepmblcdmaaDoor.V
end

section
/- The row of the law NameRefs: for every input that the row speaks of the law returns true; each argument reads behind the call as it read before. -/
namespace Go.Proofs.YtdcokepmblcdmaaDoor.nameRefs
open Go.ChangeShapes Go.WideShapes Go.ChangeAt Go.RowKit Go.Proofs.YtdcokepmblcdmaaDoor.V Go.Proofs.YtdcokepmblcdmaaDoorW.PrintWords
set_option linter.unusedVariables false
theorem own : ownKnob Tryd.prog.godebug = none := by kernel_rfl
theorem laidOut : laidOutB Tryd.prog = true := by kernel_rfl
theorem gn0 : Tryd.prog.globalNamed "unicode/utf8.acceptRanges" = some 3 := by kernel_rfl
theorem gt0 : (Tryd.prog.globals[3]?).map (·.type) = some 89 := by kernel_rfl
theorem gn1 : Tryd.prog.globalNamed "consignor/digest.keys" = some 0 := by kernel_rfl
theorem gt1 : (Tryd.prog.globals[0]?).map (·.type) = some 79 := by kernel_rfl
theorem gn2 : Tryd.prog.globalNamed "unicode/utf8.first" = some 2 := by kernel_rfl
theorem gt2 : (Tryd.prog.globals[2]?).map (·.type) = some 86 := by kernel_rfl
noncomputable def doorW (os : Os) : World := (let w0 := World.doorLaid Tryd.prog 400 os; { w0 with heap := w0.heap.modify 2 fun | .cells _ t fz => .cells ((Go.Pinned.utf8FirstZ.map fun (n : Nat) => Value.int .u8 n).toArray) t fz | o => o })
theorem door_met (os : Os) (args : Array Value) : laidMetH Tryd.prog Rows.nameRefsRow.laid ((doorW os).forCall (fun _ _ => 0) ⟨#[], args, []⟩).memory :=
  laidMetH_of_parts3 (fuel := 8) (laidMet_of_run' 8 (by kernel_rfl) (by kernel_rfl)) (by kernel_rfl) (by kernel_rfl)
theorem gl_ok {W : World} (h : laidMetH Tryd.prog Rows.nameRefsRow.laid W) : GlOk glP W (fun k => k < W.heap.size) := by
  rw [MakeChecks.laidMetH_plain _ _ _ (by kernel_rfl)] at h
  obtain ⟨ps, ⟨g0, t0, cs0, f0, p0, q0, hg0, ht0, hv0, hd0, ⟨g1, t1, cs1, f1, p1, q1, hg1, ht1, hv1, hd1, ⟨g2, t2, cs2, f2, p2, q2, hg2, ht2, hv2, hd2, _, _⟩, _⟩, _⟩, _, _⟩ := h
  obtain rfl := Option.some.inj (gn0.symm.trans hg0)
  obtain rfl := Option.some.inj (gt0.symm.trans ht0)
  obtain rfl := Option.some.inj (gn1.symm.trans hg1)
  obtain rfl := Option.some.inj (gt1.symm.trans ht1)
  have r1 := glrep (laid_ints (l := g_digest_keys) (k := .u32) gn1 Tryd.underlying79 Tryd.underlying65 (by kernel_rfl) hv1 (show _ = some (DataW.agg (g_digest_keys.map fun x => DataW.lit (Lit.int .u32 x)), _) from hd1)) (by intro h; cases h)
  obtain rfl := Option.some.inj (gn2.symm.trans hg2)
  obtain rfl := Option.some.inj (gt2.symm.trans ht2)
  intro g cs hg
  unfold glP at hg
  split at hg
  · rename_i hgi
    subst hgi
    cases hg
    exact r1
  · cases hg
set_option maxRecDepth 100000 in
theorem lifted (os : Os) (started : os.Started) (H : Type) (enc : TypeId × Value → H) :
    ReturnsInHanded {} Tryd.checked os 8 .any (fun w args => (Rows.nameRefsSpec.pre enc Tryd.prog Tryd.f8 [] false w args ∧ laidMetH Tryd.prog Rows.nameRefsRow.laid w) ∧ sizedMet enc Tryd.prog Tryd.f8 (OpenSpec.ofChange Rows.nameRefsSpec) false w args) (Rows.nameRefsSpec.post enc Tryd.prog Tryd.f8 false true false false) := by
  refine returnsInHanded_of_change_and (C := Tryd.checked) (X := fun w _ => laidMetH Tryd.prog Rows.nameRefsRow.laid w) (fun _ _ _ hh h => h.of_heap hh) own started (by kernel_rfl) Tryd.func8
    (ChangeSpec.witness_shaped (enc := enc) (C := Tryd.checked) (os := os) (X := fun w _ => laidMetH Tryd.prog Rows.nameRefsRow.laid w) false (doorW os) #[.string ByteArray.empty, .string ByteArray.empty, .string ByteArray.empty] 8 rfl (World.shaped_of_RefB (by kernel_rfl) (by kernel_rfl)) (by kernel_rfl) (by kernel_rfl) (by kernel_rfl) (door_met os _)) ?_
  intro W base args ds gs before hval0 hW hcnd hsz0 hL _
  have hsz : (DataW.weightsEach Tryd.prog (Tryd.f8.params.toList ++ Rows.nameRefsSpec.plain.varTypes Tryd.prog) (ds ++ gs)).all (· ≤ reachBytes) = true := hsz0
  have hval : ∀ (j : Nat) t v, Tryd.f8.params[j]? = some t → args[j]? = some v → Value.okWide Tryd.prog W .any base t v := hval0
  have hW' := hW
  obtain ⟨p, q, hA0, hV, rfl, hfz, hnd⟩ := hW
  have hA : DataW.TrodAll enc Tryd.prog W 0 (fun _ => true) true Tryd.f8.params.toList args.toList ds p := hA0
  rw [Tryd.params8] at hA hval hsz
  obtain ⟨v0, vs0, d0, ds0, p0, q0, hargs, rfl, rfl, h0, r0⟩ := trodAll_cons hA
  obtain ⟨v1, vs1, d1, ds1, p1, q1, rfl, rfl, rfl, h1, r1⟩ := trodAll_cons r0
  obtain ⟨v2, vs2, d2, ds2, p2, q2, rfl, rfl, rfl, h2, r2⟩ := trodAll_cons r1
  obtain ⟨rfl, rfl, rfl⟩ := trodAll_nil r2
  obtain rfl : args = #[v0, v1, v2] := by cases args; simp_all
  obtain ⟨rfl, rfl⟩ := trodVars_none hV
  have k0 := h0
  have lt0 : ∀ x ∈ p0, x.block < W.heap.size := by obtain ⟨m, hm⟩ := k0; exact DataW.trod_lt m _ _ _ hm
  obtain ⟨a0, e0, rfl, z0⟩ := arg_str Tryd.underlying9 (hval 0 9 v0 rfl rfl) h0
  have w0 : a0.length ≤ 140737488351232 := sized_string hsz (j := 0) (t := 9) rfl rfl
  have k1 := h1
  have lt1 : ∀ x ∈ p1, x.block < W.heap.size := by obtain ⟨m, hm⟩ := k1; exact DataW.trod_lt m _ _ _ hm
  obtain ⟨a1, e1, rfl, z1⟩ := arg_str Tryd.underlying9 (hval 1 9 v1 rfl rfl) h1
  have w1 : a1.length ≤ 140737488351232 := sized_string hsz (j := 1) (t := 9) rfl rfl
  have k2 := h2
  have lt2 : ∀ x ∈ p2, x.block < W.heap.size := by obtain ⟨m, hm⟩ := k2; exact DataW.trod_lt m _ _ _ hm
  obtain ⟨a2, e2, rfl, z2⟩ := arg_str Tryd.underlying9 (hval 2 9 v2 rfl rfl) h2
  have w2 : a2.length ≤ 140737488351232 := sized_string hsz (j := 2) (t := 9) rfl rfl
  refine (Fun.lawG (xs := [_, _, _]) (vs := [v0, v1, v2]) (w := W) (f_law03_NameRefs_ok a0 a1 a2 true (by first | exact nameRefs_true a0 a1 a2 w0 w1 w2 | exact nameRefs_true a0 a1 a2 | (apply nameRefs_true <;> assumption))) (gl_ok hL) ⟨e0, e1, e2, trivial⟩).mono fun e W' ⟨he, bel⟩ => ?_
  subst he
  exact ⟨_, rfl, _, _, _, [], _, [], hW', trodAll_mk1 (shut_bool Tryd.underlying4 _), (trodAll_cons_mk (Below.trod laidOut (by kernel_rfl) (of_decide_eq_true (by kernel_rfl)) k0 bel lt0) (trodAll_cons_mk (Below.trod laidOut (by kernel_rfl) (of_decide_eq_true (by kernel_rfl)) k1 bel lt1) (trodAll_cons_mk (Below.trod laidOut (by kernel_rfl) (of_decide_eq_true (by kernel_rfl)) k2 bel lt2) trodAll_mk0))), rfl, bel.frame _, fun h => by cases h⟩
theorem over : Rows.nameRefsRow.holds Tryd.pinned (OpenSpec.ofChange Rows.nameRefsSpec) :=
  OpenClaim.holds_of_wide 8 Tryd.f8 rfl rfl rfl rfl rfl rfl rfl ⟨rfl, rfl, rfl, rfl, rfl⟩ rfl rfl rfl rfl rfl (by kernel_rfl) Tryd.func8 (by kernel_rfl)
    (of_decide_eq_true (by kernel_rfl)) (by unfold Func.isWrapper; first | (rw [if_pos (by decide +kernel)]; kernel_rfl) | (rw [if_neg (by decide +kernel)]; exact ⟨rfl, rfl⟩))
    (fun os started H enc _ => lifted os started H enc)
theorem proved : Rows.NameRefsSaid := over
end Go.Proofs.YtdcokepmblcdmaaDoor.nameRefs
namespace Go.Proofs.YtdcokepmblcdmaaDoor
/-- The statement, under a short name, for the claim. -/
theorem nameRefs_holds : Rows.NameRefsCardSaid :=
  Claim7.holds_tied_plain_at .later [] [.data, .data, .pinned] true (true, "6a6288614213b700c310f529358ed855be540a775ed779d0411f7f6f1a9501cd") false
    nameRefs.proved (fun _ h => by cases h) (by kernel_rfl) (fun _ h => by cases h) nameRefs_row_tie rfl ⟨rfl, rfl⟩ (by kernel_rfl) rfl
    (fun f fn hf hfn => by
      obtain rfl : f = 8 := Option.some.inj ((show Tryd.prog.funcNamed "consignor/consignorlaw03.NameRefs" = some 8 by kernel_rfl).symm.trans hf) |>.symm
      obtain rfl : fn = Tryd.f8 := (Option.some.inj (Tryd.func8.symm.trans hfn)).symm
      exact ⟨by kernel_rfl, fun j t ht => by
        rw [Tryd.params8] at ht
        have hm : t ∈ [9, 9, 9] := by simpa using Array.mem_of_getElem? ht
        have hall : ([9, 9, 9].all fun u => !Tryd.prog.wantsStandIn u) = true := by kernel_rfl
        exact (show Tryd.prog.wantsStandIn t = false by simpa using List.all_eq_true.1 hall t hm)⟩)
    (by kernel_rfl)
#print axioms nameRefs_holds
end Go.Proofs.YtdcokepmblcdmaaDoor
end
