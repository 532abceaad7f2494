/- The row of the law LedgerOpens: for every input that the row speaks of the law returns true; each argument reads behind the call as it read before. -/
import Derived.Test.YtjhelpeglgigbaaProg
import Derived.Test.YtjhelpeglgigbaaQLedgerOpensB
import Derived.Test.YtjhelpeglgigbaaQLedgerOpensC
import Derived.Test.YtjhelpeglgigbaaQLedgerOpensE
import Derived.KernelRfl
import Derived.Lib.Join
import Derived.Lib.Repeat
import Derived.Below
import Derived.OwnWalk
import Derived.Orders
import Derived.WalkKit
import Derived.Laws.Slices
import Derived.LaidMore
import Derived.FnData
import Derived.Test.YtjhelpeglgigbaaRows
import Derived.ProofKit
import Derived.OpenShut
import Derived.ShutString
import Derived.ChangeOld
import Derived.SizedLaws
import Derived.SliceStrings
import Derived.Carry
import Derived.Test.YtjhelpeglgigbaaWSized
section
/- Go functions compute what Lean functions do. -/
namespace Go.Proofs.Ytjhelpeglgigbaa.V
open Go Go.RowKit
set_option linter.unusedVariables false
set_option linter.unusedSimpArgs false
set_option maxHeartbeats 1000000
set_option maxRecDepth 20000
-- 3 consignor/consignorlaw10.LedgerOpens
def c3r0 : List Opn := [
  ⟨(some 3), none, .box 2 (.t 0)⟩, 
  ⟨(some 5), none, .box 6 (.t 2)⟩, 
  ⟨(some 6), none, .mv (.c (.s (.d (.bool false))))⟩]
def c3r1 : List Opn := [
  ⟨(some 13), none, .load true 2 (.t 3)⟩, 
  ⟨(some 14), none, .call (.fn 9) [(.t 13)]⟩, 
  ⟨none, none, .store 2 (.t 3) (.t 14)⟩]
def c3r2 : List Opn := [
  ⟨(some 16), none, .load true 2 (.t 3)⟩, 
  ⟨(some 17), none, .call (.fn 10) [(.t 16)]⟩, 
  ⟨(some 15), none, .mv (.t 17)⟩, 
  ⟨(some 18), none, .ext (.t 15) 0⟩, 
  ⟨(some 19), none, .ext (.t 15) 1⟩, 
  ⟨(some 7), none, .new [.nils, .nils, (.d (.int .i64 0)), (.d (.int .i64 0)), (.d (.int .i64 0)), .nils]⟩, 
  ⟨none, none, .store 6 (.t 7) (.t 18)⟩, 
  ⟨(some 8), none, .mv (.t 19)⟩]
def c3r3 : List Opn := [
  ⟨(some 21), none, .load true 2 (.t 3)⟩, 
  ⟨(some 22), none, .call (.fn 11) [(.t 21)]⟩, 
  ⟨(some 20), none, .mv (.t 22)⟩, 
  ⟨(some 23), none, .ext (.t 20) 0⟩, 
  ⟨(some 24), none, .ext (.t 20) 1⟩, 
  ⟨(some 9), none, .new [.nils, .nils, (.d (.int .i64 0)), (.d (.int .i64 0)), (.d (.int .i64 0)), .nils]⟩, 
  ⟨none, none, .store 6 (.t 9) (.t 23)⟩, 
  ⟨(some 10), none, .mv (.t 24)⟩]
def c3r4 : List Opn := [
  ⟨(some 26), none, .mv (.t 1)⟩, 
  ⟨(some 27), none, .call (.fn 12) [(.t 26)]⟩, 
  ⟨(some 25), none, .mv (.t 27)⟩, 
  ⟨(some 28), none, .ext (.t 25) 0⟩, 
  ⟨(some 29), none, .ext (.t 25) 1⟩, 
  ⟨(some 11), none, .new [.nils, .nils, (.d (.int .i64 0)), (.d (.int .i64 0)), (.d (.int .i64 0)), .nils]⟩, 
  ⟨none, none, .store 6 (.t 11) (.t 28)⟩, 
  ⟨(some 12), none, .mv (.t 29)⟩]
def c3r5 : List Opn := [
  ⟨(some 30), none, .mv (.t 8)⟩, 
  ⟨(some 31), none, .mv (.t 10)⟩, 
  ⟨(some 32), none, .bin .neq (.t 30) (.t 31)⟩, 
  ⟨(some 33), none, .mv (.t 32)⟩, 
  ⟨(some 34), some (33, false), .mv (.t 8)⟩, 
  ⟨(some 35), some (33, false), .bin .eql (.t 34) (.c (.s (.d (.int .i64 0))))⟩, 
  ⟨(some 36), some (33, false), .mv (.t 35)⟩, 
  ⟨(some 37), some (36, true), .load true 6 (.t 7)⟩, 
  ⟨(some 38), some (36, true), .load true 6 (.t 9)⟩, 
  ⟨(some 39), some (36, true), .call (.fn 13) [(.t 37), (.t 38)]⟩, 
  ⟨(some 40), some (36, true), .un .not (.t 39)⟩, 
  ⟨(some 41), some (33, false), .pick (.t 36) (.t 40) (.c (.s (.d (.bool false))))⟩, 
  ⟨(some 42), none, .pick (.t 33) (.c (.s (.d (.bool true)))) (.t 41)⟩, 
  ⟨(some 43), none, .mv (.t 42)⟩, 
  ⟨(some 44), some (43, false), .mv (.t 8)⟩, 
  ⟨(some 45), some (43, false), .bin .neq (.t 44) (.c (.s (.d (.int .i64 0))))⟩, 
  ⟨(some 46), some (43, false), .mv (.t 45)⟩, 
  ⟨(some 47), some (46, true), .fadr 0 (.t 7)⟩, 
  ⟨(some 48), some (46, true), .fadr 0 (.t 47)⟩, 
  ⟨(some 49), some (46, true), .load false 1 (.t 48)⟩, 
  ⟨(some 50), some (46, true), .len (.sl 0) (.t 49)⟩, 
  ⟨(some 51), some (46, true), .bin .neq (.t 50) (.c (.s (.d (.int .i64 0))))⟩, 
  ⟨(some 52), some (43, false), .pick (.t 46) (.t 51) (.c (.s (.d (.bool false))))⟩, 
  ⟨(some 53), none, .pick (.t 43) (.c (.s (.d (.bool true)))) (.t 52)⟩, 
  ⟨(some 54), none, .mv (.t 53)⟩, 
  ⟨(some 55), some (54, false), .call (.fn 14) []⟩, 
  ⟨(some 56), some (54, false), .un .not (.t 55)⟩, 
  ⟨(some 57), none, .pick (.t 54) (.c (.s (.d (.bool true)))) (.t 56)⟩]
def c3r6 : List Opn := [
  ⟨(some 6), none, .mv (.c (.s (.d (.bool false))))⟩]
def c3r7 : List Opn := [
  ⟨(some 58), none, .mv (.t 1)⟩, 
  ⟨(some 59), none, .bin .lss (.t 58) (.c (.s (.d (.int .i64 4))))⟩, 
  ⟨(some 60), none, .mv (.t 59)⟩, 
  ⟨(some 61), some (60, false), .mv (.t 1)⟩, 
  ⟨(some 62), some (60, false), .bin .gtr (.t 61) (.c (.s (.d (.int .i64 64))))⟩, 
  ⟨(some 63), none, .pick (.t 60) (.c (.s (.d (.bool true)))) (.t 62)⟩]
def c3r8 : List Opn := [
  ⟨(some 64), none, .mv (.t 12)⟩, 
  ⟨(some 65), none, .bin .neq (.t 64) (.c (.s (.d (.int .i64 1))))⟩]
def c3r9 : List Opn := [
  ⟨(some 6), none, .mv (.c (.s (.d (.bool false))))⟩]
def c3r10 : List Opn := [
  ⟨(some 66), none, .mv (.t 12)⟩, 
  ⟨(some 67), none, .bin .neq (.t 66) (.c (.s (.d (.int .i64 0))))⟩, 
  ⟨(some 68), none, .mv (.t 67)⟩, 
  ⟨(some 69), some (68, false), .fadr 3 (.t 11)⟩, 
  ⟨(some 70), some (68, false), .load false 1 (.t 69)⟩, 
  ⟨(some 71), some (68, false), .bin .neq (.t 70) (.c (.s (.d (.int .i64 1))))⟩, 
  ⟨(some 72), none, .pick (.t 68) (.c (.s (.d (.bool true)))) (.t 71)⟩, 
  ⟨(some 73), none, .mv (.t 72)⟩, 
  ⟨(some 74), some (73, false), .fadr 4 (.t 11)⟩, 
  ⟨(some 75), some (73, false), .load false 1 (.t 74)⟩, 
  ⟨(some 76), some (73, false), .bin .neq (.t 75) (.c (.s (.d (.int .i64 0))))⟩, 
  ⟨(some 77), none, .pick (.t 73) (.c (.s (.d (.bool true)))) (.t 76)⟩, 
  ⟨(some 78), none, .mv (.t 77)⟩, 
  ⟨(some 79), some (78, false), .fadr 5 (.t 11)⟩, 
  ⟨(some 80), some (78, false), .load false 1 (.t 79)⟩, 
  ⟨(some 81), some (78, false), .len (.sl 0) (.t 80)⟩, 
  ⟨(some 82), some (78, false), .bin .neq (.t 81) (.c (.s (.d (.int .i64 0))))⟩, 
  ⟨(some 83), none, .pick (.t 78) (.c (.s (.d (.bool true)))) (.t 82)⟩, 
  ⟨(some 84), none, .mv (.t 83)⟩, 
  ⟨(some 85), some (84, false), .fadr 0 (.t 11)⟩, 
  ⟨(some 86), some (84, false), .fadr 0 (.t 85)⟩, 
  ⟨(some 87), some (84, false), .load false 1 (.t 86)⟩, 
  ⟨(some 88), some (84, false), .iadr (.sl 1) (.t 87) (.c (.s (.d (.int .i64 0))))⟩, 
  ⟨(some 89), some (84, false), .load false 1 (.t 88)⟩, 
  ⟨(some 90), some (84, false), .call (.fn 15) [(.c (.s (.d (.int .i64 1)))), (.c (.s (.d (.int .i64 0))))]⟩, 
  ⟨(some 91), some (84, false), .bin .neq (.t 89) (.t 90)⟩, 
  ⟨(some 92), none, .pick (.t 84) (.c (.s (.d (.bool true)))) (.t 91)⟩, 
  ⟨(some 93), none, .mv (.t 92)⟩, 
  ⟨(some 94), some (93, false), .load true 6 (.t 11)⟩, 
  ⟨(some 95), some (93, false), .call (.fn 16) [(.t 94)]⟩, 
  ⟨(some 96), some (93, false), .un .not (.t 95)⟩, 
  ⟨(some 97), none, .pick (.t 93) (.c (.s (.d (.bool true)))) (.t 96)⟩]
def c3r11 : List Opn := [
  ⟨(some 6), none, .mv (.c (.s (.d (.bool false))))⟩]
def c3r12 : List Opn := [
  ⟨(some 98), none, .load true 2 (.t 3)⟩, 
  ⟨(some 99), none, .fadr 5 (.t 5)⟩, 
  ⟨(some 100), none, .load false 1 (.t 99)⟩, 
  ⟨(some 101), none, .fadr 5 (.t 5)⟩, 
  ⟨(some 102), none, .load false 1 (.t 101)⟩, 
  ⟨(some 103), none, .len (.sl 0) (.t 102)⟩, 
  ⟨(some 104), none, .mm false (.t 103) (.c (.s (.d (.int .i64 8))))⟩, 
  ⟨(some 105), none, .slc (.sl 1) (.t 100) none (some (.t 104)) none⟩, 
  ⟨(some 106), none, .fadr 0 (.t 5)⟩, 
  ⟨none, none, .store 2 (.t 106) (.t 98)⟩, 
  ⟨(some 107), none, .fadr 5 (.t 5)⟩, 
  ⟨none, none, .store 1 (.t 107) (.t 105)⟩]
def c3r13 : List Opn := [
  ⟨(some 108), none, .load true 6 (.t 5)⟩, 
  ⟨(some 109), none, .call (.fn 16) [(.t 108)]⟩, 
  ⟨(some 110), none, .mv (.t 10)⟩, 
  ⟨(some 111), none, .bin .eql (.t 110) (.c (.s (.d (.int .i64 0))))⟩, 
  ⟨(some 112), none, .mv (.t 111)⟩, 
  ⟨(some 113), some (112, true), .load true 6 (.t 5)⟩, 
  ⟨(some 114), some (112, true), .load true 6 (.t 9)⟩, 
  ⟨(some 115), some (112, true), .call (.fn 13) [(.t 113), (.t 114)]⟩, 
  ⟨(some 116), none, .pick (.t 112) (.t 115) (.c (.s (.d (.bool false))))⟩, 
  ⟨(some 117), none, .bbo .eql (.t 109) (.t 116)⟩, 
  ⟨(some 118), none, .mv (.t 117)⟩, 
  ⟨(some 119), some (118, true), .load true 6 (.t 7)⟩, 
  ⟨(some 120), some (118, true), .call (.fn 16) [(.t 119)]⟩, 
  ⟨(some 121), some (118, true), .mv (.t 8)⟩, 
  ⟨(some 122), some (118, true), .bin .eql (.t 121) (.c (.s (.d (.int .i64 0))))⟩, 
  ⟨(some 123), some (118, true), .bbo .eql (.t 120) (.t 122)⟩, 
  ⟨(some 124), none, .pick (.t 118) (.t 123) (.c (.s (.d (.bool false))))⟩, 
  ⟨(some 6), none, .mv (.t 124)⟩]
def c3 : C := .seq (.reg c3r0 none [1, 3, 5]) (.seq (.reg c3r1 none [1, 3, 5]) (.seq (.reg c3r2 none [1, 3, 5, 7, 8]) (.seq (.reg c3r3 none [1, 3, 5, 7, 8, 9, 10]) (.seq (.reg c3r4 none [1, 3, 5, 7, 8, 9, 10, 11, 12]) (.seq (.seq (.reg c3r5 none [1, 3, 5, 7, 8, 9, 10, 11, 12, 57]) (.cond (.t 57) (.seq (.reg c3r6 none [6]) (.ret)) (.skip))) (.seq (.seq (.reg c3r7 none [3, 5, 7, 8, 9, 10, 11, 12, 63]) (.cond (.t 63) (.seq (.reg c3r8 none [3, 5, 7, 8, 9, 10, 65]) (.cond (.t 65) (.seq (.reg c3r9 none [6]) (.ret)) (.skip))) (.seq (.reg c3r10 (some [0, 1, 3, 7, 15, 31, 63, 127, 255, 511, 1023, 2047, 4095, 8191, 16383, 32767, 65535, 131071, 262143, 524287, 1048575, 2097151, 4194303, 8388607, 524287, 33554431, 67108863, 134217727, 268435455, 536870911, 1073741823, 2147483647]) [3, 5, 7, 8, 9, 10, 97]) (.cond (.t 97) (.seq (.reg c3r11 none [6]) (.ret)) (.skip))))) (.seq (.reg c3r12 (some [0, 0, 2, 0, 8, 24, 56, 126, 31, 287, 1023, 2047]) [5, 7, 8, 9, 10]) (.seq (.reg c3r13 none [6]) (.ret)))))))))
def k3 : List (Nat × List Nat) := [(13, [6]), (12, [5, 7, 8, 9, 10]), (9, [6]), (8, [3, 5, 7, 8, 9, 10, 65]), (11, [6]), (10, [3, 5, 7, 8, 9, 10, 97]), (7, [3, 5, 7, 8, 9, 10, 11, 12, 63]), (6, [6]), (5, [1, 3, 5, 7, 8, 9, 10, 11, 12, 57]), (4, [1, 3, 5, 7, 8, 9, 10, 11, 12]), (3, [1, 3, 5, 7, 8, 9, 10]), (2, [1, 3, 5, 7, 8]), (1, [1, 3, 5]), (0, [1, 3, 5])]
theorem cc3 : (Try.f3.body).bind (cC Try.prog 125 k3) = some c3 := by kernel_rfl
def rv3 : List RV := [.t 6]
theorem cr3 : cRVs Try.prog Try.f3.results.toList = some rv3 := by kernel_rfl
theorem f_law10_LedgerOpens_ok (d : api_Disk) (sectors : Int) (odd : api_Ledger) (y_ : Bool) (h : f_law10_LedgerOpens d sectors odd = some y_) : Fun Try.prog glP 3 [.b (.agg ((e_api_Disk d).map Lc.d)), .b (.s (.d (.int .i64 sectors))), .b (.agg ((e_api_Ledger odd).map Lc.d))] (.b (.s (.d (.bool y_)))) := by
  refine fun_walk [] Try.func3 Try.ntmps3 cc3 cr3 (by kernel_rfl) (by simp only [List.length_cons, List.length_nil]; decide) ?_
  generalize hR : Ret _ _ _ _ _ = R_
  simp only [wz, wd, ws, Nat.reduceAdd, Nat.reduceSub, Nat.reduceMul, Nat.reduceLeDiff, Nat.reduceEqDiff, Nat.reduceLT, Nat.reduceBEq, reduceIte, reduceCtorEq, Int.reduceToNat, Nat.reduceShiftRight, Nat.reduceAnd, Nat.reduceBneDiff, Nat.reduceBNe, e_api_Ledger, e_api_Disk, e_api_Write]
  unfold f_law10_LedgerOpens at h; unfold c3
  refine .seq ?_
  refine Rw.walk ?_
  simp only [wz, wd, ws, Nat.reduceAdd, Nat.reduceSub, Nat.reduceMul, Nat.reduceLeDiff, Nat.reduceEqDiff, Nat.reduceLT, Nat.reduceBEq, reduceIte, reduceCtorEq, Int.reduceToNat, Nat.reduceShiftRight, Nat.reduceAnd, Nat.reduceBneDiff, Nat.reduceBNe, c3r0, semI.eq_10, semI.eq_11, semI.eq_3, semI.eq_5, semI.eq_7, e_api_Ledger, e_api_Disk, e_api_Write]
  refine .seq ?_
  refine Rw.walk ?_
  simp only [wz, wd, ws, Nat.reduceAdd, Nat.reduceSub, Nat.reduceMul, Nat.reduceLeDiff, Nat.reduceEqDiff, Nat.reduceLT, Nat.reduceBEq, reduceIte, reduceCtorEq, Int.reduceToNat, Nat.reduceShiftRight, Nat.reduceAnd, Nat.reduceBneDiff, Nat.reduceBNe, c3r1, semI.eq_10, semI.eq_11, semI.eq_3, semI.eq_5, semI.eq_7, e_api_Ledger, e_api_Disk, e_api_Write]
  obtain ⟨t, e1, h⟩ := Option.bind_eq_some_iff.1 h
  refine call_fun [] true ⟨trivial, trivial, trivial⟩ rfl ?_ (f_law10_few_ok _ _ e1) (fun h => by cases h) (fun i hi => by cases hi) ?_
  · simp only [wz, wd, ws, Nat.reduceAdd, Nat.reduceSub, Nat.reduceMul, Nat.reduceLeDiff, Nat.reduceEqDiff, Nat.reduceLT, Nat.reduceBEq, reduceIte, reduceCtorEq, Int.reduceToNat, Nat.reduceShiftRight, Nat.reduceAnd, Nat.reduceBneDiff, Nat.reduceBNe, e_api_Ledger, e_api_Disk, e_api_Write]
  simp only [wz, wd, ws, Nat.reduceAdd, Nat.reduceSub, Nat.reduceMul, Nat.reduceLeDiff, Nat.reduceEqDiff, Nat.reduceLT, Nat.reduceBEq, reduceIte, reduceCtorEq, Int.reduceToNat, Nat.reduceShiftRight, Nat.reduceAnd, Nat.reduceBneDiff, Nat.reduceBNe, c3r1, semI.eq_10, semI.eq_11, semI.eq_3, semI.eq_5, semI.eq_7, e_api_Ledger, e_api_Disk, e_api_Write]
  refine .seq ?_
  refine Rw.walk ?_
  simp only [wz, wd, ws, Nat.reduceAdd, Nat.reduceSub, Nat.reduceMul, Nat.reduceLeDiff, Nat.reduceEqDiff, Nat.reduceLT, Nat.reduceBEq, reduceIte, reduceCtorEq, Int.reduceToNat, Nat.reduceShiftRight, Nat.reduceAnd, Nat.reduceBneDiff, Nat.reduceBNe, c3r2, semI.eq_10, semI.eq_11, semI.eq_3, semI.eq_5, semI.eq_7, e_api_Ledger, e_api_Disk, e_api_Write]
  obtain ⟨t2, e2, h⟩ := Option.bind_eq_some_iff.1 h
  refine call_fun [] true ⟨trivial, trivial, trivial⟩ rfl ?_ (f_ledger_Open_ok _ _ e2) (fun h => by cases h) (fun i hi => by cases hi) ?_
  · simp only [wz, wd, ws, Nat.reduceAdd, Nat.reduceSub, Nat.reduceMul, Nat.reduceLeDiff, Nat.reduceEqDiff, Nat.reduceLT, Nat.reduceBEq, reduceIte, reduceCtorEq, Int.reduceToNat, Nat.reduceShiftRight, Nat.reduceAnd, Nat.reduceBneDiff, Nat.reduceBNe, e_api_Ledger, e_api_Disk, e_api_Write]
  simp only [wz, wd, ws, Nat.reduceAdd, Nat.reduceSub, Nat.reduceMul, Nat.reduceLeDiff, Nat.reduceEqDiff, Nat.reduceLT, Nat.reduceBEq, reduceIte, reduceCtorEq, Int.reduceToNat, Nat.reduceShiftRight, Nat.reduceAnd, Nat.reduceBneDiff, Nat.reduceBNe, c3r2, semI.eq_10, semI.eq_11, semI.eq_3, semI.eq_5, semI.eq_7, e_api_Ledger, e_api_Disk, e_api_Write]
  refine .seq ?_
  refine Rw.walk ?_
  simp only [wz, wd, ws, Nat.reduceAdd, Nat.reduceSub, Nat.reduceMul, Nat.reduceLeDiff, Nat.reduceEqDiff, Nat.reduceLT, Nat.reduceBEq, reduceIte, reduceCtorEq, Int.reduceToNat, Nat.reduceShiftRight, Nat.reduceAnd, Nat.reduceBneDiff, Nat.reduceBNe, c3r3, semI.eq_10, semI.eq_11, semI.eq_3, semI.eq_5, semI.eq_7, e_api_Ledger, e_api_Disk, e_api_Write]
  obtain ⟨t3, e3, h⟩ := Option.bind_eq_some_iff.1 h
  refine call_fun [] true ⟨trivial, trivial, trivial⟩ rfl ?_ (f_ref10_Open_ok _ _ e3) (fun h => by cases h) (fun i hi => by cases hi) ?_
  · simp only [wz, wd, ws, Nat.reduceAdd, Nat.reduceSub, Nat.reduceMul, Nat.reduceLeDiff, Nat.reduceEqDiff, Nat.reduceLT, Nat.reduceBEq, reduceIte, reduceCtorEq, Int.reduceToNat, Nat.reduceShiftRight, Nat.reduceAnd, Nat.reduceBneDiff, Nat.reduceBNe, e_api_Ledger, e_api_Disk, e_api_Write]
  simp only [wz, wd, ws, Nat.reduceAdd, Nat.reduceSub, Nat.reduceMul, Nat.reduceLeDiff, Nat.reduceEqDiff, Nat.reduceLT, Nat.reduceBEq, reduceIte, reduceCtorEq, Int.reduceToNat, Nat.reduceShiftRight, Nat.reduceAnd, Nat.reduceBneDiff, Nat.reduceBNe, c3r3, semI.eq_10, semI.eq_11, semI.eq_3, semI.eq_5, semI.eq_7, e_api_Ledger, e_api_Disk, e_api_Write]
  refine .seq ?_
  refine Rw.walk ?_
  simp only [wz, wd, ws, Nat.reduceAdd, Nat.reduceSub, Nat.reduceMul, Nat.reduceLeDiff, Nat.reduceEqDiff, Nat.reduceLT, Nat.reduceBEq, reduceIte, reduceCtorEq, Int.reduceToNat, Nat.reduceShiftRight, Nat.reduceAnd, Nat.reduceBneDiff, Nat.reduceBNe, c3r4, semI.eq_10, semI.eq_11, semI.eq_3, semI.eq_5, semI.eq_7, e_api_Ledger, e_api_Disk, e_api_Write]
  obtain ⟨t4, e4, h⟩ := Option.bind_eq_some_iff.1 h
  refine call_fun [] true ⟨trivial, trivial, trivial⟩ rfl ?_ (f_ledger_Format_ok _ _ e4) (fun h => by cases h) (fun i hi => by cases hi) ?_
  · simp only [wz, wd, ws, Nat.reduceAdd, Nat.reduceSub, Nat.reduceMul, Nat.reduceLeDiff, Nat.reduceEqDiff, Nat.reduceLT, Nat.reduceBEq, reduceIte, reduceCtorEq, Int.reduceToNat, Nat.reduceShiftRight, Nat.reduceAnd, Nat.reduceBneDiff, Nat.reduceBNe, e_api_Ledger, e_api_Disk, e_api_Write]
  simp only [wz, wd, ws, Nat.reduceAdd, Nat.reduceSub, Nat.reduceMul, Nat.reduceLeDiff, Nat.reduceEqDiff, Nat.reduceLT, Nat.reduceBEq, reduceIte, reduceCtorEq, Int.reduceToNat, Nat.reduceShiftRight, Nat.reduceAnd, Nat.reduceBneDiff, Nat.reduceBNe, c3r4, semI.eq_10, semI.eq_11, semI.eq_3, semI.eq_5, semI.eq_7, e_api_Ledger, e_api_Disk, e_api_Write]
  refine .seq ?_
  refine .seq ?_
  refine Rw.walk ?_
  simp only [wz, wd, ws, Nat.reduceAdd, Nat.reduceSub, Nat.reduceMul, Nat.reduceLeDiff, Nat.reduceEqDiff, Nat.reduceLT, Nat.reduceBEq, reduceIte, reduceCtorEq, Int.reduceToNat, Nat.reduceShiftRight, Nat.reduceAnd, Nat.reduceBneDiff, Nat.reduceBNe, c3r5, semI.eq_10, semI.eq_11, semI.eq_3, semI.eq_5, semI.eq_7, e_api_Ledger, e_api_Disk, e_api_Write]
  refine call_alt (v := .b (.agg [(.d (.sl (t2.1.Disk.Sectors.map eS))), (.d (.sl (t2.1.Disk.Dirty.map e_api_Write))), (.d (.int .i64 t2.1.Half)), (.d (.int .i64 t2.1.Gen)), (.d (.int .i64 t2.1.Used)), (.d (.sl (t2.1.Entries.map eS)))])) rfl rfl (by simp only [wz, wd, ws, Nat.reduceAdd, Nat.reduceSub, Nat.reduceMul, Nat.reduceLeDiff, Nat.reduceEqDiff, Nat.reduceLT, Nat.reduceBEq, reduceIte, reduceCtorEq, Int.reduceToNat, Nat.reduceShiftRight, Nat.reduceAnd, Nat.reduceBneDiff, Nat.reduceBNe]) (fun q => ⟨_, by simp only [wz, wd, ws, Nat.reduceAdd, Nat.reduceSub, Nat.reduceMul, Nat.reduceLeDiff, Nat.reduceEqDiff, Nat.reduceLT, Nat.reduceBEq, reduceIte, reduceCtorEq, Int.reduceToNat, Nat.reduceShiftRight, Nat.reduceAnd, Nat.reduceBneDiff, Nat.reduceBNe, semI.eq_10, e_api_Ledger, e_api_Disk, e_api_Write], trivial⟩) ?_
  simp only [wz, wd, ws, Nat.reduceAdd, Nat.reduceSub, Nat.reduceMul, Nat.reduceLeDiff, Nat.reduceEqDiff, Nat.reduceLT, Nat.reduceBEq, reduceIte, reduceCtorEq, Int.reduceToNat, Nat.reduceShiftRight, Nat.reduceAnd, Nat.reduceBneDiff, Nat.reduceBNe, c3r5, semI.eq_10, semI.eq_11, semI.eq_3, semI.eq_5, semI.eq_7, e_api_Ledger, e_api_Disk, e_api_Write]
  refine call_alt (v := .b (.agg [(.d (.sl (t3.1.Disk.Sectors.map eS))), (.d (.sl (t3.1.Disk.Dirty.map e_api_Write))), (.d (.int .i64 t3.1.Half)), (.d (.int .i64 t3.1.Gen)), (.d (.int .i64 t3.1.Used)), (.d (.sl (t3.1.Entries.map eS)))])) rfl rfl (by simp only [wz, wd, ws, Nat.reduceAdd, Nat.reduceSub, Nat.reduceMul, Nat.reduceLeDiff, Nat.reduceEqDiff, Nat.reduceLT, Nat.reduceBEq, reduceIte, reduceCtorEq, Int.reduceToNat, Nat.reduceShiftRight, Nat.reduceAnd, Nat.reduceBneDiff, Nat.reduceBNe]) (fun q => ⟨_, by simp only [wz, wd, ws, Nat.reduceAdd, Nat.reduceSub, Nat.reduceMul, Nat.reduceLeDiff, Nat.reduceEqDiff, Nat.reduceLT, Nat.reduceBEq, reduceIte, reduceCtorEq, Int.reduceToNat, Nat.reduceShiftRight, Nat.reduceAnd, Nat.reduceBneDiff, Nat.reduceBNe, semI.eq_10, e_api_Ledger, e_api_Disk, e_api_Write], trivial⟩) ?_
  simp only [wz, wd, ws, Nat.reduceAdd, Nat.reduceSub, Nat.reduceMul, Nat.reduceLeDiff, Nat.reduceEqDiff, Nat.reduceLT, Nat.reduceBEq, reduceIte, reduceCtorEq, Int.reduceToNat, Nat.reduceShiftRight, Nat.reduceAnd, Nat.reduceBneDiff, Nat.reduceBNe, c3r5, semI.eq_10, semI.eq_11, semI.eq_3, semI.eq_5, semI.eq_7, e_api_Ledger, e_api_Disk, e_api_Write]
  obtain ⟨t5, e5, h⟩ := Option.bind_eq_some_iff.1 h
  refine call_funG [] rfl (by simp only [wz, wd, ws, Nat.reduceAdd, Nat.reduceSub, Nat.reduceMul, Nat.reduceLeDiff, Nat.reduceEqDiff, Nat.reduceLT, Nat.reduceBEq, reduceIte, reduceCtorEq, Int.reduceToNat, Nat.reduceShiftRight, Nat.reduceAnd, Nat.reduceBneDiff, Nat.reduceBNe]) rfl ?_ (fun q => (f_ref10_Like_ok _ _ _ (gx_iff e5 (by simpa using q)))) rfl (fun i hi => by cases hi) ?_
  · simp only [wz, wd, ws, Nat.reduceAdd, Nat.reduceSub, Nat.reduceMul, Nat.reduceLeDiff, Nat.reduceEqDiff, Nat.reduceLT, Nat.reduceBEq, reduceIte, reduceCtorEq, Int.reduceToNat, Nat.reduceShiftRight, Nat.reduceAnd, Nat.reduceBneDiff, Nat.reduceBNe, e_api_Ledger, e_api_Disk, e_api_Write]
  simp only [wz, wd, ws, Nat.reduceAdd, Nat.reduceSub, Nat.reduceMul, Nat.reduceLeDiff, Nat.reduceEqDiff, Nat.reduceLT, Nat.reduceBEq, reduceIte, reduceCtorEq, Int.reduceToNat, Nat.reduceShiftRight, Nat.reduceAnd, Nat.reduceBneDiff, Nat.reduceBNe, c3r5, semI.eq_10, semI.eq_11, semI.eq_3, semI.eq_5, semI.eq_7, e_api_Ledger, e_api_Disk, e_api_Write]
  repeat (refine And.intro ?_ ?_; · first | omega | (simp only [List.length_append, List.length_cons, List.length_nil] at *; omega) | (intro q; simp only [wz, wd, ws, Nat.reduceAdd, Nat.reduceSub, Nat.reduceMul, Nat.reduceLeDiff, Nat.reduceEqDiff, Nat.reduceLT, Nat.reduceBEq, reduceIte, reduceCtorEq, Int.reduceToNat, Nat.reduceShiftRight, Nat.reduceAnd, Nat.reduceBneDiff, Nat.reduceBNe, q]; done))
  refine call_alt (v := .b (.s (.d (.sl (t2.1.Disk.Sectors.map eS))))) rfl rfl (by simp only [wz, wd, ws, Nat.reduceAdd, Nat.reduceSub, Nat.reduceMul, Nat.reduceLeDiff, Nat.reduceEqDiff, Nat.reduceLT, Nat.reduceBEq, reduceIte, reduceCtorEq, Int.reduceToNat, Nat.reduceShiftRight, Nat.reduceAnd, Nat.reduceBneDiff, Nat.reduceBNe]) (fun q => ⟨_, by simp only [wz, wd, ws, Nat.reduceAdd, Nat.reduceSub, Nat.reduceMul, Nat.reduceLeDiff, Nat.reduceEqDiff, Nat.reduceLT, Nat.reduceBEq, reduceIte, reduceCtorEq, Int.reduceToNat, Nat.reduceShiftRight, Nat.reduceAnd, Nat.reduceBneDiff, Nat.reduceBNe, semI.eq_10, e_api_Ledger, e_api_Disk, e_api_Write], trivial⟩) ?_
  simp only [wz, wd, ws, Nat.reduceAdd, Nat.reduceSub, Nat.reduceMul, Nat.reduceLeDiff, Nat.reduceEqDiff, Nat.reduceLT, Nat.reduceBEq, reduceIte, reduceCtorEq, Int.reduceToNat, Nat.reduceShiftRight, Nat.reduceAnd, Nat.reduceBneDiff, Nat.reduceBNe, c3r5, semI.eq_10, semI.eq_11, semI.eq_3, semI.eq_5, semI.eq_7, e_api_Ledger, e_api_Disk, e_api_Write]
  repeat (refine And.intro ?_ ?_; · first | omega | (simp only [List.length_append, List.length_cons, List.length_nil] at *; omega) | (intro q; simp only [wz, wd, ws, Nat.reduceAdd, Nat.reduceSub, Nat.reduceMul, Nat.reduceLeDiff, Nat.reduceEqDiff, Nat.reduceLT, Nat.reduceBEq, reduceIte, reduceCtorEq, Int.reduceToNat, Nat.reduceShiftRight, Nat.reduceAnd, Nat.reduceBneDiff, Nat.reduceBNe, q]; done))
  obtain ⟨t6, e6, h⟩ := Option.bind_eq_some_iff.1 h
  refine call_funG [] rfl (by simp only [wz, wd, ws, Nat.reduceAdd, Nat.reduceSub, Nat.reduceMul, Nat.reduceLeDiff, Nat.reduceEqDiff, Nat.reduceLT, Nat.reduceBEq, reduceIte, reduceCtorEq, Int.reduceToNat, Nat.reduceShiftRight, Nat.reduceAnd, Nat.reduceBneDiff, Nat.reduceBNe]) rfl ?_ (fun q => (f_law10_alive_ok _ (gx_iff e6 (by simpa using q)))) rfl (fun i hi => by cases hi) ?_
  · simp only [wz, wd, ws, Nat.reduceAdd, Nat.reduceSub, Nat.reduceMul, Nat.reduceLeDiff, Nat.reduceEqDiff, Nat.reduceLT, Nat.reduceBEq, reduceIte, reduceCtorEq, Int.reduceToNat, Nat.reduceShiftRight, Nat.reduceAnd, Nat.reduceBneDiff, Nat.reduceBNe, e_api_Ledger, e_api_Disk, e_api_Write]
  simp only [wz, wd, ws, Nat.reduceAdd, Nat.reduceSub, Nat.reduceMul, Nat.reduceLeDiff, Nat.reduceEqDiff, Nat.reduceLT, Nat.reduceBEq, reduceIte, reduceCtorEq, Int.reduceToNat, Nat.reduceShiftRight, Nat.reduceAnd, Nat.reduceBneDiff, Nat.reduceBNe, c3r5, semI.eq_10, semI.eq_11, semI.eq_3, semI.eq_5, semI.eq_7, e_api_Ledger, e_api_Disk, e_api_Write]
  repeat (refine And.intro ?_ ?_; · first | omega | (simp only [List.length_append, List.length_cons, List.length_nil] at *; omega) | (intro q; simp only [wz, wd, ws, Nat.reduceAdd, Nat.reduceSub, Nat.reduceMul, Nat.reduceLeDiff, Nat.reduceEqDiff, Nat.reduceLT, Nat.reduceBEq, reduceIte, reduceCtorEq, Int.reduceToNat, Nat.reduceShiftRight, Nat.reduceAnd, Nat.reduceBneDiff, Nat.reduceBNe, q]; done))
  refine .cond (p := ((((t2.2 != t3.2) || ((t2.2 == 0) && (!t5))) || ((t2.2 != 0) && ((t2.1.Disk.Sectors.length : Int) != 0))) || (!t6))) (by first | rfl | simp only [wz, wd, ws, Nat.reduceAdd, Nat.reduceSub, Nat.reduceMul, Nat.reduceLeDiff, Nat.reduceEqDiff, Nat.reduceLT, Nat.reduceBEq, reduceIte, reduceCtorEq, Int.reduceToNat, Nat.reduceShiftRight, Nat.reduceAnd, Nat.reduceBneDiff, Nat.reduceBNe]) (fun h1 => ?_) (fun h1 => ?_)
  · rw [ite_t h1] at h
    refine .seq ?_
    refine Rw.walk ?_
    simp only [wz, wd, ws, Nat.reduceAdd, Nat.reduceSub, Nat.reduceMul, Nat.reduceLeDiff, Nat.reduceEqDiff, Nat.reduceLT, Nat.reduceBEq, reduceIte, reduceCtorEq, Int.reduceToNat, Nat.reduceShiftRight, Nat.reduceAnd, Nat.reduceBneDiff, Nat.reduceBNe, c3r6, semI.eq_10, semI.eq_11, semI.eq_3, semI.eq_5, semI.eq_7, e_api_Ledger, e_api_Disk, e_api_Write]
    obtain rfl := Option.some.inj h
    refine .ret ?_
    rw [← hR]
    simp only [wz, wd, ws, Nat.reduceAdd, Nat.reduceSub, Nat.reduceMul, Nat.reduceLeDiff, Nat.reduceEqDiff, Nat.reduceLT, Nat.reduceBEq, reduceIte, reduceCtorEq, Int.reduceToNat, Nat.reduceShiftRight, Nat.reduceAnd, Nat.reduceBneDiff, Nat.reduceBNe, rv3, e_api_Ledger, e_api_Disk, e_api_Write]
  · rw [ite_f h1] at h
    refine .skip ?_
    refine .seq ?_
    obtain ⟨s, hf, h⟩ := Option.bind_eq_some_iff.1 h
    refine W.cutQ (fun s2 : Unit => s = Sum.inl s2) (fun s2 => ⟨lkT [(3, .b (.s (.ptr 3 1 0 0))), (5, .b (.s (.ptr 5 1 0 0))), (7, .b (.s (.ptr 7 1 0 0))), (8, .b (.s (.d (.int .i64 t2.2)))), (9, .b (.s (.ptr 9 1 0 0))), (10, .b (.s (.d (.int .i64 t3.2))))], lkG [(3, ⟨2, [[(.d (.sl (t.Sectors.map eS))), (.d (.sl (t.Dirty.map e_api_Write)))]], false⟩), (5, ⟨6, [[(.d (.sl (odd.Disk.Sectors.map eS))), (.d (.sl (odd.Disk.Dirty.map e_api_Write))), (.d (.int .i64 odd.Half)), (.d (.int .i64 odd.Gen)), (.d (.int .i64 odd.Used)), (.d (.sl (odd.Entries.map eS)))]], false⟩), (7, ⟨6, [[(.d (.sl (t2.1.Disk.Sectors.map eS))), (.d (.sl (t2.1.Disk.Dirty.map e_api_Write))), (.d (.int .i64 t2.1.Half)), (.d (.int .i64 t2.1.Gen)), (.d (.int .i64 t2.1.Used)), (.d (.sl (t2.1.Entries.map eS)))]], false⟩), (9, ⟨6, [[(.d (.sl (t3.1.Disk.Sectors.map eS))), (.d (.sl (t3.1.Disk.Dirty.map e_api_Write))), (.d (.int .i64 t3.1.Half)), (.d (.int .i64 t3.1.Gen)), (.d (.int .i64 t3.1.Used)), (.d (.sl (t3.1.Entries.map eS)))]], false⟩)]⟩) (fun s2 hs => ?_) (fun tail => ?_)
    · subst hs; dsimp only at h
      refine .seq ?_
      refine RwD.walk ?_
      simp only [wz, wd, ws, Nat.reduceAdd, Nat.reduceSub, Nat.reduceMul, Nat.reduceLeDiff, Nat.reduceEqDiff, Nat.reduceLT, Nat.reduceBEq, reduceIte, reduceCtorEq, Int.reduceToNat, Nat.reduceShiftRight, Nat.reduceAnd, Nat.reduceBneDiff, Nat.reduceBNe, c3r12, semI.eq_10, semI.eq_11, semI.eq_3, semI.eq_5, semI.eq_7, e_api_Ledger, e_api_Disk, e_api_Write]
      obtain ⟨g7, h⟩ := gd_iff.1 h
      repeat (refine And.intro ?_ ?_; · first | omega | (simp only [List.length_append, List.length_cons, List.length_nil] at *; omega) | (intro q; simp only [wz, wd, ws, Nat.reduceAdd, Nat.reduceSub, Nat.reduceMul, Nat.reduceLeDiff, Nat.reduceEqDiff, Nat.reduceLT, Nat.reduceBEq, reduceIte, reduceCtorEq, Int.reduceToNat, Nat.reduceShiftRight, Nat.reduceAnd, Nat.reduceBneDiff, Nat.reduceBNe, q]; done))
      refine GoD1.of (sem_slc (p := 0) (q := (if 8 < (odd.Entries.length : Int) then 8 else (odd.Entries.length : Int))) eS_len (by rfl) (by rfl) (by rfl)) ?_
      simp only [wz, wd, ws, Nat.reduceAdd, Nat.reduceSub, Nat.reduceMul, Nat.reduceLeDiff, Nat.reduceEqDiff, Nat.reduceLT, Nat.reduceBEq, reduceIte, reduceCtorEq, Int.reduceToNat, Nat.reduceShiftRight, Nat.reduceAnd, Nat.reduceBneDiff, Nat.reduceBNe, c3r12, semI.eq_10, semI.eq_11, semI.eq_3, semI.eq_5, semI.eq_7, e_api_Ledger, e_api_Disk, e_api_Write]
      repeat (refine And.intro ?_ ?_; · first | omega | (simp only [List.length_append, List.length_cons, List.length_nil] at *; omega) | (intro q; simp only [wz, wd, ws, Nat.reduceAdd, Nat.reduceSub, Nat.reduceMul, Nat.reduceLeDiff, Nat.reduceEqDiff, Nat.reduceLT, Nat.reduceBEq, reduceIte, reduceCtorEq, Int.reduceToNat, Nat.reduceShiftRight, Nat.reduceAnd, Nat.reduceBneDiff, Nat.reduceBNe, q]; done))
      refine .seq ?_
      refine Rw.walk ?_
      simp only [wz, wd, ws, Nat.reduceAdd, Nat.reduceSub, Nat.reduceMul, Nat.reduceLeDiff, Nat.reduceEqDiff, Nat.reduceLT, Nat.reduceBEq, reduceIte, reduceCtorEq, Int.reduceToNat, Nat.reduceShiftRight, Nat.reduceAnd, Nat.reduceBneDiff, Nat.reduceBNe, c3r13, semI.eq_10, semI.eq_11, semI.eq_3, semI.eq_5, semI.eq_7, e_api_Ledger, e_api_Disk, e_api_Write]
      obtain ⟨t7, e8, h⟩ := Option.bind_eq_some_iff.1 h
      refine call_fun [] false ⟨trivial, trivial, trivial⟩ rfl ?_ (f_ledger_Right_ok _ _ e8) (fun _ => rfl) (fun i hi => by cases hi) ?_
      · simp only [wz, wd, ws, Nat.reduceAdd, Nat.reduceSub, Nat.reduceMul, Nat.reduceLeDiff, Nat.reduceEqDiff, Nat.reduceLT, Nat.reduceBEq, reduceIte, reduceCtorEq, Int.reduceToNat, Nat.reduceShiftRight, Nat.reduceAnd, Nat.reduceBneDiff, Nat.reduceBNe, e_api_Ledger, e_api_Disk, e_api_Write]
      simp only [wz, wd, ws, Nat.reduceAdd, Nat.reduceSub, Nat.reduceMul, Nat.reduceLeDiff, Nat.reduceEqDiff, Nat.reduceLT, Nat.reduceBEq, reduceIte, reduceCtorEq, Int.reduceToNat, Nat.reduceShiftRight, Nat.reduceAnd, Nat.reduceBneDiff, Nat.reduceBNe, c3r13, semI.eq_10, semI.eq_11, semI.eq_3, semI.eq_5, semI.eq_7, e_api_Ledger, e_api_Disk, e_api_Write]
      refine call_alt (v := .b (.agg [(.d (.sl (t.Sectors.map eS))), (.d (.sl (t.Dirty.map e_api_Write))), (.d (.int .i64 odd.Half)), (.d (.int .i64 odd.Gen)), (.d (.int .i64 odd.Used)), (.d (.sl ((cut odd.Entries 0 (if 8 < (odd.Entries.length : Int) then 8 else (odd.Entries.length : Int))).map eS)))])) rfl rfl (by simp only [wz, wd, ws, Nat.reduceAdd, Nat.reduceSub, Nat.reduceMul, Nat.reduceLeDiff, Nat.reduceEqDiff, Nat.reduceLT, Nat.reduceBEq, reduceIte, reduceCtorEq, Int.reduceToNat, Nat.reduceShiftRight, Nat.reduceAnd, Nat.reduceBneDiff, Nat.reduceBNe]) (fun q => ⟨_, by simp only [wz, wd, ws, Nat.reduceAdd, Nat.reduceSub, Nat.reduceMul, Nat.reduceLeDiff, Nat.reduceEqDiff, Nat.reduceLT, Nat.reduceBEq, reduceIte, reduceCtorEq, Int.reduceToNat, Nat.reduceShiftRight, Nat.reduceAnd, Nat.reduceBneDiff, Nat.reduceBNe, semI.eq_10, e_api_Ledger, e_api_Disk, e_api_Write], trivial⟩) ?_
      simp only [wz, wd, ws, Nat.reduceAdd, Nat.reduceSub, Nat.reduceMul, Nat.reduceLeDiff, Nat.reduceEqDiff, Nat.reduceLT, Nat.reduceBEq, reduceIte, reduceCtorEq, Int.reduceToNat, Nat.reduceShiftRight, Nat.reduceAnd, Nat.reduceBneDiff, Nat.reduceBNe, c3r13, semI.eq_10, semI.eq_11, semI.eq_3, semI.eq_5, semI.eq_7, e_api_Ledger, e_api_Disk, e_api_Write]
      refine call_alt (v := .b (.agg [(.d (.sl (t3.1.Disk.Sectors.map eS))), (.d (.sl (t3.1.Disk.Dirty.map e_api_Write))), (.d (.int .i64 t3.1.Half)), (.d (.int .i64 t3.1.Gen)), (.d (.int .i64 t3.1.Used)), (.d (.sl (t3.1.Entries.map eS)))])) rfl rfl (by simp only [wz, wd, ws, Nat.reduceAdd, Nat.reduceSub, Nat.reduceMul, Nat.reduceLeDiff, Nat.reduceEqDiff, Nat.reduceLT, Nat.reduceBEq, reduceIte, reduceCtorEq, Int.reduceToNat, Nat.reduceShiftRight, Nat.reduceAnd, Nat.reduceBneDiff, Nat.reduceBNe]) (fun q => ⟨_, by simp only [wz, wd, ws, Nat.reduceAdd, Nat.reduceSub, Nat.reduceMul, Nat.reduceLeDiff, Nat.reduceEqDiff, Nat.reduceLT, Nat.reduceBEq, reduceIte, reduceCtorEq, Int.reduceToNat, Nat.reduceShiftRight, Nat.reduceAnd, Nat.reduceBneDiff, Nat.reduceBNe, semI.eq_10, e_api_Ledger, e_api_Disk, e_api_Write], trivial⟩) ?_
      simp only [wz, wd, ws, Nat.reduceAdd, Nat.reduceSub, Nat.reduceMul, Nat.reduceLeDiff, Nat.reduceEqDiff, Nat.reduceLT, Nat.reduceBEq, reduceIte, reduceCtorEq, Int.reduceToNat, Nat.reduceShiftRight, Nat.reduceAnd, Nat.reduceBneDiff, Nat.reduceBNe, c3r13, semI.eq_10, semI.eq_11, semI.eq_3, semI.eq_5, semI.eq_7, e_api_Ledger, e_api_Disk, e_api_Write]
      obtain ⟨t8, e9, h⟩ := Option.bind_eq_some_iff.1 h
      refine call_funG [] rfl (by simp only [wz, wd, ws, Nat.reduceAdd, Nat.reduceSub, Nat.reduceMul, Nat.reduceLeDiff, Nat.reduceEqDiff, Nat.reduceLT, Nat.reduceBEq, reduceIte, reduceCtorEq, Int.reduceToNat, Nat.reduceShiftRight, Nat.reduceAnd, Nat.reduceBneDiff, Nat.reduceBNe]) rfl ?_ (fun q => (f_ref10_Like_ok _ _ _ (gx_iff e9 (by simpa using q)))) rfl (fun i hi => by cases hi) ?_
      · simp only [wz, wd, ws, Nat.reduceAdd, Nat.reduceSub, Nat.reduceMul, Nat.reduceLeDiff, Nat.reduceEqDiff, Nat.reduceLT, Nat.reduceBEq, reduceIte, reduceCtorEq, Int.reduceToNat, Nat.reduceShiftRight, Nat.reduceAnd, Nat.reduceBneDiff, Nat.reduceBNe, e_api_Ledger, e_api_Disk, e_api_Write]
      simp only [wz, wd, ws, Nat.reduceAdd, Nat.reduceSub, Nat.reduceMul, Nat.reduceLeDiff, Nat.reduceEqDiff, Nat.reduceLT, Nat.reduceBEq, reduceIte, reduceCtorEq, Int.reduceToNat, Nat.reduceShiftRight, Nat.reduceAnd, Nat.reduceBneDiff, Nat.reduceBNe, c3r13, semI.eq_10, semI.eq_11, semI.eq_3, semI.eq_5, semI.eq_7, e_api_Ledger, e_api_Disk, e_api_Write]
      repeat (refine And.intro ?_ ?_; · first | omega | (simp only [List.length_append, List.length_cons, List.length_nil] at *; omega) | (intro q; simp only [wz, wd, ws, Nat.reduceAdd, Nat.reduceSub, Nat.reduceMul, Nat.reduceLeDiff, Nat.reduceEqDiff, Nat.reduceLT, Nat.reduceBEq, reduceIte, reduceCtorEq, Int.reduceToNat, Nat.reduceShiftRight, Nat.reduceAnd, Nat.reduceBneDiff, Nat.reduceBNe, q]; done))
      refine call_alt (v := .b (.agg [(.d (.sl (t2.1.Disk.Sectors.map eS))), (.d (.sl (t2.1.Disk.Dirty.map e_api_Write))), (.d (.int .i64 t2.1.Half)), (.d (.int .i64 t2.1.Gen)), (.d (.int .i64 t2.1.Used)), (.d (.sl (t2.1.Entries.map eS)))])) rfl rfl (by simp only [wz, wd, ws, Nat.reduceAdd, Nat.reduceSub, Nat.reduceMul, Nat.reduceLeDiff, Nat.reduceEqDiff, Nat.reduceLT, Nat.reduceBEq, reduceIte, reduceCtorEq, Int.reduceToNat, Nat.reduceShiftRight, Nat.reduceAnd, Nat.reduceBneDiff, Nat.reduceBNe]) (fun q => ⟨_, by simp only [wz, wd, ws, Nat.reduceAdd, Nat.reduceSub, Nat.reduceMul, Nat.reduceLeDiff, Nat.reduceEqDiff, Nat.reduceLT, Nat.reduceBEq, reduceIte, reduceCtorEq, Int.reduceToNat, Nat.reduceShiftRight, Nat.reduceAnd, Nat.reduceBneDiff, Nat.reduceBNe, semI.eq_10, e_api_Ledger, e_api_Disk, e_api_Write], trivial⟩) ?_
      simp only [wz, wd, ws, Nat.reduceAdd, Nat.reduceSub, Nat.reduceMul, Nat.reduceLeDiff, Nat.reduceEqDiff, Nat.reduceLT, Nat.reduceBEq, reduceIte, reduceCtorEq, Int.reduceToNat, Nat.reduceShiftRight, Nat.reduceAnd, Nat.reduceBneDiff, Nat.reduceBNe, c3r13, semI.eq_10, semI.eq_11, semI.eq_3, semI.eq_5, semI.eq_7, e_api_Ledger, e_api_Disk, e_api_Write]
      obtain ⟨t9, e10, h⟩ := Option.bind_eq_some_iff.1 h
      refine call_funG [] rfl (by simp only [wz, wd, ws, Nat.reduceAdd, Nat.reduceSub, Nat.reduceMul, Nat.reduceLeDiff, Nat.reduceEqDiff, Nat.reduceLT, Nat.reduceBEq, reduceIte, reduceCtorEq, Int.reduceToNat, Nat.reduceShiftRight, Nat.reduceAnd, Nat.reduceBneDiff, Nat.reduceBNe]) rfl ?_ (fun q => (f_ledger_Right_ok _ _ (gx_iff e10 (by simpa using q)))) rfl (fun i hi => by cases hi) ?_
      · simp only [wz, wd, ws, Nat.reduceAdd, Nat.reduceSub, Nat.reduceMul, Nat.reduceLeDiff, Nat.reduceEqDiff, Nat.reduceLT, Nat.reduceBEq, reduceIte, reduceCtorEq, Int.reduceToNat, Nat.reduceShiftRight, Nat.reduceAnd, Nat.reduceBneDiff, Nat.reduceBNe, e_api_Ledger, e_api_Disk, e_api_Write]
      simp only [wz, wd, ws, Nat.reduceAdd, Nat.reduceSub, Nat.reduceMul, Nat.reduceLeDiff, Nat.reduceEqDiff, Nat.reduceLT, Nat.reduceBEq, reduceIte, reduceCtorEq, Int.reduceToNat, Nat.reduceShiftRight, Nat.reduceAnd, Nat.reduceBneDiff, Nat.reduceBNe, c3r13, semI.eq_10, semI.eq_11, semI.eq_3, semI.eq_5, semI.eq_7, e_api_Ledger, e_api_Disk, e_api_Write]
      repeat (refine And.intro ?_ ?_; · first | omega | (simp only [List.length_append, List.length_cons, List.length_nil] at *; omega) | (intro q; simp only [wz, wd, ws, Nat.reduceAdd, Nat.reduceSub, Nat.reduceMul, Nat.reduceLeDiff, Nat.reduceEqDiff, Nat.reduceLT, Nat.reduceBEq, reduceIte, reduceCtorEq, Int.reduceToNat, Nat.reduceShiftRight, Nat.reduceAnd, Nat.reduceBneDiff, Nat.reduceBNe, q]; done))
      obtain rfl := Option.some.inj h
      refine .ret ?_
      rw [← hR]
      simp only [wz, wd, ws, Nat.reduceAdd, Nat.reduceSub, Nat.reduceMul, Nat.reduceLeDiff, Nat.reduceEqDiff, Nat.reduceLT, Nat.reduceBEq, reduceIte, reduceCtorEq, Int.reduceToNat, Nat.reduceShiftRight, Nat.reduceAnd, Nat.reduceBneDiff, Nat.reduceBNe, rv3, e_api_Ledger, e_api_Disk, e_api_Write]
    have h0_1 := h; replace h := hf
    refine .seq ?_
    refine Rw.walk ?_
    simp only [wz, wd, ws, Nat.reduceAdd, Nat.reduceSub, Nat.reduceMul, Nat.reduceLeDiff, Nat.reduceEqDiff, Nat.reduceLT, Nat.reduceBEq, reduceIte, reduceCtorEq, Int.reduceToNat, Nat.reduceShiftRight, Nat.reduceAnd, Nat.reduceBneDiff, Nat.reduceBNe, c3r7, semI.eq_10, semI.eq_11, semI.eq_3, semI.eq_5, semI.eq_7, e_api_Ledger, e_api_Disk, e_api_Write]
    repeat (refine And.intro ?_ ?_; · first | omega | (simp only [List.length_append, List.length_cons, List.length_nil] at *; omega) | (intro q; simp only [wz, wd, ws, Nat.reduceAdd, Nat.reduceSub, Nat.reduceMul, Nat.reduceLeDiff, Nat.reduceEqDiff, Nat.reduceLT, Nat.reduceBEq, reduceIte, reduceCtorEq, Int.reduceToNat, Nat.reduceShiftRight, Nat.reduceAnd, Nat.reduceBneDiff, Nat.reduceBNe, q]; done))
    refine .cond (p := ((decide (sectors < 4)) || (decide (sectors > 64)))) (by first | rfl | simp only [wz, wd, ws, Nat.reduceAdd, Nat.reduceSub, Nat.reduceMul, Nat.reduceLeDiff, Nat.reduceEqDiff, Nat.reduceLT, Nat.reduceBEq, reduceIte, reduceCtorEq, Int.reduceToNat, Nat.reduceShiftRight, Nat.reduceAnd, Nat.reduceBneDiff, Nat.reduceBNe]) (fun h1 => ?_) (fun h1 => ?_)
    · rw [ite_t h1] at h
      refine .seq ?_
      refine Rw.walk ?_
      simp only [wz, wd, ws, Nat.reduceAdd, Nat.reduceSub, Nat.reduceMul, Nat.reduceLeDiff, Nat.reduceEqDiff, Nat.reduceLT, Nat.reduceBEq, reduceIte, reduceCtorEq, Int.reduceToNat, Nat.reduceShiftRight, Nat.reduceAnd, Nat.reduceBneDiff, Nat.reduceBNe, c3r8, semI.eq_10, semI.eq_11, semI.eq_3, semI.eq_5, semI.eq_7, e_api_Ledger, e_api_Disk, e_api_Write]
      refine .cond (p := (t4.2 != 1)) (by first | rfl | simp only [wz, wd, ws, Nat.reduceAdd, Nat.reduceSub, Nat.reduceMul, Nat.reduceLeDiff, Nat.reduceEqDiff, Nat.reduceLT, Nat.reduceBEq, reduceIte, reduceCtorEq, Int.reduceToNat, Nat.reduceShiftRight, Nat.reduceAnd, Nat.reduceBneDiff, Nat.reduceBNe]) (fun h1 => ?_) (fun h1 => ?_)
      · rw [ite_t h1] at h
        refine .seq ?_
        refine Rw.walk ?_
        simp only [wz, wd, ws, Nat.reduceAdd, Nat.reduceSub, Nat.reduceMul, Nat.reduceLeDiff, Nat.reduceEqDiff, Nat.reduceLT, Nat.reduceBEq, reduceIte, reduceCtorEq, Int.reduceToNat, Nat.reduceShiftRight, Nat.reduceAnd, Nat.reduceBneDiff, Nat.reduceBNe, c3r9, semI.eq_10, semI.eq_11, semI.eq_3, semI.eq_5, semI.eq_7, e_api_Ledger, e_api_Disk, e_api_Write]
        obtain rfl := Option.some.inj h; replace h := h0_1; dsimp only at h
        obtain rfl := Option.some.inj h
        refine .ret ?_
        rw [← hR]
        simp only [wz, wd, ws, Nat.reduceAdd, Nat.reduceSub, Nat.reduceMul, Nat.reduceLeDiff, Nat.reduceEqDiff, Nat.reduceLT, Nat.reduceBEq, reduceIte, reduceCtorEq, Int.reduceToNat, Nat.reduceShiftRight, Nat.reduceAnd, Nat.reduceBneDiff, Nat.reduceBNe, rv3, e_api_Ledger, e_api_Disk, e_api_Write]
      · rw [ite_f h1] at h
        refine .skip ?_
        obtain rfl := Option.some.inj h
        refine .weak (Imp.co [] _ _ ?_ ?_ ?_ ?_ ?_) (tail _ rfl) <;> simp only [wz, wd, ws, Nat.reduceAdd, Nat.reduceSub, Nat.reduceMul, Nat.reduceLeDiff, Nat.reduceEqDiff, Nat.reduceLT, Nat.reduceBEq, reduceIte, reduceCtorEq, Int.reduceToNat, Nat.reduceShiftRight, Nat.reduceAnd, Nat.reduceBneDiff, Nat.reduceBNe, wi, er_nil, e_api_Ledger, e_api_Disk, e_api_Write]
    · rw [ite_f h1] at h
      refine .seq ?_
      refine RwD.walk ?_
      simp only [wz, wd, ws, Nat.reduceAdd, Nat.reduceSub, Nat.reduceMul, Nat.reduceLeDiff, Nat.reduceEqDiff, Nat.reduceLT, Nat.reduceBEq, reduceIte, reduceCtorEq, Int.reduceToNat, Nat.reduceShiftRight, Nat.reduceAnd, Nat.reduceBneDiff, Nat.reduceBNe, c3r10, semI.eq_10, semI.eq_11, semI.eq_3, semI.eq_5, semI.eq_7, e_api_Ledger, e_api_Disk, e_api_Write]
      refine call_alt (v := .b (.s (.d (.int .i64 t4.1.Gen)))) rfl rfl (by simp only [wz, wd, ws, Nat.reduceAdd, Nat.reduceSub, Nat.reduceMul, Nat.reduceLeDiff, Nat.reduceEqDiff, Nat.reduceLT, Nat.reduceBEq, reduceIte, reduceCtorEq, Int.reduceToNat, Nat.reduceShiftRight, Nat.reduceAnd, Nat.reduceBneDiff, Nat.reduceBNe]) (fun q => ⟨_, by simp only [wz, wd, ws, Nat.reduceAdd, Nat.reduceSub, Nat.reduceMul, Nat.reduceLeDiff, Nat.reduceEqDiff, Nat.reduceLT, Nat.reduceBEq, reduceIte, reduceCtorEq, Int.reduceToNat, Nat.reduceShiftRight, Nat.reduceAnd, Nat.reduceBneDiff, Nat.reduceBNe, semI.eq_10, e_api_Ledger, e_api_Disk, e_api_Write], trivial⟩) ?_
      simp only [wz, wd, ws, Nat.reduceAdd, Nat.reduceSub, Nat.reduceMul, Nat.reduceLeDiff, Nat.reduceEqDiff, Nat.reduceLT, Nat.reduceBEq, reduceIte, reduceCtorEq, Int.reduceToNat, Nat.reduceShiftRight, Nat.reduceAnd, Nat.reduceBneDiff, Nat.reduceBNe, c3r10, semI.eq_10, semI.eq_11, semI.eq_3, semI.eq_5, semI.eq_7, e_api_Ledger, e_api_Disk, e_api_Write]
      repeat (refine And.intro ?_ ?_; · first | omega | (simp only [List.length_append, List.length_cons, List.length_nil] at *; omega) | (intro q; simp only [wz, wd, ws, Nat.reduceAdd, Nat.reduceSub, Nat.reduceMul, Nat.reduceLeDiff, Nat.reduceEqDiff, Nat.reduceLT, Nat.reduceBEq, reduceIte, reduceCtorEq, Int.reduceToNat, Nat.reduceShiftRight, Nat.reduceAnd, Nat.reduceBneDiff, Nat.reduceBNe, q]; done))
      refine call_alt (v := .b (.s (.d (.int .i64 t4.1.Used)))) rfl rfl (by simp only [wz, wd, ws, Nat.reduceAdd, Nat.reduceSub, Nat.reduceMul, Nat.reduceLeDiff, Nat.reduceEqDiff, Nat.reduceLT, Nat.reduceBEq, reduceIte, reduceCtorEq, Int.reduceToNat, Nat.reduceShiftRight, Nat.reduceAnd, Nat.reduceBneDiff, Nat.reduceBNe]) (fun q => ⟨_, by simp only [wz, wd, ws, Nat.reduceAdd, Nat.reduceSub, Nat.reduceMul, Nat.reduceLeDiff, Nat.reduceEqDiff, Nat.reduceLT, Nat.reduceBEq, reduceIte, reduceCtorEq, Int.reduceToNat, Nat.reduceShiftRight, Nat.reduceAnd, Nat.reduceBneDiff, Nat.reduceBNe, semI.eq_10, e_api_Ledger, e_api_Disk, e_api_Write], trivial⟩) ?_
      simp only [wz, wd, ws, Nat.reduceAdd, Nat.reduceSub, Nat.reduceMul, Nat.reduceLeDiff, Nat.reduceEqDiff, Nat.reduceLT, Nat.reduceBEq, reduceIte, reduceCtorEq, Int.reduceToNat, Nat.reduceShiftRight, Nat.reduceAnd, Nat.reduceBneDiff, Nat.reduceBNe, c3r10, semI.eq_10, semI.eq_11, semI.eq_3, semI.eq_5, semI.eq_7, e_api_Ledger, e_api_Disk, e_api_Write]
      repeat (refine And.intro ?_ ?_; · first | omega | (simp only [List.length_append, List.length_cons, List.length_nil] at *; omega) | (intro q; simp only [wz, wd, ws, Nat.reduceAdd, Nat.reduceSub, Nat.reduceMul, Nat.reduceLeDiff, Nat.reduceEqDiff, Nat.reduceLT, Nat.reduceBEq, reduceIte, reduceCtorEq, Int.reduceToNat, Nat.reduceShiftRight, Nat.reduceAnd, Nat.reduceBneDiff, Nat.reduceBNe, q]; done))
      refine call_alt (v := .b (.s (.d (.sl (t4.1.Entries.map eS))))) rfl rfl (by simp only [wz, wd, ws, Nat.reduceAdd, Nat.reduceSub, Nat.reduceMul, Nat.reduceLeDiff, Nat.reduceEqDiff, Nat.reduceLT, Nat.reduceBEq, reduceIte, reduceCtorEq, Int.reduceToNat, Nat.reduceShiftRight, Nat.reduceAnd, Nat.reduceBneDiff, Nat.reduceBNe]) (fun q => ⟨_, by simp only [wz, wd, ws, Nat.reduceAdd, Nat.reduceSub, Nat.reduceMul, Nat.reduceLeDiff, Nat.reduceEqDiff, Nat.reduceLT, Nat.reduceBEq, reduceIte, reduceCtorEq, Int.reduceToNat, Nat.reduceShiftRight, Nat.reduceAnd, Nat.reduceBneDiff, Nat.reduceBNe, semI.eq_10, e_api_Ledger, e_api_Disk, e_api_Write], trivial⟩) ?_
      simp only [wz, wd, ws, Nat.reduceAdd, Nat.reduceSub, Nat.reduceMul, Nat.reduceLeDiff, Nat.reduceEqDiff, Nat.reduceLT, Nat.reduceBEq, reduceIte, reduceCtorEq, Int.reduceToNat, Nat.reduceShiftRight, Nat.reduceAnd, Nat.reduceBneDiff, Nat.reduceBNe, c3r10, semI.eq_10, semI.eq_11, semI.eq_3, semI.eq_5, semI.eq_7, e_api_Ledger, e_api_Disk, e_api_Write]
      repeat (refine And.intro ?_ ?_; · first | omega | (simp only [List.length_append, List.length_cons, List.length_nil] at *; omega) | (intro q; simp only [wz, wd, ws, Nat.reduceAdd, Nat.reduceSub, Nat.reduceMul, Nat.reduceLeDiff, Nat.reduceEqDiff, Nat.reduceLT, Nat.reduceBEq, reduceIte, reduceCtorEq, Int.reduceToNat, Nat.reduceShiftRight, Nat.reduceAnd, Nat.reduceBneDiff, Nat.reduceBNe, q]; done))
      refine call_alt (v := .b (.s (.d (.sl (t4.1.Disk.Sectors.map eS))))) rfl rfl (by simp only [wz, wd, ws, Nat.reduceAdd, Nat.reduceSub, Nat.reduceMul, Nat.reduceLeDiff, Nat.reduceEqDiff, Nat.reduceLT, Nat.reduceBEq, reduceIte, reduceCtorEq, Int.reduceToNat, Nat.reduceShiftRight, Nat.reduceAnd, Nat.reduceBneDiff, Nat.reduceBNe]) (fun q => ⟨_, by simp only [wz, wd, ws, Nat.reduceAdd, Nat.reduceSub, Nat.reduceMul, Nat.reduceLeDiff, Nat.reduceEqDiff, Nat.reduceLT, Nat.reduceBEq, reduceIte, reduceCtorEq, Int.reduceToNat, Nat.reduceShiftRight, Nat.reduceAnd, Nat.reduceBneDiff, Nat.reduceBNe, semI.eq_10, e_api_Ledger, e_api_Disk, e_api_Write], trivial⟩) ?_
      simp only [wz, wd, ws, Nat.reduceAdd, Nat.reduceSub, Nat.reduceMul, Nat.reduceLeDiff, Nat.reduceEqDiff, Nat.reduceLT, Nat.reduceBEq, reduceIte, reduceCtorEq, Int.reduceToNat, Nat.reduceShiftRight, Nat.reduceAnd, Nat.reduceBneDiff, Nat.reduceBNe, c3r10, semI.eq_10, semI.eq_11, semI.eq_3, semI.eq_5, semI.eq_7, e_api_Ledger, e_api_Disk, e_api_Write]
      obtain ⟨x, e11, h⟩ := Option.bind_eq_some_iff.1 h
      refine call_alt (v := .b (.s (.d (.ref [(.str x)] 0)))) rfl rfl (by simp only [wz, wd, ws, Nat.reduceAdd, Nat.reduceSub, Nat.reduceMul, Nat.reduceLeDiff, Nat.reduceEqDiff, Nat.reduceLT, Nat.reduceBEq, reduceIte, reduceCtorEq, Int.reduceToNat, Nat.reduceShiftRight, Nat.reduceAnd, Nat.reduceBneDiff, Nat.reduceBNe]) (fun q => ⟨_, sem_iadr (enc := eS) (l := t4.1.Disk.Sectors) eS_len (gx_iff e11 (by simpa using q)) rfl rfl, trivial⟩) ?_
      simp only [wz, wd, ws, Nat.reduceAdd, Nat.reduceSub, Nat.reduceMul, Nat.reduceLeDiff, Nat.reduceEqDiff, Nat.reduceLT, Nat.reduceBEq, reduceIte, reduceCtorEq, Int.reduceToNat, Nat.reduceShiftRight, Nat.reduceAnd, Nat.reduceBneDiff, Nat.reduceBNe, c3r10, semI.eq_10, semI.eq_11, semI.eq_3, semI.eq_5, semI.eq_7, e_api_Ledger, e_api_Disk, e_api_Write]
      refine call_alt (v := .b (.s (.d (.str x)))) rfl rfl (by simp only [wz, wd, ws, Nat.reduceAdd, Nat.reduceSub, Nat.reduceMul, Nat.reduceLeDiff, Nat.reduceEqDiff, Nat.reduceLT, Nat.reduceBEq, reduceIte, reduceCtorEq, Int.reduceToNat, Nat.reduceShiftRight, Nat.reduceAnd, Nat.reduceBneDiff, Nat.reduceBNe]) (fun q => ⟨_, by simp only [wz, wd, ws, Nat.reduceAdd, Nat.reduceSub, Nat.reduceMul, Nat.reduceLeDiff, Nat.reduceEqDiff, Nat.reduceLT, Nat.reduceBEq, reduceIte, reduceCtorEq, Int.reduceToNat, Nat.reduceShiftRight, Nat.reduceAnd, Nat.reduceBneDiff, Nat.reduceBNe, semI.eq_10, e_api_Ledger, e_api_Disk, e_api_Write], trivial⟩) ?_
      simp only [wz, wd, ws, Nat.reduceAdd, Nat.reduceSub, Nat.reduceMul, Nat.reduceLeDiff, Nat.reduceEqDiff, Nat.reduceLT, Nat.reduceBEq, reduceIte, reduceCtorEq, Int.reduceToNat, Nat.reduceShiftRight, Nat.reduceAnd, Nat.reduceBneDiff, Nat.reduceBNe, c3r10, semI.eq_10, semI.eq_11, semI.eq_3, semI.eq_5, semI.eq_7, e_api_Ledger, e_api_Disk, e_api_Write]
      obtain ⟨t7, e12, h⟩ := Option.bind_eq_some_iff.1 h
      refine call_funG [] rfl (by simp only [wz, wd, ws, Nat.reduceAdd, Nat.reduceSub, Nat.reduceMul, Nat.reduceLeDiff, Nat.reduceEqDiff, Nat.reduceLT, Nat.reduceBEq, reduceIte, reduceCtorEq, Int.reduceToNat, Nat.reduceShiftRight, Nat.reduceAnd, Nat.reduceBneDiff, Nat.reduceBNe]) rfl ?_ (fun q => (f_ref10_Head_ok _ _ _ (gx_iff e12 (by simpa using q)))) rfl (fun i hi => by cases hi) ?_
      · simp only [wz, wd, ws, Nat.reduceAdd, Nat.reduceSub, Nat.reduceMul, Nat.reduceLeDiff, Nat.reduceEqDiff, Nat.reduceLT, Nat.reduceBEq, reduceIte, reduceCtorEq, Int.reduceToNat, Nat.reduceShiftRight, Nat.reduceAnd, Nat.reduceBneDiff, Nat.reduceBNe, e_api_Ledger, e_api_Disk, e_api_Write]
      simp only [wz, wd, ws, Nat.reduceAdd, Nat.reduceSub, Nat.reduceMul, Nat.reduceLeDiff, Nat.reduceEqDiff, Nat.reduceLT, Nat.reduceBEq, reduceIte, reduceCtorEq, Int.reduceToNat, Nat.reduceShiftRight, Nat.reduceAnd, Nat.reduceBneDiff, Nat.reduceBNe, c3r10, semI.eq_10, semI.eq_11, semI.eq_3, semI.eq_5, semI.eq_7, e_api_Ledger, e_api_Disk, e_api_Write]
      repeat (refine And.intro ?_ ?_; · first | omega | (simp only [List.length_append, List.length_cons, List.length_nil] at *; omega) | (intro q; simp only [wz, wd, ws, Nat.reduceAdd, Nat.reduceSub, Nat.reduceMul, Nat.reduceLeDiff, Nat.reduceEqDiff, Nat.reduceLT, Nat.reduceBEq, reduceIte, reduceCtorEq, Int.reduceToNat, Nat.reduceShiftRight, Nat.reduceAnd, Nat.reduceBneDiff, Nat.reduceBNe, q]; done))
      refine call_alt (v := .b (.agg [(.d (.sl (t4.1.Disk.Sectors.map eS))), (.d (.sl (t4.1.Disk.Dirty.map e_api_Write))), (.d (.int .i64 t4.1.Half)), (.d (.int .i64 t4.1.Gen)), (.d (.int .i64 t4.1.Used)), (.d (.sl (t4.1.Entries.map eS)))])) rfl rfl (by simp only [wz, wd, ws, Nat.reduceAdd, Nat.reduceSub, Nat.reduceMul, Nat.reduceLeDiff, Nat.reduceEqDiff, Nat.reduceLT, Nat.reduceBEq, reduceIte, reduceCtorEq, Int.reduceToNat, Nat.reduceShiftRight, Nat.reduceAnd, Nat.reduceBneDiff, Nat.reduceBNe]) (fun q => ⟨_, by simp only [wz, wd, ws, Nat.reduceAdd, Nat.reduceSub, Nat.reduceMul, Nat.reduceLeDiff, Nat.reduceEqDiff, Nat.reduceLT, Nat.reduceBEq, reduceIte, reduceCtorEq, Int.reduceToNat, Nat.reduceShiftRight, Nat.reduceAnd, Nat.reduceBneDiff, Nat.reduceBNe, semI.eq_10, e_api_Ledger, e_api_Disk, e_api_Write], trivial⟩) ?_
      simp only [wz, wd, ws, Nat.reduceAdd, Nat.reduceSub, Nat.reduceMul, Nat.reduceLeDiff, Nat.reduceEqDiff, Nat.reduceLT, Nat.reduceBEq, reduceIte, reduceCtorEq, Int.reduceToNat, Nat.reduceShiftRight, Nat.reduceAnd, Nat.reduceBneDiff, Nat.reduceBNe, c3r10, semI.eq_10, semI.eq_11, semI.eq_3, semI.eq_5, semI.eq_7, e_api_Ledger, e_api_Disk, e_api_Write]
      obtain ⟨t8, e13, h⟩ := Option.bind_eq_some_iff.1 h
      refine call_funG [] rfl (by simp only [wz, wd, ws, Nat.reduceAdd, Nat.reduceSub, Nat.reduceMul, Nat.reduceLeDiff, Nat.reduceEqDiff, Nat.reduceLT, Nat.reduceBEq, reduceIte, reduceCtorEq, Int.reduceToNat, Nat.reduceShiftRight, Nat.reduceAnd, Nat.reduceBneDiff, Nat.reduceBNe]) rfl ?_ (fun q => (f_ledger_Right_ok _ _ (gx_iff e13 (by simpa using q)))) rfl (fun i hi => by cases hi) ?_
      · simp only [wz, wd, ws, Nat.reduceAdd, Nat.reduceSub, Nat.reduceMul, Nat.reduceLeDiff, Nat.reduceEqDiff, Nat.reduceLT, Nat.reduceBEq, reduceIte, reduceCtorEq, Int.reduceToNat, Nat.reduceShiftRight, Nat.reduceAnd, Nat.reduceBneDiff, Nat.reduceBNe, e_api_Ledger, e_api_Disk, e_api_Write]
      simp only [wz, wd, ws, Nat.reduceAdd, Nat.reduceSub, Nat.reduceMul, Nat.reduceLeDiff, Nat.reduceEqDiff, Nat.reduceLT, Nat.reduceBEq, reduceIte, reduceCtorEq, Int.reduceToNat, Nat.reduceShiftRight, Nat.reduceAnd, Nat.reduceBneDiff, Nat.reduceBNe, c3r10, semI.eq_10, semI.eq_11, semI.eq_3, semI.eq_5, semI.eq_7, e_api_Ledger, e_api_Disk, e_api_Write]
      repeat (refine And.intro ?_ ?_; · first | omega | (simp only [List.length_append, List.length_cons, List.length_nil] at *; omega) | (intro q; simp only [wz, wd, ws, Nat.reduceAdd, Nat.reduceSub, Nat.reduceMul, Nat.reduceLeDiff, Nat.reduceEqDiff, Nat.reduceLT, Nat.reduceBEq, reduceIte, reduceCtorEq, Int.reduceToNat, Nat.reduceShiftRight, Nat.reduceAnd, Nat.reduceBneDiff, Nat.reduceBNe, q]; done))
      refine .cond (p := ((((((t4.2 != 0) || (t4.1.Gen != 1)) || (t4.1.Used != 0)) || ((t4.1.Entries.length : Int) != 0)) || (!(x == t7))) || (!t8))) (by first | rfl | simp only [wz, wd, ws, Nat.reduceAdd, Nat.reduceSub, Nat.reduceMul, Nat.reduceLeDiff, Nat.reduceEqDiff, Nat.reduceLT, Nat.reduceBEq, reduceIte, reduceCtorEq, Int.reduceToNat, Nat.reduceShiftRight, Nat.reduceAnd, Nat.reduceBneDiff, Nat.reduceBNe]) (fun h1 => ?_) (fun h1 => ?_)
      · rw [ite_t h1] at h
        refine .seq ?_
        refine Rw.walk ?_
        simp only [wz, wd, ws, Nat.reduceAdd, Nat.reduceSub, Nat.reduceMul, Nat.reduceLeDiff, Nat.reduceEqDiff, Nat.reduceLT, Nat.reduceBEq, reduceIte, reduceCtorEq, Int.reduceToNat, Nat.reduceShiftRight, Nat.reduceAnd, Nat.reduceBneDiff, Nat.reduceBNe, c3r11, semI.eq_10, semI.eq_11, semI.eq_3, semI.eq_5, semI.eq_7, e_api_Ledger, e_api_Disk, e_api_Write]
        obtain rfl := Option.some.inj h; replace h := h0_1; dsimp only at h
        obtain rfl := Option.some.inj h
        refine .ret ?_
        rw [← hR]
        simp only [wz, wd, ws, Nat.reduceAdd, Nat.reduceSub, Nat.reduceMul, Nat.reduceLeDiff, Nat.reduceEqDiff, Nat.reduceLT, Nat.reduceBEq, reduceIte, reduceCtorEq, Int.reduceToNat, Nat.reduceShiftRight, Nat.reduceAnd, Nat.reduceBneDiff, Nat.reduceBNe, rv3, e_api_Ledger, e_api_Disk, e_api_Write]
      · rw [ite_f h1] at h
        refine .skip ?_
        obtain rfl := Option.some.inj h
        refine .weak (Imp.co [] _ _ ?_ ?_ ?_ ?_ ?_) (tail _ rfl) <;> simp only [wz, wd, ws, Nat.reduceAdd, Nat.reduceSub, Nat.reduceMul, Nat.reduceLeDiff, Nat.reduceEqDiff, Nat.reduceLT, Nat.reduceBEq, reduceIte, reduceCtorEq, Int.reduceToNat, Nat.reduceShiftRight, Nat.reduceAnd, Nat.reduceBneDiff, Nat.reduceBNe, wi, er_nil, e_api_Ledger, e_api_Disk, e_api_Write]
end Go.Proofs.Ytjhelpeglgigbaa.V
end

section
/- Plain laws: numbers, rows and words of 32 bits. -/
namespace Go.Proofs.Ytjhelpeglgigbaa.V.M
set_option linter.unusedVariables false
set_option linter.unusedSimpArgs false
open Go Go.RowKit
theorem w_i64 {n : Int} (h : -9223372036854775808 ≤ n) (h2 : n < 9223372036854775808) : IntKind.i64.wrap n = n := by
  simp only [IntKind.wrap, IntKind.bits, IntKind.signed]; simp; omega
theorem bounds_i64 {a : Int} (h : (Lit.int .i64 a).wf = true) : -9223372036854775808 ≤ a ∧ a ≤ 9223372036854775807 := by
  have e := (Bool.and_eq_true_iff.mp h); exact ⟨of_decide_eq_true e.1, of_decide_eq_true e.2⟩
theorem bounds_u8 {a : Int} (h : (Lit.int .u8 a).wf = true) : 0 ≤ a ∧ a ≤ 255 := by
  have e := (Bool.and_eq_true_iff.mp h); exact ⟨of_decide_eq_true e.1, of_decide_eq_true e.2⟩
theorem w_u64 {n : Int} (h : 0 ≤ n) (h2 : n < 18446744073709551616) : IntKind.u64.wrap n = n := by
  simp only [IntKind.wrap, IntKind.bits, IntKind.signed]; simp; omega
theorem w_u32 (n : Int) : IntKind.u32.wrap n = n % 4294967296 := by simp [IntKind.wrap, IntKind.bits, IntKind.signed]
theorem w_u8 (n : Int) : IntKind.u8.wrap n = n % 256 := by simp [IntKind.wrap, IntKind.bits, IntKind.signed]
theorem gd_t {α : Type} {p : Prop} [Decidable p] (k : Option α) (h : p) : gd p k = k := by unfold gd; rw [if_pos h]
theorem ix_nat {α : Type} (l : List α) (n : Nat) : ix l (n : Int) = l[n]? := by unfold ix; rw [if_pos (by omega)]; rfl
theorem ix_lt {α : Type} (l : List α) (d : α) (n : Nat) (h : n < l.length) : ix l (n : Int) = some (l.getD n d) := by
  rw [ix_nat, List.getElem?_eq_getElem h, List.getD_eq_getElem?_getD, List.getElem?_eq_getElem h]; rfl
theorem cut_all {α : Type} (l : List α) (n : Nat) : cut l (n : Int) (l.length : Int) = l.drop n := by unfold cut; simp
theorem cut_zero {α : Type} (l : List α) (n : Nat) : cut l 0 (n : Int) = l.take n := by unfold cut; simp
/-- A word of 32 bits, as the program's number. -/
def B (x : BitVec 32) : Int := (x.toNat : Int)
theorem B_lt (x : BitVec 32) : 0 ≤ B x ∧ B x < 4294967296 := ⟨by unfold B; omega, by unfold B; have := x.isLt; omega⟩
theorem B_of (n : Int) : BitVec.ofInt 32 n = BitVec.ofInt 32 n := rfl
theorem B_ofInt (n : Int) : IntKind.u32.wrap n = B (BitVec.ofInt 32 n) := by
  rw [w_u32]; unfold B; rw [BitVec.toNat_ofInt]; omega
theorem of_B (x : BitVec 32) : BitVec.ofInt 32 (B x) = x := by unfold B; simp
theorem of_B' (x : BitVec 32) : BitVec.ofInt IntKind.u32.bits (B x) = x := of_B x
theorem wrap_B (x : BitVec 32) : IntKind.u32.wrap (B x) = B x := by rw [B_ofInt, of_B]
theorem wrap_N (x : BitVec 32) : IntKind.u32.wrap ((x.toNat : Nat) : Int) = B x := wrap_B x
theorem add_B (x y : BitVec 32) : IntKind.u32.wrap (B x + B y) = B (x + y) := by
  rw [B_ofInt, BitVec.ofInt_add, of_B, of_B]
theorem B_mod (n : Nat) : (n : Int) % 4294967296 = B (BitVec.ofNat 32 n) := by unfold B; simp
theorem not_B (x : BitVec 32) : IntKind.u32.wrap (4294967295 - B x) = B (~~~ x) := by
  have := B_lt x
  rw [w_u32]; unfold B at *; rw [BitVec.toNat_not]; omega
theorem not_B2 (x : BitVec 32) : IntKind.u32.wrap (BitVec.ofInt IntKind.u32.bits (if IntKind.u32.signed then -1 else IntKind.u32.max) ^^^ BitVec.ofInt IntKind.u32.bits (B x)).toNat = B (~~~ x) := by
  have e : (BitVec.ofInt IntKind.u32.bits (if IntKind.u32.signed then -1 else IntKind.u32.max) ^^^ BitVec.ofInt IntKind.u32.bits (B x)) = ~~~ x := by
    show BitVec.ofInt 32 4294967295 ^^^ BitVec.ofInt 32 (B x) = _
    rw [of_B, show BitVec.ofInt 32 4294967295 = BitVec.allOnes 32 from by decide, BitVec.allOnes_xor]
  rw [e]; exact wrap_N _
theorem xor_B (x y : BitVec 32) : IntKind.u32.wrap (BitVec.ofInt IntKind.u32.bits (B x) ^^^ BitVec.ofInt IntKind.u32.bits (B y)).toNat = B (x ^^^ y) := by
  have e : (BitVec.ofInt IntKind.u32.bits (B x) ^^^ BitVec.ofInt IntKind.u32.bits (B y)) = x ^^^ y := by
    show BitVec.ofInt 32 (B x) ^^^ BitVec.ofInt 32 (B y) = _
    rw [of_B, of_B]
  rw [e]; exact wrap_N _
theorem and_B (x y : BitVec 32) : IntKind.u32.wrap (BitVec.ofInt IntKind.u32.bits (B x) &&& BitVec.ofInt IntKind.u32.bits (B y)).toNat = B (x &&& y) := by
  have e : (BitVec.ofInt IntKind.u32.bits (B x) &&& BitVec.ofInt IntKind.u32.bits (B y)) = x &&& y := by
    show BitVec.ofInt 32 (B x) &&& BitVec.ofInt 32 (B y) = _
    rw [of_B, of_B]
  rw [e]; exact wrap_N _
theorem or_B (x y : BitVec 32) : IntKind.u32.wrap (BitVec.ofInt IntKind.u32.bits (B x) ||| BitVec.ofInt IntKind.u32.bits (B y)).toNat = B (x ||| y) := by
  have e : (BitVec.ofInt IntKind.u32.bits (B x) ||| BitVec.ofInt IntKind.u32.bits (B y)) = x ||| y := by
    show BitVec.ofInt 32 (B x) ||| BitVec.ofInt 32 (B y) = _
    rw [of_B, of_B]
  rw [e]; exact wrap_N _
/-- The turn to the right. -/
def rot (n : Nat) (x : BitVec 32) : BitVec 32 := (x <<< (32 - n)) ||| (x >>> n)
theorem rot_add (n : Nat) (h0 : 0 < n) (h : n < 32) (x : BitVec 32) : rot n x = (x <<< (32 - n)) + (x >>> n) := by
  unfold rot; symm; apply BitVec.add_eq_or_of_and_eq_zero
  ext i hi
  simp only [BitVec.getElem_and, BitVec.getElem_shiftLeft, BitVec.getElem_ushiftRight, BitVec.getElem_zero]
  by_cases c : i < 32 - n
  · simp [c]
  · simp [c]; intro _; exact BitVec.getLsbD_of_ge _ _ (by omega)
theorem B_def (x : BitVec 32) : B x = (x.toNat : Int) := rfl
theorem shr_B (x : BitVec 32) (n : Nat) : (B x).fdiv (2 ^ n) = B (x >>> n) := by
  have h : (2 : Int) ^ n = ((2 ^ n : Nat) : Int) := by rw [Int.natCast_pow]; rfl
  rw [B_def, B_def, BitVec.toNat_ushiftRight, Nat.shiftRight_eq_div_pow, h, Int.fdiv_eq_ediv_of_nonneg _ (Int.natCast_nonneg _)]; rfl
theorem shl_B (x : BitVec 32) (n : Nat) : IntKind.u32.wrap (B x * 2 ^ n) = B (x <<< n) := by
  have h : (2 : Int) ^ n = ((2 ^ n : Nat) : Int) := by rw [Int.natCast_pow]; rfl
  rw [w_u32, B_def, B_def, BitVec.toNat_shiftLeft, Nat.shiftLeft_eq, h, ← Int.natCast_mul]; rfl
theorem divB (x : BitVec 32) (n : Nat) (p : Int) (h : p = ((2 ^ n : Nat) : Int)) : IntKind.u32.wrap ((B x).tdiv p) = B (x >>> n) := by
  subst h
  rw [B_def, Int.tdiv_eq_ediv_of_nonneg (Int.natCast_nonneg _), show ((x.toNat : Int) / ((2 ^ n : Nat) : Int)) = ((x >>> n).toNat : Int) by
    rw [BitVec.toNat_ushiftRight, Nat.shiftRight_eq_div_pow]; rfl]
  exact wrap_N _
theorem modB (x : BitVec 32) (n : Nat) (hn : n ≤ 32) (p q : Int) (h : p = ((2 ^ n : Nat) : Int)) (h2 : q = ((2 ^ (32 - n) : Nat) : Int)) : IntKind.u32.wrap ((B x).tmod p * q) = B (x <<< (32 - n)) := by
  subst h; subst h2
  rw [B_def, Int.tmod_eq_emod_of_nonneg (Int.natCast_nonneg _), w_u32, B_def, BitVec.toNat_shiftLeft, Nat.shiftLeft_eq]
  have e : (x.toNat % 2 ^ n) * 2 ^ (32 - n) = x.toNat * 2 ^ (32 - n) % 2 ^ 32 := by
    rw [← Nat.mul_mod_mul_right]; congr 1; rw [← Nat.pow_add]; congr 1; omega
  rw [← e, ← Int.natCast_emod, ← Int.natCast_mul, e]
  have := Nat.mod_lt (x.toNat * 2 ^ (32 - n)) (show 2 ^ 32 > 0 by decide)
  omega
end Go.Proofs.Ytjhelpeglgigbaa.V.M
end

section
/- The two ways to turn a word agree; mixed, step and block over words. -/
namespace Go.Proofs.Ytjhelpeglgigbaa.V.M
set_option linter.unusedVariables false
set_option linter.unusedSimpArgs false
open Go Go.RowKit
def sg0 (x : BitVec 32) := rot 7 x ^^^ rot 18 x ^^^ (x >>> 3)
def sg1 (x : BitVec 32) := rot 17 x ^^^ rot 19 x ^^^ (x >>> 10)
def bg0 (x : BitVec 32) := rot 2 x ^^^ rot 13 x ^^^ rot 22 x
def bg1 (x : BitVec 32) := rot 6 x ^^^ rot 11 x ^^^ rot 25 x
def Cb (c : UInt8) : BitVec 32 := BitVec.ofNat 32 c.toNat
theorem bn_B (c : UInt8) : IntKind.u32.wrap (bn c) = B (Cb c) := by
  rw [w_u32]; unfold bn Cb; exact B_mod _
def wd (a b c d : UInt8) : BitVec 32 := Cb a <<< 24 ||| Cb b <<< 16 ||| Cb c <<< 8 ||| Cb d
theorem mn24 : min 24 IntKind.u32.bits = 24 := rfl
theorem mn16 : min 16 IntKind.u32.bits = 16 := rfl
theorem mn8 : min 8 IntKind.u32.bits = 8 := rfl
theorem wd_eq (a b c d : UInt8) : 256#32 * (256#32 * (256#32 * (256#32 * 0#32 + Cb a) + Cb b) + Cb c) + Cb d = wd a b c d := by
  apply BitVec.eq_of_toNat_eq
  unfold wd Cb
  have ha := a.toNat_lt; have hb := b.toNat_lt; have hc := c.toNat_lt; have hd := d.toNat_lt
  simp only [BitVec.toNat_add, BitVec.toNat_mul, BitVec.toNat_or, BitVec.toNat_shiftLeft, BitVec.toNat_ofNat, Nat.shiftLeft_eq]
  rw [Nat.or_assoc, Nat.or_assoc, Nat.mod_eq_of_lt (show d.toNat < 2 ^ 32 by omega), Nat.mod_eq_of_lt (show c.toNat < 2 ^ 32 by omega), Nat.mod_eq_of_lt (show b.toNat < 2 ^ 32 by omega), Nat.mod_eq_of_lt (show a.toNat < 2 ^ 32 by omega),
    Nat.mod_eq_of_lt (show c.toNat * 2 ^ 8 < 2 ^ 32 by omega), Nat.mod_eq_of_lt (show b.toNat * 2 ^ 16 < 2 ^ 32 by omega), Nat.mod_eq_of_lt (show a.toNat * 2 ^ 24 < 2 ^ 32 by omega),
    Nat.mul_comm c.toNat, Nat.mul_comm b.toNat, Nat.mul_comm a.toNat, ← Nat.two_pow_add_eq_or_of_lt (show d.toNat < 2 ^ 8 by omega),
    ← Nat.two_pow_add_eq_or_of_lt (show 2 ^ 8 * c.toNat + d.toNat < 2 ^ 16 by omega), ← Nat.two_pow_add_eq_or_of_lt (show 2 ^ 16 * b.toNat + (2 ^ 8 * c.toNat + d.toNat) < 2 ^ 24 by omega)]
  omega
end Go.Proofs.Ytjhelpeglgigbaa.V.M
end

section
/- The words of a block, and a block, computed in both ways. -/
namespace Go.Proofs.Ytjhelpeglgigbaa.V.M
set_option linter.unusedVariables false
set_option linter.unusedSimpArgs false
open Go Go.RowKit
def wr (s : Str) (i : Nat) : BitVec 32 := wd (s.getD (4 * i) 0) (s.getD (4 * i + 1) 0) (s.getD (4 * i + 2) 0) (s.getD (4 * i + 3) 0)
def nxWord (s : Str) (i : Nat) (l : List (BitVec 32)) : BitVec 32 :=
  if i < 16 then wr s i else sg1 (l.getD (i - 2) 0#32) + l.getD (i - 7) 0#32 + sg0 (l.getD (i - 15) 0#32) + l.getD (i - 16) 0#32
def sch (s : Str) : Nat → List (BitVec 32)
  | 0 => []
  | i + 1 => sch s i ++ [nxWord s i (sch s i)]
theorem sch_len (s : Str) (i : Nat) : (sch s i).length = i := by
  induction i with
  | zero => rfl
  | succ i ih => simp [sch, ih]
def W0 (s : Str) (i : Nat) : List Int := (sch s i).map B ++ List.replicate (64 - i) 0
theorem ix_sch (s : Str) (i j : Nat) (h : j < i) (r : List Int) : ix ((sch s i).map B ++ r) (j : Int) = some (B ((sch s i).getD j 0#32)) := by
  rw [ix_nat, List.getElem?_append_left (by simpa [sch_len] using h), List.getElem?_map, List.getElem?_eq_getElem (by simpa [sch_len] using h), List.getD_eq_getElem?_getD, List.getElem?_eq_getElem (by simpa [sch_len] using h)]; rfl
theorem ix_W0 (s : Str) (i j : Nat) (h : j < i) : ix (W0 s i) (j : Int) = some (B ((sch s i).getD j 0#32)) := ix_sch s i j h _
theorem ix_V0 (s : Str) (i j : Nat) (h : j < i) : ix ((sch s i).map B) (j : Int) = some (B ((sch s i).getD j 0#32)) := by
  have := ix_sch s i j h []; rwa [List.append_nil] at this
theorem W0_len (s : Str) (i : Nat) (h : i ≤ 64) : (W0 s i).length = 64 := by simp [W0, sch_len]; omega
theorem W0_set (s : Str) (i : Nat) (h : i < 64) (y : Int) (hy : y = B (nxWord s i (sch s i))) : (W0 s i).set i y = W0 s (i + 1) := by
  subst hy
  unfold W0
  rw [show 64 - i = (64 - (i + 1)) + 1 from by omega, List.replicate_succ, List.set_append_right _ _ (by simp [sch_len])]
  simp [sch_len, sch]
end Go.Proofs.Ytjhelpeglgigbaa.V.M
end

section
/- A block, computed in both ways. -/
namespace Go.Proofs.Ytjhelpeglgigbaa.V.M
set_option linter.unusedVariables false
set_option linter.unusedSimpArgs false
open Go Go.RowKit
theorem ix_map (l : List (BitVec 32)) (j : Nat) (h : j < l.length) : ix (l.map B) (j : Int) = some (B (l.getD j 0#32)) := by
  rw [ix_nat, List.getElem?_map, List.getElem?_eq_getElem h, List.getD_eq_getElem?_getD, List.getElem?_eq_getElem h]; rfl
def rnd (k w : BitVec 32) : List (BitVec 32) → List (BitVec 32)
  | [a, b, c, d, e, f, g, h] =>
    [h + bg1 e + (e &&& f ^^^ (~~~ e) &&& g) + k + w + (bg0 a + (a &&& b ^^^ a &&& c ^^^ b &&& c)), a, b, c, d + (h + bg1 e + (e &&& f ^^^ (~~~ e) &&& g) + k + w), e, f, g]
  | v => v
theorem len8 {α : Type} (l : List α) (h : l.length = 8) : ∃ a b c d e f g i, l = [a, b, c, d, e, f, g, i] := by
  match l, h with
  | [a, b, c, d, e, f, g, i], _ => exact ⟨a, b, c, d, e, f, g, i, rfl⟩
theorem rnd_len (k w : BitVec 32) (v : List (BitVec 32)) (h : v.length = 8) : (rnd k w v).length = 8 := by
  obtain ⟨a, b, c, d, e, f, g, i, rfl⟩ := len8 v h; rfl
theorem bsn {α β : Type} (a : α) (f : α → Option β) : (some a).bind f = f a := Eq.trans (Option.bind_some a f) rfl
theorem gdc0 (a : BitVec 32) (l : List (BitVec 32)) : (a :: l).getD 0 0#32 = a := Eq.trans List.getD_cons_zero rfl
theorem gdc1 (a : BitVec 32) (l : List (BitVec 32)) (n : Nat) : (a :: l).getD (n + 1) 0#32 = l.getD n 0#32 := Eq.trans List.getD_cons_succ rfl
theorem ix8 (a b c d e f g i : BitVec 32) : ix ([a, b, c, d, e, f, g, i].map B) 0 = some (B a) ∧ ix ([a, b, c, d, e, f, g, i].map B) 1 = some (B b) ∧ ix ([a, b, c, d, e, f, g, i].map B) 2 = some (B c) ∧ ix ([a, b, c, d, e, f, g, i].map B) 3 = some (B d) ∧ ix ([a, b, c, d, e, f, g, i].map B) 4 = some (B e) ∧ ix ([a, b, c, d, e, f, g, i].map B) 5 = some (B f) ∧ ix ([a, b, c, d, e, f, g, i].map B) 6 = some (B g) ∧ ix ([a, b, c, d, e, f, g, i].map B) 7 = some (B i) := ⟨rfl, rfl, rfl, rfl, rfl, rfl, rfl, rfl⟩
theorem nx_take (s : Str) (i : Nat) (l : List (BitVec 32)) : nxWord (s.take 64) i l = nxWord s i l := by
  have e : ∀ j, j < 64 → (s.take 64).getD j 0 = s.getD j 0 := by
    intro j hj; rw [List.getD_eq_getElem?_getD, List.getD_eq_getElem?_getD, List.getElem?_take_of_lt hj]
  unfold nxWord
  by_cases c : i < 16
  · rw [if_pos c, if_pos c]; unfold wr; rw [e _ (by omega), e _ (by omega), e _ (by omega), e _ (by omega)]
  · rw [if_neg c, if_neg c]
theorem sch_take (s : Str) (i : Nat) : sch (s.take 64) i = sch s i := by
  induction i with
  | zero => rfl
  | succ i ih => rw [sch, sch, ih, nx_take]
end Go.Proofs.Ytjhelpeglgigbaa.V.M
end

section
/- The sum of a text, computed in both ways. -/
namespace Go.Proofs.Ytjhelpeglgigbaa.V.M
set_option linter.unusedVariables false
set_option linter.unusedSimpArgs false
open Go Go.RowKit
def padS (s : Str) : Str := s ++ List.replicate ((120 - s.length % 64) % 64) 0
theorem padS_next (s : Str) (h : s.length % 64 ≠ 56) : padS (s ++ [0]) = padS s := by
  unfold padS
  rw [List.length_append, List.append_assoc, show ([0] : Str) = List.replicate 1 0 from rfl, List.replicate_append_replicate, List.length_replicate]
  congr 2; omega
theorem padS_end (s : Str) (h : s.length % 64 = 56) : padS s = s := by
  unfold padS; rw [h]; simp
theorem padS_len (s : Str) : (padS s).length % 64 = 56 ∧ (padS s).length ≤ s.length + 63 ∧ s.length ≤ (padS s).length := by
  unfold padS; rw [List.length_append, List.length_replicate]; omega
theorem tm64 (n : Nat) : ((((n : Int).tmod 64) != 56) = true) ↔ n % 64 ≠ 56 := by
  rw [Int.tmod_eq_emod_of_nonneg (Int.natCast_nonneg _)]; simp; omega
theorem map_bn0 (s : Str) : s.map bn ++ ([0] : List Int) = (s ++ [0]).map bn := by rw [List.map_append]; rfl
def byt (T j : Nat) : UInt8 := UInt8.ofNat (T / 2 ^ (8 * j))
def lbs (T : Nat) : Str := [byt T 7, byt T 6, byt T 5, byt T 4, byt T 3, byt T 2, byt T 1, byt T 0]
def Tb (n : Nat) : Nat := n * 8 % 18446744073709551616
theorem T_ok (n : Nat) (h : n ≤ 140737488355328) : IntKind.u64.wrap ((IntKind.u64.wrap (n : Int)) * 8) = (Tb n : Int) := by
  rw [w_u64 (n := (n : Int)) (by omega) (by omega), w_u64 (by omega) (by omega)]; unfold Tb; omega
theorem pow_c (n : Nat) : (2 : Int) ^ n = ((2 ^ n : Nat) : Int) := by rw [Int.natCast_pow]; rfl
theorem nb_mod (n : Nat) : nb (((n % 256 : Nat)) : Int) = UInt8.ofNat n := by
  unfold nb; rw [Int.toNat_natCast]; apply UInt8.toNat_inj.mp; rw [UInt8.toNat_ofNat', UInt8.toNat_ofNat', Nat.mod_mod]
theorem byt_f (T j : Nat) (hj : j < 8) : nb (IntKind.u8.wrap ((T : Int).fdiv (2 ^ (min (IntKind.i64.wrap (8 * (j : Int))).toNat IntKind.u64.bits)))) = byt T j := by
  rw [w_i64 (by omega) (by omega), show min (8 * (j : Int)).toNat IntKind.u64.bits = 8 * j from by show min _ 64 = _; omega, pow_c, Int.fdiv_eq_ediv_of_nonneg _ (Int.natCast_nonneg _), w_u8, ← Int.natCast_ediv]
  exact nb_mod _
theorem byt_t (T j : Nat) (hT : T < 18446744073709551616) : IntKind.u8.wrap ((IntKind.u64.wrap ((T : Int).tdiv ((2 ^ (8 * j) : Nat) : Int))).tmod 256) = bn (byt T j) := by
  rw [Int.tdiv_eq_ediv_of_nonneg (Int.natCast_nonneg _), ← Int.natCast_ediv, w_u64 (Int.natCast_nonneg _) (by have := Nat.div_le_self T (2 ^ (8 * j)); omega), Int.tmod_eq_emod_of_nonneg (Int.natCast_nonneg _), w_u8]
  unfold bn byt; rw [UInt8.toNat_ofNat']; omega
end Go.Proofs.Ytjhelpeglgigbaa.V.M
end

section
/- The sum of a text, computed in both ways: the blocks, and what is handed back. -/
namespace Go.Proofs.Ytjhelpeglgigbaa.V.M
set_option linter.unusedVariables false
set_option linter.unusedSimpArgs false
open Go Go.RowKit
theorem nb_bn (s : Str) : (s.map bn).map nb = s := by
  rw [List.map_map]
  have : nb ∘ bn = id := by funext c; simp [nb, bn]
  rw [this, List.map_id]
def o4 (x : Int) : List Int := [(IntKind.u8.wrap (x.fdiv (2 ^ (min 24 IntKind.u32.bits)))), (IntKind.u8.wrap (x.fdiv (2 ^ (min 16 IntKind.u32.bits)))), (IntKind.u8.wrap (x.fdiv (2 ^ (min 8 IntKind.u32.bits)))), (IntKind.u8.wrap x)]
def p4 (x : Int) : List Int := [(IntKind.u8.wrap (IntKind.u32.wrap (x.tdiv 16777216))), (IntKind.u8.wrap ((IntKind.u32.wrap (x.tdiv 65536)).tmod 256)), (IntKind.u8.wrap ((IntKind.u32.wrap (x.tdiv 256)).tmod 256)), (IntKind.u8.wrap (x.tmod 256))]
theorem m8 (y : BitVec 32) : IntKind.u8.wrap ((B y).tmod 256) = IntKind.u8.wrap (B y) := by
  have := B_lt y
  rw [Int.tmod_eq_emod_of_nonneg this.1, w_u8, w_u8]; omega
theorem p4_eq (x : BitVec 32) : p4 (B x) = o4 (B x) := by
  unfold p4 o4
  rw [divB x 24 16777216 rfl, divB x 16 65536 rfl, divB x 8 256 rfl, m8, m8, m8, mn24, mn16, mn8, shr_B, shr_B, shr_B]
def firstB : List (BitVec 32) := [1779033703#32, 3144134277#32, 1013904242#32, 2773480762#32, 1359893119#32, 2600822924#32, 528734635#32, 1541459225#32]
def full (s : Str) : Str := padS (s ++ [128]) ++ lbs (Tb s.length)
theorem full_len (s : Str) : (full s).length = 64 * ((full s).length / 64) ∧ (full s).length ≤ s.length + 72 ∧ (full s).length = (padS (s ++ [128])).length + 8 := by
  have := padS_len (s ++ [128])
  unfold full
  rw [List.length_append] at *
  have e : (lbs (Tb s.length)).length = 8 := rfl
  simp only [List.length_cons, List.length_nil] at *
  omega
end Go.Proofs.Ytjhelpeglgigbaa.V.M
end

section
/- Hex, read and written, in both ways. -/
namespace Go.Proofs.Ytjhelpeglgigbaa.V.M
set_option linter.unusedVariables false
set_option linter.unusedSimpArgs false
open Go Go.RowKit
theorem bn_dig (n : Nat) (h : n < 16) : bn (dig n) = if n < 10 then 48 + (n : Int) else 97 + (n : Int) - 10 := by
  have : ∀ n : Fin 16, bn (dig n.val) = if n.val < 10 then 48 + (n.val : Int) else 97 + (n.val : Int) - 10 := by decide
  exact this ⟨n, h⟩
end Go.Proofs.Ytjhelpeglgigbaa.V.M
end

section
/- Hex read back, in both ways; digests parsed in both ways. -/
namespace Go.Proofs.Ytjhelpeglgigbaa.V.M
set_option linter.unusedVariables false
set_option linter.unusedSimpArgs false
open Go Go.RowKit
def hx (c : UInt8) : Nat := if 48 ≤ c.toNat ∧ c.toNat ≤ 57 then c.toNat - 48 else if 97 ≤ c.toNat ∧ c.toNat ≤ 102 then c.toNat - 87 else 16
def un : Str → Option Str
  | [] => some []
  | [_] => none
  | a :: b :: r => if hx a < 16 ∧ hx b < 16 then (un r).map (UInt8.ofNat (16 * hx a + hx b) :: ·) else none
theorem u8_all {P : UInt8 → Prop} [DecidablePred P] (h : (List.range 256).all (fun n => decide (P (UInt8.ofNat n))) = true) (c : UInt8) : P c := by
  have := (List.all_eq_true.mp h) c.toNat (List.mem_range.mpr c.toNat_lt)
  simpa using this
abbrev dgs : Str := [48, 49, 50, 51, 52, 53, 54, 55, 56, 57, 97, 98, 99, 100, 101, 102]
theorem hx_le (c : UInt8) : hx c ≤ 16 := by unfold hx; split <;> (try split) <;> omega
theorem hx_dig (n : Nat) (h : n < 16) : hx (dig n) = n := by
  have : ∀ n : Fin 16, hx (dig n.val) = n.val := by decide
  exact this ⟨n, h⟩
theorem un_hexl (x : Str) : un (hexl x) = some x := by
  induction x with
  | nil => rfl
  | cons c x ih =>
    have hc := c.toNat_lt
    show un (dig (c.toNat / 16) :: dig (c.toNat % 16) :: hexl x) = _
    rw [un, hx_dig _ (by omega), hx_dig _ (by omega), if_pos (by omega), ih, show 16 * (c.toNat / 16) + c.toNat % 16 = c.toNat by omega]; simp
theorem un_len : ∀ (n : Nat) (s x : Str), s.length ≤ n → un s = some x → s.length = 2 * x.length := by
  intro n
  induction n with
  | zero => intro s x h e; obtain rfl : s = [] := List.length_eq_zero_iff.mp (by omega); cases e; rfl
  | succ n ih =>
    intro s x h e
    match s, e with
    | [], e => cases e; rfl
    | [_], e => cases e
    | a :: b :: r, e =>
      rw [un] at e
      split at e
      · obtain ⟨y, hy, rfl⟩ := Option.map_eq_some_iff.mp e
        have := ih r y (by simp only [List.length_cons] at h; omega) hy
        simp only [List.length_cons]; omega
      · cases e
theorem w8h (a b : UInt8) (ha : hx a < 16) (hb : hx b < 16) : IntKind.u8.wrap (IntKind.i64.wrap ((IntKind.i64.wrap ((hx a : Int) * 16)) + (hx b : Int))) = bn (UInt8.ofNat (16 * hx a + hx b)) := by
  rw [w_i64 (n := (hx a : Int) * 16) (by omega) (by omega), w_i64 (by omega) (by omega), w_u8]; unfold bn; rw [UInt8.toNat_ofNat']; omega
theorem drop2 (s : Str) (v : Nat) (h : 2 * v + 1 < s.length) : s.drop (2 * v) = s.getD (2 * v) 0 :: s.getD (2 * v + 1) 0 :: s.drop (2 * (v + 1)) := by
  rw [List.drop_eq_getElem_cons (by omega), List.drop_eq_getElem_cons (i := 2 * v + 1) (by omega), List.getD_eq_getElem?_getD, List.getD_eq_getElem?_getD, List.getElem?_eq_getElem (by omega), List.getElem?_eq_getElem (by omega)]; rfl
abbrev pfx : Str := [115, 104, 97, 50, 53, 54, 58]
def parseS (s : Str) : Str × Int := if s.take 7 = pfx then (match un (s.drop 7) with | some x => if x.length = 32 then (x, 0) else ([], 6) | none => ([], 6)) else ([], 6)
end Go.Proofs.Ytjhelpeglgigbaa.V.M
end

section
/- Octet: numbers in bytes, read and written; the loose reader; what is bound. -/
namespace Go.Proofs.Ytjhelpeglgigbaa.V.M
set_option linter.unusedVariables false
set_option linter.unusedSimpArgs false
open Go Go.RowKit
theorem cut_take {α : Type} (l : List α) (k : Nat) : cut l 0 (if (k : Int) < (l.length : Int) then (k : Int) else (l.length : Int)) = l.take k := by
  by_cases c : k < l.length
  · rw [if_pos (by omega)]; exact cut_zero l k
  · rw [if_neg (by omega), cut_zero, List.take_of_length_le (by omega), List.take_of_length_le (by omega)]
theorem cut_gd {α : Type} (l : List α) (k : Nat) : 0 ≤ (if (k : Int) < (l.length : Int) then (k : Int) else (l.length : Int)) ∧ (if (k : Int) < (l.length : Int) then (k : Int) else (l.length : Int)) ≤ (l.length : Int) := by
  split <;> omega
theorem cut_gdI {α : Type} (l : List α) (k : Int) (hk : 0 ≤ k) : 0 ≤ (if k < (l.length : Int) then k else (l.length : Int)) ∧ (if k < (l.length : Int) then k else (l.length : Int)) ≤ (l.length : Int) := by
  split <;> omega
def fewL (l : List Str) : List Str := (l.take 66).map (·.take 4100)
theorem fewL_len (l : List Str) : (fewL l).length ≤ 66 := by unfold fewL; rw [List.length_map, List.length_take]; omega
/-- What a text's bytes say, the lowest one first. -/
def wholeN : Str → Nat
  | [] => 0
  | c :: l => c.toNat + 256 * wholeN l
theorem wholeN_lt : ∀ l : Str, wholeN l < 2 ^ (8 * l.length)
  | [] => by decide
  | c :: l => by
    have := wholeN_lt l
    have hc := c.toNat_lt
    rw [wholeN, List.length_cons, show 8 * (l.length + 1) = 8 * l.length + 8 by omega, Nat.pow_add]
    omega
theorem wholeN_snoc (l : Str) (c : UInt8) : wholeN (l ++ [c]) = wholeN l + c.toNat * 2 ^ (8 * l.length) := by
  induction l with
  | nil => simp [wholeN]
  | cons a l ih => rw [List.cons_append, wholeN, wholeN, ih, List.length_cons, show 8 * (l.length + 1) = 8 * l.length + 8 by omega, Nat.pow_add, Nat.mul_add, ← Nat.mul_assoc, show 2 ^ (8 * l.length) * 2 ^ 8 = 256 * 2 ^ (8 * l.length) by omega, ← Nat.mul_assoc, Nat.mul_comm 256 c.toNat]; omega
theorem w_u64n {n : Nat} (h : n < 18446744073709551616) : IntKind.u64.wrap (n : Int) = (n : Int) := w_u64 (by omega) (by omega)
theorem or_step (n : Nat) (c : UInt8) (k : Nat) (hk : k < 8) (hn : n < 2 ^ (8 * k)) :
    IntKind.u64.wrap ((BitVec.ofInt IntKind.u64.bits (n : Int) ||| BitVec.ofInt IntKind.u64.bits (IntKind.u64.wrap ((IntKind.u64.wrap (bn c)) * 2 ^ (min (IntKind.i64.wrap (8 * (k : Int))).toNat IntKind.u64.bits)))).toNat) = ((n + c.toNat * 2 ^ (8 * k) : Nat) : Int) := by
  have hc := c.toNat_lt
  have hp : 2 ^ (8 * k) ≤ 2 ^ 56 := Nat.pow_le_pow_right (by decide) (by omega)
  have hm : c.toNat * 2 ^ (8 * k) ≤ 255 * 2 ^ 56 := Nat.mul_le_mul (by omega) hp
  have hs : n + c.toNat * 2 ^ (8 * k) < 18446744073709551616 := by
    have : c.toNat * 2 ^ (8 * k) + 2 ^ (8 * k) ≤ 256 * 2 ^ 56 := by
      have : (c.toNat + 1) * 2 ^ (8 * k) ≤ 256 * 2 ^ 56 := Nat.mul_le_mul (by omega) hp
      rw [Nat.add_mul] at this; omega
    omega
  rw [show bn c = ((c.toNat : Nat) : Int) from rfl, w_u64n (n := c.toNat) (by omega), w_i64 (by omega) (by omega), show (8 * (k : Int)).toNat = 8 * k by omega, show min (8 * k) IntKind.u64.bits = 8 * k by show min (8 * k) 64 = _; omega,
    show ((c.toNat : Int) * 2 ^ (8 * k)) = ((c.toNat * 2 ^ (8 * k) : Nat) : Int) by rw [Int.natCast_mul, Int.natCast_pow]; rfl, w_u64n (n := c.toNat * 2 ^ (8 * k)) (by omega), BitVec.toNat_or, BitVec.toNat_ofInt, BitVec.toNat_ofInt]
  show IntKind.u64.wrap (((((n : Int) % (18446744073709551616 : Int)).toNat ||| (((c.toNat * 2 ^ (8 * k) : Nat) : Int) % (18446744073709551616 : Int)).toNat : Nat)) : Int) = _
  rw [show ((n : Int) % (18446744073709551616 : Int)).toNat = n by omega, show (((c.toNat * 2 ^ (8 * k) : Nat) : Int) % (18446744073709551616 : Int)).toNat = c.toNat * 2 ^ (8 * k) by omega]
  have e := Nat.shiftLeft_add_eq_or_of_lt hn c.toNat
  rw [Nat.shiftLeft_eq] at e
  rw [Nat.or_comm, ← e, Nat.add_comm, w_u64n hs]
theorem w9_ok (s : Str) (hs : s.length ≤ 8) (suf : Str) : ∀ (pre : Str) (m : Nat), s = pre ++ suf → suf.length < m → f_octet_Whole_l9 s m ((wholeN pre : Nat) : Int) (pre.length : Int) = some (((wholeN s : Nat) : Int), (s.length : Int)) := by
  induction suf with
  | nil =>
    intro pre m h hm
    obtain ⟨m, rfl⟩ : ∃ k, m = k + 1 := ⟨m - 1, by omega⟩
    rw [List.append_nil] at h; subst h
    rw [f_octet_Whole_l9, if_neg (by simp)]
  | cons c r ih =>
    intro pre m h hm
    obtain ⟨m, rfl⟩ : ∃ k, m = k + 1 := ⟨m - 1, by omega⟩
    have hl : s.length = pre.length + 1 + r.length := by rw [h]; simp; omega
    simp only [List.length_cons] at hm
    rw [f_octet_Whole_l9, if_pos (by simp; omega)]
    have e1 : ix s (pre.length : Int) = some c := by rw [h, ix_nat]; simp
    rw [e1, Option.bind_some, gd_t _ (by rw [w_i64 (by omega) (by omega)]; omega), or_step _ _ _ (by omega) (wholeN_lt pre), Option.bind_some, w_i64 (by omega) (by omega), ← wholeN_snoc]
    have q := ih (pre ++ [c]) m (by simp [h]) (by omega)
    rw [List.length_append, List.length_singleton] at q
    exact q
theorem whole_ok (s : Str) (hs : s.length ≤ 8) : f_octet_Whole s = some (((wholeN s : Nat) : Int), 0) := by
  unfold f_octet_Whole
  rw [if_neg (by simp; omega)]
  have q := w9_ok s hs s [] ((((s.length : Int) : Int) - 0).toNat + 1) rfl (by omega)
  rw [show ((wholeN [] : Nat) : Int) = 0 from rfl, show (([] : Str).length : Int) = 0 from rfl] at q
  rw [q]; rfl
theorem w6_ok (s : Str) (hs : s.length ≤ 8) (k : Nat) : ∀ m : Nat, k ≤ s.length → k < m → f_ref01_Whole_l6 s m ((wholeN (s.drop k) : Nat) : Int) ((k : Int) - 1) = some (((wholeN s : Nat) : Int), -1) := by
  induction k with
  | zero =>
    intro m hk hm
    obtain ⟨m, rfl⟩ : ∃ k, m = k + 1 := ⟨m - 1, by omega⟩
    rw [f_ref01_Whole_l6, if_neg (by simp)]; rfl
  | succ k ih =>
    intro m hk hm
    obtain ⟨m, rfl⟩ : ∃ k, m = k + 1 := ⟨m - 1, by omega⟩
    have e : s.drop k = s[k] :: s.drop (k + 1) := List.drop_eq_getElem_cons (by omega)
    have b : wholeN (s.drop k) < 2 ^ 64 := Nat.lt_of_lt_of_le (wholeN_lt _) (Nat.pow_le_pow_right (by decide) (by rw [List.length_drop]; omega))
    rw [e, wholeN] at b
    have hc := s[k].toNat_lt
    rw [f_ref01_Whole_l6, show (((k + 1 : Nat) : Int) - 1) = (k : Int) by omega, if_pos (by simp), ix_nat, List.getElem?_eq_getElem (by omega), Option.bind_some,
      show (256 * ((wholeN (s.drop (k + 1)) : Nat) : Int)) = ((256 * wholeN (s.drop (k + 1)) : Nat) : Int) by omega, w_u64n (by omega), show bn s[k] = ((s[k].toNat : Nat) : Int) from rfl, w_u64n (by omega), ← Int.natCast_add, w_u64n (by omega), w_i64 (by omega) (by omega)]
    have q := ih m (by omega) (by omega)
    rw [e, wholeN, Nat.add_comm] at q
    exact q
theorem rwhole_ok (s : Str) (hs : s.length ≤ 8) : f_ref01_Whole s = some ((wholeN s : Nat) : Int) := by
  unfold f_ref01_Whole
  have q := w6_ok s hs s.length ((((IntKind.i64.wrap ((s.length : Int) - 1)) : Int) - 0).toNat + 2) (Nat.le_refl _) (by rw [w_i64 (by omega) (by omega)]; omega)
  rw [List.drop_length, show ((wholeN [] : Nat) : Int) = 0 from rfl] at q
  rw [w_i64 (n := (s.length : Int) - 1) (by omega) (by omega)] at q ⊢
  rw [q]; rfl
/-- The loose reader. -/
def looseG : Nat → Str → List Str → List Str × Int
  | 0, _, _ => ([], 0)
  | m + 1, s, out =>
    if s = [] then (out, 0)
    else if s.length < 2 then ([], 3)
    else if 4096 < wholeN (s.take 2) ∨ out.length = 64 then ([], 2)
    else if (s.drop 2).length < wholeN (s.take 2) then ([], 3)
    else looseG m ((s.drop 2).drop (wholeN (s.take 2))) (out ++ [(s.drop 2).take (wholeN (s.take 2))])
def looseS (s : Str) : List Str × Int := looseG (s.length + 1) s []
def sumG (p : List Str × Int) : (Str × (List Str)) ⊕ ((List Str) × Int) := if p.2 = 0 then .inl ([], p.1) else .inr p
theorem lg_nil (m : Nat) (out : List Str) : looseG (m + 1) [] out = (out, 0) := by rw [looseG, if_pos rfl]
theorem lg_one (m : Nat) (s : Str) (out : List Str) (c : s ≠ []) (c1 : s.length < 2) : looseG (m + 1) s out = ([], 3) := by rw [looseG, if_neg c, if_pos c1]
theorem lg_big (m : Nat) (s : Str) (out : List Str) (c : s ≠ []) (c1 : ¬ s.length < 2) (c2 : 4096 < wholeN (s.take 2) ∨ out.length = 64) : looseG (m + 1) s out = ([], 2) := by rw [looseG, if_neg c, if_neg c1, if_pos c2]
theorem lg_short (m : Nat) (s : Str) (out : List Str) (c : s ≠ []) (c1 : ¬ s.length < 2) (c2 : ¬ (4096 < wholeN (s.take 2) ∨ out.length = 64)) (c3 : (s.drop 2).length < wholeN (s.take 2)) : looseG (m + 1) s out = ([], 3) := by rw [looseG, if_neg c, if_neg c1, if_neg c2, if_pos c3]
theorem lg_step (m : Nat) (s : Str) (out : List Str) (c : s ≠ []) (c1 : ¬ s.length < 2) (c2 : ¬ (4096 < wholeN (s.take 2) ∨ out.length = 64)) (c3 : ¬ (s.drop 2).length < wholeN (s.take 2)) : looseG (m + 1) s out = looseG m ((s.drop 2).drop (wholeN (s.take 2))) (out ++ [(s.drop 2).take (wholeN (s.take 2))]) := by rw [looseG, if_neg c, if_neg c1, if_neg c2, if_neg c3]
end Go.Proofs.Ytjhelpeglgigbaa.V.M
end

section
/- Octet: the laws OctetBinds, OctetLong, OctetBack. -/
namespace Go.Proofs.Ytjhelpeglgigbaa.V.M
set_option linter.unusedVariables false
set_option linter.unusedSimpArgs false
open Go Go.RowKit
theorem same9_ok (a b : List Str) (hl : a.length = b.length) (hb : a.length < 9000000000000000000) (k : Nat) : ∀ (i m : Nat), i + k = a.length → k < m →
    f_ref01_Same_l9 a b m (i : Int) = some (if a.drop i = b.drop i then .inl (a.length : Int) else .inr false) := by
  induction k with
  | zero =>
    intro i m hi hm
    obtain ⟨m, rfl⟩ : ∃ k, m = k + 1 := ⟨m - 1, by omega⟩
    rw [f_ref01_Same_l9, if_neg (by simp; omega), List.drop_eq_nil_of_le (by omega), List.drop_eq_nil_of_le (by omega), if_pos rfl, show i = a.length by omega]
  | succ k ih =>
    intro i m hi hm
    obtain ⟨m, rfl⟩ : ∃ k, m = k + 1 := ⟨m - 1, by omega⟩
    rw [f_ref01_Same_l9, if_pos (by simp; omega), ix_nat, List.getElem?_eq_getElem (by omega), Option.bind_some, ix_nat, List.getElem?_eq_getElem (by omega), Option.bind_some, List.drop_eq_getElem_cons (show i < a.length by omega), List.drop_eq_getElem_cons (show i < b.length by omega)]
    by_cases c : a[i]'(by omega) = b[i]'(by omega)
    · rw [if_neg (by simp [c]), w_i64 (by omega) (by omega), show ((i : Int) + 1) = ((i + 1 : Nat) : Int) by omega, ih (i + 1) m (by omega) (by omega), c]
      congr 1
      by_cases d : a.drop (i + 1) = b.drop (i + 1)
      · rw [if_pos d, if_pos (by rw [d])]
      · rw [if_neg d, if_neg (fun h => d (List.cons.inj h).2)]
    · rw [if_pos (by simp [c]), if_neg (fun h => c (List.cons.inj h).1)]
theorem same_ok (a b : List Str) (hb : a.length < 9000000000000000000) : f_ref01_Same a b = some (decide (a = b)) := by
  unfold f_ref01_Same
  by_cases c : a.length = b.length
  · have q := same9_ok a b c hb a.length 0 ((((a.length : Int) : Int) - 0).toNat + 1) (by omega) (by omega)
    rw [show ((0 : Nat) : Int) = 0 from rfl, List.drop_zero, List.drop_zero] at q
    rw [if_neg (by simp; omega), q, Option.bind_some]
    by_cases e : a = b
    · rw [if_pos e]; simp [e]
    · rw [if_neg e]; simp [e]
  · rw [if_pos (by simp; omega)]
    have : ¬ a = b := fun h => c (by rw [h])
    simp [this]
theorem rwide2_ok (n : Nat) (hn : n ≤ 4100) : f_ref01_Wide (IntKind.u64.wrap (n : Int)) 2 = some (two n) := by
  rw [w_u64n (by omega)]
  unfold f_ref01_Wide
  show (f_ref01_Wide_l7 2 3 (n : Int) 0 []).bind _ = _
  rw [f_ref01_Wide_l7, if_pos (by decide), gd_t _ (by simp), f_ref01_Wide_l7, if_pos (by decide), gd_t _ (by simp), f_ref01_Wide_l7, if_neg (by decide), Option.bind_some]
  have d1 : IntKind.u64.wrap ((n : Int).tdiv 256) = (n : Int) / 256 := by rw [Int.tdiv_eq_ediv_of_nonneg (by omega), w_u64 (by omega) (by omega)]
  rw [d1, Int.tmod_eq_emod_of_nonneg (by omega), Int.tmod_eq_emod_of_nonneg (by omega), w_u8, w_u8]
  show some [nb _, nb _] = some [_, _]
  have h1 : nb ((n : Int) % 256 % 256) = UInt8.ofNat n := by unfold nb; apply UInt8.toNat_inj.mp; rw [UInt8.toNat_ofNat', UInt8.toNat_ofNat']; omega
  have h2 : nb ((n : Int) / 256 % 256 % 256) = UInt8.ofNat (n / 256) := by unfold nb; apply UInt8.toNat_inj.mp; rw [UInt8.toNat_ofNat', UInt8.toNat_ofNat']; omega
  rw [h1, h2]
theorem bindP_cons (x : Str) (l : List Str) : bindP (x :: l) = two x.length ++ (x ++ bindP l) := by simp [bindP]
theorem two_len (n : Nat) : (two n).length = 2 := rfl
theorem wholeN_two (n : Nat) (h : n < 65536) : wholeN (two n) = n := by
  show (UInt8.ofNat n).toNat + 256 * ((UInt8.ofNat (n / 256)).toNat + 256 * 0) = n
  rw [UInt8.toNat_ofNat', UInt8.toNat_ofNat']; omega
/-- The parts that lie whole in the first k bytes, if the cut falls between two. -/
def cutAt : List Str → Nat → Option (List Str)
  | [], _ => some []
  | x :: t, k => if k = 0 then some [] else if 2 + x.length ≤ k then (cutAt t (k - (2 + x.length))).map (x :: ·) else none
theorem cutAt_len : ∀ (t : List Str) (k : Nat) (p : List Str), cutAt t k = some p → p.length ≤ t.length
  | [], k, p, h => by cases h; simp
  | x :: t, k, p, h => by
    rw [cutAt] at h
    split at h
    · cases h; simp
    · split at h
      · obtain ⟨q, hq, rfl⟩ := Option.map_eq_some_iff.mp h
        have := cutAt_len t _ q hq
        simp; omega
      · cases h
theorem cutAt_all : ∀ (t : List Str), cutAt t (bindP t).length = some t
  | [] => rfl
  | x :: t => by
    have hl : (bindP (x :: t)).length = 2 + x.length + (bindP t).length := by rw [bindP_cons, List.length_append, List.length_append, two_len]; omega
    rw [cutAt, if_neg (by omega), if_pos (by omega), hl, show 2 + x.length + (bindP t).length - (2 + x.length) = (bindP t).length by omega, cutAt_all t]; rfl
def endG (o : Option (List Str)) (out : List Str) : List Str × Int := match o with | some p => (out ++ p, 0) | none => ([], 3)
theorem lg_bind (t : List Str) : ∀ (m k : Nat) (out : List Str), (∀ x ∈ t, x.length ≤ 4096) → out.length + t.length ≤ 64 → k ≤ (bindP t).length → k < m → looseG m ((bindP t).take k) out = endG (cutAt t k) out := by
  induction t with
  | nil =>
    intro m k out _ _ hk hm
    obtain ⟨m, rfl⟩ : ∃ k, m = k + 1 := ⟨m - 1, by omega⟩
    rw [show (bindP []).take k = ([] : Str) by simp [bindP], lg_nil]; simp [cutAt, endG]
  | cons x t ih =>
    intro m k out h1 h2 hk hm
    obtain ⟨m, rfl⟩ : ∃ k, m = k + 1 := ⟨m - 1, by omega⟩
    have hl : (bindP (x :: t)).length = 2 + x.length + (bindP t).length := by rw [bindP_cons, List.length_append, List.length_append, two_len]; omega
    have hx := h1 x (List.mem_cons_self ..)
    simp only [List.length_cons] at h2
    rw [cutAt]
    by_cases c : k = 0
    · subst c; rw [if_pos rfl, List.take_zero, lg_nil]; simp [endG]
    · rw [if_neg c]
      have hne : (bindP (x :: t)).take k ≠ [] := by
        intro h; have := congrArg List.length h; rw [List.length_take, hl] at this; simp at this; omega
      by_cases c1 : k < 2
      · rw [lg_one _ _ _ hne (by rw [List.length_take]; omega), if_neg (by omega)]; rfl
      · have hs : (bindP (x :: t)).take k = two x.length ++ (x ++ bindP t).take (k - 2) := by
          rw [bindP_cons, List.take_append, List.take_of_length_le (by rw [two_len]; omega), two_len]
        have ht : ((bindP (x :: t)).take k).take 2 = two x.length := by rw [hs]; exact List.take_left' rfl
        have hd : ((bindP (x :: t)).take k).drop 2 = (x ++ bindP t).take (k - 2) := by rw [hs]; exact List.drop_left' rfl
        have hw : wholeN (((bindP (x :: t)).take k).take 2) = x.length := by rw [ht]; exact wholeN_two _ (by omega)
        by_cases c2 : 2 + x.length ≤ k
        · rw [lg_step _ _ _ hne (by rw [List.length_take]; omega) (by rw [hw]; omega) (by rw [hw, hd, List.length_take, List.length_append]; omega), hw, hd, if_pos c2, List.take_take, List.drop_take, List.drop_left' rfl, show min x.length (k - 2) = x.length by omega, List.take_left' rfl]
          rw [show k - 2 - x.length = k - (2 + x.length) by omega, ih m (k - (2 + x.length)) (out ++ [x]) (fun y hy => h1 y (List.mem_cons_of_mem _ hy)) (by simp; omega) (by omega) (by omega)]
          cases cutAt t (k - (2 + x.length)) with
          | none => rfl
          | some p => simp [endG]
        · rw [lg_short _ _ _ hne (by rw [List.length_take]; omega) (by rw [hw]; omega) (by rw [hw, hd, List.length_take, List.length_append]; omega), if_neg c2]; rfl
theorem loose_bind (t : List Str) (h : mayP t) (k : Nat) (hk : k ≤ (bindP t).length) : looseS ((bindP t).take k) = endG (cutAt t k) [] := by
  unfold looseS
  rw [List.length_take]
  exact lg_bind t _ k [] h.2 (by have := h.1; simp; omega) hk (by omega)
def anyEnd : List Str → Nat → Nat → Bool
  | [], _, _ => false
  | x :: r, now, k => (now + (2 + x.length) == k) || anyEnd r (now + (2 + x.length)) k
theorem anyEnd_big : ∀ (t : List Str) (now k : Nat), k < now → anyEnd t now k = false
  | [], _, _, _ => rfl
  | x :: r, now, k, h => by
    rw [anyEnd, anyEnd_big r _ _ (by omega)]
    simp; omega
theorem cutAt_some : ∀ (t : List Str) (k now : Nat), k ≤ (bindP t).length → (cutAt t k).isSome = ((k == 0) || anyEnd t now (now + k))
  | [], k, now, h => by
    obtain rfl : k = 0 := by simpa [bindP] using h
    rfl
  | x :: t, k, now, h => by
    have hl : (bindP (x :: t)).length = 2 + x.length + (bindP t).length := by rw [bindP_cons, List.length_append, List.length_append, two_len]; omega
    rw [cutAt, anyEnd]
    by_cases c : k = 0
    · subst c; simp
    · rw [if_neg c]
      by_cases c2 : 2 + x.length ≤ k
      · rw [if_pos c2, Option.isSome_map, cutAt_some t (k - (2 + x.length)) (now + (2 + x.length)) (by omega), show now + (2 + x.length) + (k - (2 + x.length)) = now + k by omega]
        have e1 : (k == 0) = false := by simpa using c
        have e2 : (k - (2 + x.length) == 0) = (now + (2 + x.length) == now + k) := by rw [Bool.eq_iff_iff]; simp; omega
        rw [e1, e2]; rfl
      · rw [if_neg c2, anyEnd_big t _ _ (by omega)]
        have e1 : (k == 0) = false := by simpa using c
        have e2 : (now + (2 + x.length) == now + k) = false := by simp; omega
        rw [e1, e2]; rfl
theorem fewL_le (l : List Str) : ∀ x ∈ fewL l, x.length ≤ 4100 := by
  intro x hx
  obtain ⟨y, _, rfl⟩ := List.mem_map.mp hx
  rw [List.length_take]; omega
theorem bind_ok (t : List Str) (h : t.length ≤ 66) : f_octet_Bind t = some (bindR t) := by unfold f_octet_Bind; rw [gd_t _ (by omega)]
theorem bindR_may {t : List Str} (h : mayP t) : bindR t = (bindP t, 0) := by unfold bindR; rw [if_pos h]
theorem bindR_not {t : List Str} (h : ¬ mayP t) : bindR t = ([], 2) := by unfold bindR; rw [if_neg h]
theorem bounds_u64 {a : Int} (h : (Lit.int .u64 a).wf = true) : 0 ≤ a ∧ a ≤ 18446744073709551615 := by
  have e := (Bool.and_eq_true_iff.mp h); exact ⟨of_decide_eq_true e.1, of_decide_eq_true e.2⟩
def wideP (n : Nat) (k : Nat) : Str := (List.range k).map fun i => UInt8.ofNat (n / 2 ^ (8 * i))
theorem wideP_len (n k : Nat) : (wideP n k).length = k := by simp [wideP]
theorem wideP_succ (n k : Nat) : wideP n (k + 1) = wideP n k ++ [UInt8.ofNat (n / 2 ^ (8 * k))] := by simp [wideP, List.range_succ]
theorem wholeN_wide (n : Nat) : ∀ k, wholeN (wideP n k) = n % 2 ^ (8 * k)
  | 0 => by simp [wideP, wholeN]; omega
  | k + 1 => by
    rw [wideP_succ, wholeN_snoc, wholeN_wide n k, wideP_len, UInt8.toNat_ofNat', show 8 * (k + 1) = 8 * k + 8 by omega, Nat.pow_add, Nat.mod_mul, Nat.mul_comm (2 ^ (8 * k)) (n / 2 ^ (8 * k) % 2 ^ 8)]
theorem wide11_ok (n size : Nat) (hn : n < 2 ^ 64) (hs : size ≤ 8) (k : Nat) : ∀ (i m : Nat), i + k = size → k < m →
    f_octet_Wide_l11 (n : Int) (size : Int) m (i : Int) ((wideP n i).map bn ++ List.replicate k 0) = some ((size : Int), (wideP n size).map bn) := by
  induction k with
  | zero =>
    intro i m hi hm
    obtain ⟨m, rfl⟩ : ∃ k, m = k + 1 := ⟨m - 1, by omega⟩
    rw [f_octet_Wide_l11, if_neg (by simp; omega), show i = size by omega]; simp
  | succ k ih =>
    intro i m hi hm
    obtain ⟨m, rfl⟩ : ∃ k, m = k + 1 := ⟨m - 1, by omega⟩
    have e8 : IntKind.i64.wrap (8 * (i : Int)) = ((8 * i : Nat) : Int) := by rw [w_i64 (by omega) (by omega)]; omega
    rw [f_octet_Wide_l11, if_pos (by simp; omega), e8, gd_t _ (by omega), ix_nat, List.getElem?_append_right (by rw [List.length_map, wideP_len]; omega), List.length_map, wideP_len, Nat.sub_self, show (List.replicate (k + 1) (0 : Int))[0]? = some 0 from rfl, Option.bind_some, w_i64 (by omega) (by omega), Int.toNat_natCast, Int.toNat_natCast, show min (8 * i) IntKind.u64.bits = 8 * i by show min (8 * i) 64 = _; omega,
      List.set_append_right _ _ (by rw [List.length_map, wideP_len]; omega), List.length_map, wideP_len, Nat.sub_self, List.replicate_succ, List.set_cons_zero]
    have ev : IntKind.u8.wrap ((n : Int).fdiv (2 ^ (8 * i))) = bn (UInt8.ofNat (n / 2 ^ (8 * i))) := by
      rw [w_u8, show ((2 : Int) ^ (8 * i)) = ((2 ^ (8 * i) : Nat) : Int) by rw [Int.natCast_pow]; rfl, Int.fdiv_eq_ediv_of_nonneg _ (Int.natCast_nonneg _), ← Int.natCast_ediv]
      unfold bn; rw [UInt8.toNat_ofNat']; generalize n / 2 ^ (8 * i) = z; omega
    rw [ev]
    have q := ih (i + 1) m (by omega) (by omega)
    rw [wideP_succ, List.map_append, List.append_assoc] at q
    exact q
theorem wideN_ok (n size : Nat) (hn : n < 2 ^ 64) (hs : size ≤ 8) : f_octet_Wide (n : Int) (size : Int) = some (if size < 8 ∧ n / 2 ^ (8 * size) ≠ 0 then ([], 2) else (wideP n size, 0)) := by
  unfold f_octet_Wide
  have e8 : IntKind.i64.wrap (8 * (size : Int)) = ((8 * size : Nat) : Int) := by rw [w_i64 (by omega) (by omega)]; omega
  rw [if_neg (by simp; omega), e8, gd_t _ (fun _ => by omega), Int.toNat_natCast, show min (8 * size) IntKind.u64.bits = 8 * size by show min (8 * size) 64 = _; omega, show ((2 : Int) ^ (8 * size)) = ((2 ^ (8 * size) : Nat) : Int) by rw [Int.natCast_pow]; rfl, Int.fdiv_eq_ediv_of_nonneg _ (Int.natCast_nonneg _), ← Int.natCast_ediv]
  by_cases c : size < 8 ∧ n / 2 ^ (8 * size) ≠ 0
  · have h1 : (decide ((size : Int) < 8)) = true := decide_eq_true (by omega)
    have h2 : (((n / 2 ^ (8 * size) : Nat) : Int) != 0) = true := by rw [bne_iff_ne]; have := c.2; omega
    rw [if_pos c, h1, h2]; rfl
  · have h2 : ((decide ((size : Int) < 8)) && (((n / 2 ^ (8 * size) : Nat) : Int) != 0)) = false := by
      rw [Bool.and_eq_false_iff]
      by_cases d : size < 8
      · right; have : n / 2 ^ (8 * size) = 0 := Decidable.not_not.mp (fun h2 => c ⟨d, h2⟩); rw [this]; rfl
      · left; exact decide_eq_false (by omega)
    rw [if_neg c, if_neg (by rw [h2]; decide), gd_t _ (by omega), Int.toNat_natCast]
    have q := wide11_ok n size hn hs size 0 ((((size : Int) : Int) - 0).toNat + 1) (by omega) (by omega)
    rw [show ((0 : Nat) : Int) = 0 from rfl, show (wideP n 0).map bn = [] from rfl, List.nil_append] at q
    rw [q, Option.bind_some, nb_bn]
end Go.Proofs.Ytjhelpeglgigbaa.V.M
end

section
/- The laws DigestParses and DigestBack. -/
namespace Go.Proofs.Ytjhelpeglgigbaa.V.M
set_option linter.unusedVariables false
set_option linter.unusedSimpArgs false
open Go Go.RowKit
theorem w8r (a b : UInt8) (ha : hx a < 16) (hb : hx b < 16) : IntKind.u8.wrap (IntKind.i64.wrap ((IntKind.i64.wrap (16 * (hx a : Int))) + (hx b : Int))) = bn (UInt8.ofNat (16 * hx a + hx b)) := by
  rw [Int.mul_comm]; exact w8h a b ha hb
def refParseS (s : Str) : Str × Bool := if s.length = 71 ∧ s.take 7 = pfx then (match un (s.drop 7) with | some x => (x, true) | none => ([], false)) else ([], false)
theorem parseS_cases (s : Str) : (∃ x, parseS s = (x, 0) ∧ x.length = 32 ∧ refParseS s = (x, true)) ∨ (parseS s = ([], 6) ∧ refParseS s = ([], false)) := by
  unfold parseS refParseS
  by_cases c : s.take 7 = pfx
  · have l7 : 7 ≤ s.length := by have := congrArg List.length c; rw [List.length_take] at this; simp at this; omega
    rw [if_pos c]
    cases e : un (s.drop 7) with
    | none => right; refine ⟨rfl, ?_⟩; split <;> rfl
    | some x =>
      have l := un_len _ _ _ (Nat.le_refl _) e
      rw [List.length_drop] at l
      by_cases d : x.length = 32
      · left; exact ⟨x, by simp [d], d, by rw [if_pos ⟨by omega, c⟩]⟩
      · right; refine ⟨by simp [d], ?_⟩; rw [if_neg (by omega)]
  · right; rw [if_neg c, if_neg (fun h => c h.2)]; exact ⟨rfl, rfl⟩
end Go.Proofs.Ytjhelpeglgigbaa.V.M
end

section
/- The law DigestBack. -/
namespace Go.Proofs.Ytjhelpeglgigbaa.V.M
set_option linter.unusedVariables false
set_option linter.unusedSimpArgs false
open Go Go.RowKit
theorem take_if {α : Type} (x : List α) (n : Nat) (c : Int) (hc : c = (n : Int)) : cut x 0 (if c < (x.length : Int) then c else (x.length : Int)) = x.take n ∧ (0 ≤ (if c < (x.length : Int) then c else (x.length : Int)) ∧ (if c < (x.length : Int) then c else (x.length : Int)) ≤ (x.length : Int)) := by
  subst hc
  by_cases c : n < x.length
  · rw [if_pos (by omega)]; exact ⟨cut_zero x n, by omega⟩
  · rw [if_neg (by omega)]; refine ⟨?_, by omega⟩; rw [cut_zero, List.take_of_length_le (Nat.le_refl _), List.take_of_length_le (by omega)]
theorem join_le (n m : Nat) : ∀ l : List Str, l.length ≤ n → (∀ x ∈ l, x.length ≤ m) → (Lib.join l []).length ≤ n * m := by
  have e : ∀ l : List Str, Lib.join l [] = l.flatten := by
    intro l
    cases l with
    | nil => rfl
    | cons x r =>
      rw [Lib.join_cons, List.flatten_cons]; congr 1
      induction r with
      | nil => rfl
      | cons y r ih => simp [Lib.joinTail] at *
  intro l hl hx
  rw [e]
  have : ∀ l : List Str, (∀ x ∈ l, x.length ≤ m) → l.flatten.length ≤ l.length * m := by
    intro l
    induction l with
    | nil => intro _; simp
    | cons x l ih =>
      intro h
      have a := h x List.mem_cons_self
      have b := ih (fun y hy => h y (List.mem_cons_of_mem _ hy))
      rw [List.flatten_cons, List.length_append, List.length_cons, Nat.add_mul]; omega
  exact Nat.le_trans (this l hx) (Nat.mul_le_mul_right _ hl)
end Go.Proofs.Ytjhelpeglgigbaa.V.M
end

section
/- Names: what a part is, by both texts. -/
namespace Go.Proofs.Ytjhelpeglgigbaa.V.M
set_option linter.unusedVariables false
set_option linter.unusedSimpArgs false
open Go Go.RowKit
def sm (c : UInt8) : Bool := (decide (97 ≤ c.toNat) && decide (c.toNat ≤ 122)) || (decide (48 ≤ c.toNat) && decide (c.toNat ≤ 57))
theorem bn45 (c : UInt8) : (bn c == 45) = decide (c = 45) := u8_all (P := fun c => (bn c == 45) = decide (c = 45)) (by kernel_rfl) c
theorem bn46 (c : UInt8) : (bn c == 46) = decide (c = 46) := u8_all (P := fun c => (bn c == 46) = decide (c = 46)) (by kernel_rfl) c
theorem bn95 (c : UInt8) : (bn c == 95) = decide (c = 95) := u8_all (P := fun c => (bn c == 95) = decide (c = 95)) (by kernel_rfl) c
theorem bn47 (c : UInt8) : (bn c == 47) = decide (c = 47) := u8_all (P := fun c => (bn c == 47) = decide (c = 47)) (by kernel_rfl) c
theorem bn64 (c : UInt8) : (bn c == 64) = decide (c = 64) := u8_all (P := fun c => (bn c == 64) = decide (c = 64)) (by kernel_rfl) c
/-- The rest of a part behind the byte p, run bytes behind the last letter. -/
def partGo : Nat → UInt8 → Str → Bool
  | run, _, [] => run == 0
  | run, p, c :: l => if sm c then partGo 0 c l else if c = 45 then (if run ≠ 0 ∧ p ≠ 45 then false else partGo (run + 1) c l) else if c = 95 ∧ run = 1 ∧ p = 95 then partGo (run + 1) c l else if (c = 95 ∨ c = 46) ∧ run = 0 then partGo (run + 1) c l else false
def partS : Str → Bool
  | [] => false
  | c :: l => sm c && partGo 0 c l
theorem ix_app {α : Type} (pre : List α) (c : α) (l : List α) (n : Nat) (hn : n = pre.length) : ix (pre ++ c :: l) (n : Int) = some c := by subst hn; rw [ix_nat]; simp
theorem getD_app (pre : Str) (c : UInt8) (l : Str) (n : Nat) (hn : n = pre.length) : (pre ++ c :: l).getD n 0 = c := by subst hn; simp
theorem w_nat {n : Nat} (h : n < 9223372036854775808) : IntKind.i64.wrap (n : Int) = n := w_i64 (by omega) (by omega)
theorem w_s {n : Nat} (h : n + 1 < 9223372036854775808) : IntKind.i64.wrap ((n : Int) + 1) = ((n + 1 : Nat) : Int) := by rw [w_i64 (by omega) (by omega)]; rfl
theorem w_p {n : Nat} (h : n < 9223372036854775808) : IntKind.i64.wrap (((n + 1 : Nat) : Int) - 1) = (n : Int) := by rw [w_i64 (by omega) (by omega)]; omega
end Go.Proofs.Ytjhelpeglgigbaa.V.M
end

section
/- Ledger: disks that may be, a half's room, its head, what it tells. -/
namespace Go.Proofs.Ytjhelpeglgigbaa.V.M
set_option linter.unusedVariables false
set_option linter.unusedSimpArgs false
open Go Go.RowKit
/-- What a search says: nothing, or a place. -/
abbrev seekR (b : Bool) (r : Int ⊕ Int) : Prop := (b = true → ∃ j : Nat, r = .inr (j : Int)) ∧ (b = false → ∃ z, r = .inl z)
theorem seekS (s : List Str) (f : Str → Option Bool) (p : Str → Bool) (hf : ∀ x, f x = some (p x)) (hb : s.length < 4611686018427387904) (k : Nat) : ∀ (i m : Nat), i + k = s.length → k < m →
    ∃ r, f_slices_IndexFunc_string_string_l7 s f m (i : Int) = some r ∧ seekR ((s.drop i).any p) r := by
  induction k with
  | zero =>
    intro i m hi hm
    obtain ⟨m, rfl⟩ : ∃ k, m = k + 1 := ⟨m - 1, by omega⟩
    rw [f_slices_IndexFunc_string_string_l7, if_neg (by simp; omega), List.drop_eq_nil_of_le (by omega)]
    exact ⟨_, rfl, And.intro (fun h => by simp at h) (fun _ => ⟨(i : Int), rfl⟩)⟩
  | succ k ih =>
    intro i m hi hm
    obtain ⟨m, rfl⟩ : ∃ k, m = k + 1 := ⟨m - 1, by omega⟩
    rw [f_slices_IndexFunc_string_string_l7, if_pos (by simp; omega), ix_nat, List.getElem?_eq_getElem (by omega), Option.bind_some, hf, Option.bind_some, List.drop_eq_getElem_cons (show i < s.length by omega), List.any_cons]
    by_cases c : p (s[i]'(by omega)) = true
    · rw [if_pos c, c]; exact ⟨_, rfl, And.intro (fun _ => ⟨i, rfl⟩) (fun h => by simp at h)⟩
    · rw [if_neg c, w_s (by omega)]
      have c2 : p (s[i]'(by omega)) = false := by simpa using c
      rw [c2, Bool.false_or]
      exact ih (i + 1) m (by omega) (by omega)
theorem containsS (s : List Str) (f : Str → Option Bool) (p : Str → Bool) (hf : ∀ x, f x = some (p x)) (hb : s.length < 4611686018427387904) : f_slices_ContainsFunc_string_string s f = some (s.any p) := by
  unfold f_slices_ContainsFunc_string_string f_slices_IndexFunc_string_string
  obtain ⟨r, e, h1, h2⟩ := seekS s f p hf hb s.length 0 ((((s.length : Int) : Int) - 0).toNat + 1) (by omega) (by omega)
  rw [show ((0 : Nat) : Int) = 0 from rfl] at e
  rw [List.drop_zero] at h1 h2
  rw [e, Option.bind_some]
  cases c : s.any p with
  | true => obtain ⟨j, rfl⟩ := h1 c; exact congrArg some (decide_eq_true (Int.natCast_nonneg j))
  | false => obtain ⟨z, rfl⟩ := h2 c; rfl
theorem seekW (s : List api_Write) (f : api_Write → Option Bool) (p : api_Write → Bool) (hf : ∀ x, f x = some (p x)) (hb : s.length < 4611686018427387904) (k : Nat) : ∀ (i m : Nat), i + k = s.length → k < m →
    ∃ r, f_slices_IndexFunc_api_Write_api_Write_l7 s f m (i : Int) = some r ∧ seekR ((s.drop i).any p) r := by
  induction k with
  | zero =>
    intro i m hi hm
    obtain ⟨m, rfl⟩ : ∃ k, m = k + 1 := ⟨m - 1, by omega⟩
    rw [f_slices_IndexFunc_api_Write_api_Write_l7, if_neg (by simp; omega), List.drop_eq_nil_of_le (by omega)]
    exact ⟨_, rfl, And.intro (fun h => by simp at h) (fun _ => ⟨(i : Int), rfl⟩)⟩
  | succ k ih =>
    intro i m hi hm
    obtain ⟨m, rfl⟩ : ∃ k, m = k + 1 := ⟨m - 1, by omega⟩
    rw [f_slices_IndexFunc_api_Write_api_Write_l7, if_pos (by simp; omega), ix_nat, List.getElem?_eq_getElem (by omega), Option.bind_some, hf, Option.bind_some, List.drop_eq_getElem_cons (show i < s.length by omega), List.any_cons]
    by_cases c : p (s[i]'(by omega)) = true
    · rw [if_pos c, c]; exact ⟨_, rfl, And.intro (fun _ => ⟨i, rfl⟩) (fun h => by simp at h)⟩
    · rw [if_neg c, w_s (by omega)]
      have c2 : p (s[i]'(by omega)) = false := by simpa using c
      rw [c2, Bool.false_or]
      exact ih (i + 1) m (by omega) (by omega)
theorem containsW (s : List api_Write) (f : api_Write → Option Bool) (p : api_Write → Bool) (hf : ∀ x, f x = some (p x)) (hb : s.length < 4611686018427387904) : f_slices_ContainsFunc_api_Write_api_Write s f = some (s.any p) := by
  unfold f_slices_ContainsFunc_api_Write_api_Write f_slices_IndexFunc_api_Write_api_Write
  obtain ⟨r, e, h1, h2⟩ := seekW s f p hf hb s.length 0 ((((s.length : Int) : Int) - 0).toNat + 1) (by omega) (by omega)
  rw [show ((0 : Nat) : Int) = 0 from rfl] at e
  rw [List.drop_zero] at h1 h2
  rw [e, Option.bind_some]
  cases c : s.any p with
  | true => obtain ⟨j, rfl⟩ := h1 c; exact congrArg some (decide_eq_true (Int.natCast_nonneg j))
  | false => obtain ⟨z, rfl⟩ := h2 c; rfl
def badW (n : Int) (w : api_Write) : Bool := ((decide (w.At < 0)) || (decide (w.At ≥ n))) || ((w.Data.length : Int) != 128)
def badS (s : Str) : Bool := (s.length : Int) != 128
def okB (d : api_Disk) : Bool := (((decide ((d.Sectors.length : Int) ≥ 4)) && (decide ((d.Sectors.length : Int) ≤ 64))) && (decide ((d.Dirty.length : Int) ≤ 200))) && (!d.Sectors.any badS) && (!d.Dirty.any (badW (d.Sectors.length : Int)))
theorem well_ok (l : List api_Write) (n : Int) (hb : l.length < 4611686018427387904) : f_disk_well l n = some (!l.any (badW n)) := by
  unfold f_disk_well
  rw [containsW l (fun a0 => f_disk_well_1 a0 n) (badW n) (fun x => rfl) hb]; rfl
theorem right_ok (d : api_Disk) (h1 : d.Sectors.length < 4611686018427387904) (h2 : d.Dirty.length < 4611686018427387904) : f_disk_Right d = some (okB d) := by
  unfold f_disk_Right okB
  rw [containsS _ f_disk_Right_1 badS (fun x => rfl) h1, well_ok _ _ h2]
  generalize (((decide ((d.Sectors.length : Int) ≥ 4)) && (decide ((d.Sectors.length : Int) ≤ 64))) && (decide ((d.Dirty.length : Int) ≤ 200))) = a
  generalize d.Sectors.any badS = b
  generalize d.Dirty.any (badW (d.Sectors.length : Int)) = c
  cases a <;> cases b <;> cases c <;> rfl
theorem rwell7 (l : List api_Write) (n : Int) (hb : l.length < 4611686018427387904) (k : Nat) : ∀ (i m : Nat), i + k = l.length → k < m →
    f_ref09_Well_l7 l n m (i : Int) = some (if (l.drop i).any (badW n) = true then .inr false else .inl (l.length : Int)) := by
  induction k with
  | zero =>
    intro i m hi hm
    obtain ⟨m, rfl⟩ : ∃ k, m = k + 1 := ⟨m - 1, by omega⟩
    rw [f_ref09_Well_l7, if_neg (by simp; omega), List.drop_eq_nil_of_le (by omega), show i = l.length by omega]; rfl
  | succ k ih =>
    intro i m hi hm
    obtain ⟨m, rfl⟩ : ∃ k, m = k + 1 := ⟨m - 1, by omega⟩
    rw [f_ref09_Well_l7, if_pos (by simp; omega), ix_nat, List.getElem?_eq_getElem (by omega), Option.bind_some, List.drop_eq_getElem_cons (show i < l.length by omega), List.any_cons]
    change (if badW n (l[i]'(by omega)) = true then some (.inr false) else f_ref09_Well_l7 l n m (IntKind.i64.wrap ((i : Int) + 1))) = _
    by_cases c : badW n (l[i]'(by omega)) = true
    · rw [if_pos c, c]; rfl
    · rw [if_neg c, w_s (by omega)]
      have c2 : badW n (l[i]'(by omega)) = false := by simpa using c
      rw [c2, Bool.false_or]
      exact ih (i + 1) m (by omega) (by omega)
theorem rwell_ok (l : List api_Write) (n : Int) (hb : l.length < 4611686018427387904) : f_ref09_Well l n = some (!l.any (badW n)) := by
  unfold f_ref09_Well
  have q := rwell7 l n hb l.length 0 ((((l.length : Int) : Int) - 0).toNat + 1) (by omega) (by omega)
  rw [show ((0 : Nat) : Int) = 0 from rfl, List.drop_zero] at q
  rw [q]
  cases l.any (badW n) <;> rfl
theorem rright7 (d : api_Disk) (hb : d.Sectors.length < 4611686018427387904) (k : Nat) : ∀ (i m : Nat), i + k = d.Sectors.length → k < m →
    f_ref09_Right_l7 d m (i : Int) = some (if (d.Sectors.drop i).any badS = true then .inr false else .inl (d.Sectors.length : Int)) := by
  induction k with
  | zero =>
    intro i m hi hm
    obtain ⟨m, rfl⟩ : ∃ k, m = k + 1 := ⟨m - 1, by omega⟩
    rw [f_ref09_Right_l7, if_neg (by simp; omega), List.drop_eq_nil_of_le (by omega), show i = d.Sectors.length by omega]; rfl
  | succ k ih =>
    intro i m hi hm
    obtain ⟨m, rfl⟩ : ∃ k, m = k + 1 := ⟨m - 1, by omega⟩
    rw [f_ref09_Right_l7, if_pos (by simp; omega), ix_nat, List.getElem?_eq_getElem (by omega), Option.bind_some, List.drop_eq_getElem_cons (show i < d.Sectors.length by omega), List.any_cons]
    change (if badS (d.Sectors[i]'(by omega)) = true then some (.inr false) else f_ref09_Right_l7 d m (IntKind.i64.wrap ((i : Int) + 1))) = _
    by_cases c : badS (d.Sectors[i]'(by omega)) = true
    · rw [if_pos c, c]; rfl
    · rw [if_neg c, w_s (by omega)]
      have c2 : badS (d.Sectors[i]'(by omega)) = false := by simpa using c
      rw [c2, Bool.false_or]
      exact ih (i + 1) m (by omega) (by omega)
theorem rright_ok (d : api_Disk) (h1 : d.Sectors.length < 4611686018427387904) (h2 : d.Dirty.length < 4611686018427387904) : f_ref09_Right d = some (okB d) := by
  unfold f_ref09_Right okB
  have q := rright7 d h1 d.Sectors.length 0 ((((d.Sectors.length : Int) : Int) - 0).toNat + 1) (by omega) (by omega)
  rw [show ((0 : Nat) : Int) = 0 from rfl, List.drop_zero] at q
  rw [q, rwell_ok _ _ h2]
  generalize (((decide ((d.Sectors.length : Int) ≥ 4)) && (decide ((d.Sectors.length : Int) ≤ 64))) && (decide ((d.Dirty.length : Int) ≤ 200))) = a
  generalize d.Sectors.any badS = b
  generalize d.Dirty.any (badW (d.Sectors.length : Int)) = c
  cases a <;> cases b <;> cases c <;> rfl
/-- A disk that may be. -/
structure OkD (d : api_Disk) : Prop where
  lo : 4 ≤ d.Sectors.length
  hi : d.Sectors.length ≤ 64
  dirty : d.Dirty.length ≤ 200
  sect : ∀ s ∈ d.Sectors, s.length = 128
theorem okB_ok {d : api_Disk} (h : okB d = true) : OkD d := by
  unfold okB at h
  simp only [Bool.and_eq_true, decide_eq_true_eq, Bool.not_eq_true', List.any_eq_false] at h
  obtain ⟨⟨⟨⟨h1, h2⟩, h3⟩, h4⟩, h5⟩ := h
  refine ⟨by omega, by omega, by omega, fun s hs => ?_⟩
  have := h4 s hs
  unfold badS at this
  simp at this
  omega
theorem flat128 : ∀ (l : List Str), (∀ s ∈ l, s.length = 128) → l.flatten.length = 128 * l.length
  | [], _ => rfl
  | s :: l, h => by
    rw [List.flatten_cons, List.length_append, flat128 l (fun x hx => h x (List.mem_cons_of_mem _ hx)), h s (List.mem_cons_self ..), List.length_cons]; omega
theorem join_flat (l : List Str) : Lib.join l [] = l.flatten := by
  cases l with
  | nil => rfl
  | cons x r =>
    rw [Lib.join_cons, List.flatten_cons]
    congr 1
    unfold Lib.joinTail
    congr 1
    show List.map (fun x => [] ++ x) r = r
    simp
/-- A half's room. -/
def hf (d : api_Disk) : Nat := d.Sectors.length / 2
def roomL (d : api_Disk) (half : Nat) : List Str := (d.Sectors.drop (half * hf d + 1)).take (hf d - 1)
def roomS (d : api_Disk) (half : Nat) : Str := (roomL d half).flatten
theorem hf_le {d : api_Disk} (h : OkD d) : 2 ≤ hf d ∧ hf d ≤ 32 ∧ 2 * hf d ≤ d.Sectors.length := by
  have := h.lo; have := h.hi; unfold hf; omega
theorem roomL_len {d : api_Disk} (h : OkD d) {half : Nat} (hh : half ≤ 1) : (roomL d half).length = hf d - 1 := by
  have := hf_le h
  unfold roomL
  rw [List.length_take, List.length_drop]
  have : half * hf d ≤ hf d := by rcases Nat.le_one_iff_eq_zero_or_eq_one.mp hh with rfl | rfl <;> omega
  omega
theorem roomL_mem {d : api_Disk} {half : Nat} : ∀ s ∈ roomL d half, s ∈ d.Sectors := fun s hs => List.mem_of_mem_drop (List.mem_of_mem_take hs)
theorem roomS_len {d : api_Disk} (h : OkD d) {half : Nat} (hh : half ≤ 1) : (roomS d half).length = 128 * (hf d - 1) := by
  unfold roomS
  rw [flat128 _ (fun s hs => h.sect s (roomL_mem s hs)), roomL_len h hh]
theorem half_mul {d : api_Disk} (h : OkD d) : IntKind.i64.wrap ((d.Sectors.length : Int).tdiv 2) = (hf d : Int) := by
  have := h.hi
  rw [Int.tdiv_eq_ediv_of_nonneg (by omega), w_i64 (by omega) (by omega)]
  unfold hf; omega
theorem room_ok (d : api_Disk) (h : OkD d) (half : Nat) (hh : half ≤ 1) : f_ledger_room d (half : Int) = some (((half * hf d : Nat) : Int), roomS d half) := by
  have hl := hf_le h
  have hi := h.hi
  have hm : half * hf d ≤ hf d := by rcases Nat.le_one_iff_eq_zero_or_eq_one.mp hh with rfl | rfl <;> omega
  have hm2 : (half + 1) * hf d = half * hf d + hf d := by rw [Nat.add_mul, Nat.one_mul]
  have e1 : IntKind.i64.wrap ((half : Int) * (hf d : Int)) = ((half * hf d : Nat) : Int) := by rw [← Int.natCast_mul, w_nat (by omega)]
  have e2 : IntKind.i64.wrap (((half * hf d : Nat) : Int) + 1) = ((half * hf d + 1 : Nat) : Int) := w_s (by omega)
  have e3 : IntKind.i64.wrap ((half : Int) + 1) = ((half + 1 : Nat) : Int) := w_s (by omega)
  have e4 : IntKind.i64.wrap (((half + 1 : Nat) : Int) * (hf d : Int)) = ((half * hf d + hf d : Nat) : Int) := by rw [← Int.natCast_mul, hm2, w_nat (by omega)]
  unfold f_ledger_room
  rw [half_mul h, e1, e2, e3, e4, gd_t _ (by omega)]
  have ec : cut d.Sectors ((half * hf d + 1 : Nat) : Int) ((half * hf d + hf d : Nat) : Int) = roomL d half := by
    unfold cut roomL
    rw [Int.toNat_natCast, Int.toNat_natCast, List.take_drop, show half * hf d + 1 + (hf d - 1) = half * hf d + hf d by omega]
  rw [ec]
  have ej : f_strings_Join (roomL d half) ([] : Str) = some (roomS d half) := by
    unfold f_strings_Join
    rw [join_flat, gd_t _ ⟨by rw [roomL_len h hh]; omega, by have := roomS_len h hh; unfold roomS at this; rw [this]; omega⟩]; rfl
  rw [ej]; rfl
end Go.Proofs.Ytjhelpeglgigbaa.V.M
end

section
/- Ledger: heads, and what they tell; by both texts. -/
namespace Go.Proofs.Ytjhelpeglgigbaa.V.M
set_option linter.unusedVariables false
set_option linter.unusedSimpArgs false
open Go Go.RowKit
theorem cut_mid {α : Type} (l : List α) (a b : Nat) : cut l (a : Int) ((a + b : Nat) : Int) = (l.drop a).take b := by
  unfold cut
  rw [Int.toNat_natCast, Int.toNat_natCast, List.take_drop]
def headS (g u : Nat) : Str := (([108, 101, 100] : Str) ++ wideP g 6) ++ wideP u 3 ++ List.replicate 116 0
theorem headS_len (g u : Nat) : (headS g u).length = 128 := by simp [headS, wideP_len]
theorem head_ok (g u : Nat) (hg : g < 281474976710656) (hu : u < 16777216) : f_ledger_head (g : Int) (u : Int) = some (headS g u) := by
  unfold f_ledger_head
  have e1 : f_octet_Wide ((g : Nat) : Int) 6 = some (wideP g 6, 0) := by
    have := wideN_ok g 6 (by omega) (by omega)
    rw [if_neg (by intro h; exact h.2 (Nat.div_eq_of_lt (by omega)))] at this
    exact this
  have e2 : f_octet_Wide ((u : Nat) : Int) 3 = some (wideP u 3, 0) := by
    have := wideN_ok u 3 (by omega) (by omega)
    rw [if_neg (by intro h; exact h.2 (Nat.div_eq_of_lt (by omega)))] at this
    exact this
  rw [w_u64n (by omega), w_u64n (by omega), e1, Option.bind_some, e2, Option.bind_some]
  dsimp only
  have l1 : ((([108, 101, 100] : Str) ++ wideP g 6) ++ wideP u 3).length = 12 := by simp [wideP_len]
  have l2 : (([108, 101, 100] : Str) ++ wideP g 6).length = 9 := by simp [wideP_len]
  rw [gd_t _ (by rw [wideP_len]; omega), gd_t _ (by rw [l2, wideP_len]; omega), l1]
  have e3 : f_strings_Repeat ([0] : Str) (IntKind.i64.wrap (128 - ((12 : Nat) : Int))) = some (List.replicate 116 0) := by
    rw [w_i64 (by omega) (by omega)]
    unfold f_strings_Repeat
    rw [gd_t _ (by decide), show ((128 : Int) - ((12 : Nat) : Int)).toNat = 116 from rfl]
    have := Lib.repeatL_replicate (0 : UInt8) 1 116
    exact congrArg some this
  rw [e3, Option.bind_some, gd_t _ (by simp)]; rfl
theorem rwide7 (n size : Nat) (hn : n < 2 ^ 64) (hs : size ≤ 8) (k : Nat) : ∀ (i m : Nat), i + k = size → k < m →
    ∃ z z2, f_ref01_Wide_l7 (size : Int) m ((n / 2 ^ (8 * i) : Nat) : Int) (i : Int) ((wideP n i).map bn) = some (z, z2, (wideP n size).map bn) := by
  induction k with
  | zero =>
    intro i m hi hm
    obtain ⟨m, rfl⟩ : ∃ k, m = k + 1 := ⟨m - 1, by omega⟩
    rw [f_ref01_Wide_l7, if_neg (by simp; omega), show i = size by omega]
    exact ⟨_, _, rfl⟩
  | succ k ih =>
    intro i m hi hm
    obtain ⟨m, rfl⟩ : ∃ k, m = k + 1 := ⟨m - 1, by omega⟩
    have hle : n / 2 ^ (8 * i) ≤ n := Nat.div_le_self _ _
    have d1 : n / 2 ^ (8 * i) / 256 = n / 2 ^ (8 * (i + 1)) := by rw [Nat.div_div_eq_div_mul, show 8 * (i + 1) = 8 * i + 8 by omega, Nat.pow_add]
    have e1 : IntKind.u64.wrap (((n / 2 ^ (8 * i) : Nat) : Int).tdiv 256) = ((n / 2 ^ (8 * (i + 1)) : Nat) : Int) := by
      rw [Int.tdiv_eq_ediv_of_nonneg (Int.natCast_nonneg _), ← d1]
      generalize n / 2 ^ (8 * i) = z at hle
      rw [w_u64 (by omega) (by omega)]; omega
    have e2 : IntKind.u8.wrap (((n / 2 ^ (8 * i) : Nat) : Int).tmod 256) = bn (UInt8.ofNat (n / 2 ^ (8 * i))) := by
      rw [Int.tmod_eq_emod_of_nonneg (Int.natCast_nonneg _), w_u8]
      unfold bn; rw [UInt8.toNat_ofNat']
      generalize n / 2 ^ (8 * i) = z
      omega
    rw [f_ref01_Wide_l7, if_pos (by simp; omega), gd_t _ (by rw [List.length_map, wideP_len]; omega), e1, e2, w_s (by omega)]
    have q := ih (i + 1) m (by omega) (by omega)
    rw [wideP_succ, List.map_append] at q
    exact q
theorem rwideN_ok (n size : Nat) (hn : n < 2 ^ 64) (hs : size ≤ 8) : f_ref01_Wide (n : Int) (size : Int) = some (wideP n size) := by
  unfold f_ref01_Wide
  obtain ⟨z, z2, q⟩ := rwide7 n size hn hs size 0 (((size : Int) - 0).toNat + 1) (by omega) (by omega)
  rw [show ((n / 2 ^ (8 * 0) : Nat) : Int) = (n : Int) by simp, show ((0 : Nat) : Int) = 0 from rfl, show (wideP n 0).map bn = [] from rfl] at q
  rw [q, Option.bind_some, nb_bn]
theorem rhead4 (k : Nat) : ∀ (m : Nat) (s : Str), s.length + k = 128 → k < m → f_ref10_Head_l4 m s = some (s ++ List.replicate k 0) := by
  induction k with
  | zero =>
    intro m s hs hm
    obtain ⟨m, rfl⟩ : ∃ k, m = k + 1 := ⟨m - 1, by omega⟩
    rw [f_ref10_Head_l4_e2, if_neg (by simp; omega)]; simp
  | succ k ih =>
    intro m s hs hm
    obtain ⟨m, rfl⟩ : ∃ k, m = k + 1 := ⟨m - 1, by omega⟩
    rw [f_ref10_Head_l4_e2, if_pos (by simp; omega), gd_t _ (by omega), ih m (s ++ [0]) (by simp; omega) (by omega), List.append_assoc, List.replicate_succ]; rfl
theorem rhead_ok (g u : Nat) (hg : g < 281474976710656) (hu : u < 16777216) : f_ref10_Head (g : Int) (u : Int) = some (headS g u) := by
  unfold f_ref10_Head
  have l1 : ((([108, 101, 100] : Str) ++ wideP g 6) ++ wideP u 3).length = 12 := by simp [wideP_len]
  have l2 : (([108, 101, 100] : Str) ++ wideP g 6).length = 9 := by simp [wideP_len]
  have e1 : f_ref01_Wide ((g : Nat) : Int) 6 = some (wideP g 6) := rwideN_ok g 6 (by omega) (by omega)
  have e2 : f_ref01_Wide ((u : Nat) : Int) 3 = some (wideP u 3) := rwideN_ok u 3 (by omega) (by omega)
  rw [w_u64n (by omega), w_u64n (by omega), e1, Option.bind_some, gd_t _ (by rw [wideP_len]; omega), e2, Option.bind_some, gd_t _ (by rw [l2, wideP_len]; omega), rhead4 116 _ _ (by rw [l1]) (by rw [l1]; decide), Option.bind_some]; rfl
/-- What a half's head tells; 0: nothing. -/
def secS (d : api_Disk) (half : Nat) : Str := d.Sectors.getD (half * hf d) []
def genN (s : Str) : Nat := wholeN ((s.drop 3).take 6)
def usedN (s : Str) : Nat := wholeN ((s.drop 9).take 3)
def toldB (d : api_Disk) (half : Nat) : Bool := decide (1 ≤ genN (secS d half)) && decide (genN (secS d half) ≤ 1099511627776) && decide (usedN (secS d half) ≤ 128 * (hf d - 1)) && (headS (genN (secS d half)) (usedN (secS d half)) == secS d half)
def tellsS (d : api_Disk) (half : Nat) : Nat × Nat := if toldB d half = true then (genN (secS d half), usedN (secS d half)) else (0, 0)
theorem sec_ix {d : api_Disk} (h : OkD d) {half : Nat} (hh : half ≤ 1) : ix d.Sectors ((half * hf d : Nat) : Int) = some (secS d half) ∧ (secS d half).length = 128 := by
  have hl := hf_le h
  have hm : half * hf d ≤ hf d := by rcases Nat.le_one_iff_eq_zero_or_eq_one.mp hh with rfl | rfl <;> omega
  have e : secS d half = d.Sectors[half * hf d]'(by omega) := by unfold secS; rw [List.getD_eq_getElem?_getD, List.getElem?_eq_getElem (by omega)]; rfl
  rw [ix_nat, List.getElem?_eq_getElem (by omega), e]
  exact ⟨rfl, h.sect _ (List.getElem_mem _)⟩
theorem genN_lt (s : Str) : genN s < 281474976710656 := by
  unfold genN
  have h1 := wholeN_lt ((s.drop 3).take 6)
  have h2 : ((s.drop 3).take 6).length ≤ 6 := by rw [List.length_take]; omega
  exact Nat.lt_of_lt_of_le h1 (Nat.pow_le_pow_right (by decide) (show 8 * ((s.drop 3).take 6).length ≤ 48 by omega))
theorem usedN_lt (s : Str) : usedN s < 16777216 := by
  unfold usedN
  have h1 := wholeN_lt ((s.drop 9).take 3)
  have h2 : ((s.drop 9).take 3).length ≤ 3 := by rw [List.length_take]; omega
  exact Nat.lt_of_lt_of_le h1 (Nat.pow_le_pow_right (by decide) (show 8 * ((s.drop 9).take 3).length ≤ 24 by omega))
theorem tells_ok (d : api_Disk) (h : OkD d) (half : Nat) (hh : half ≤ 1) : f_ledger_tells d (half : Int) = some (((tellsS d half).1 : Int), ((tellsS d half).2 : Int)) := by
  obtain ⟨e1, e2⟩ := sec_ix h hh
  have hl := hf_le h
  have hr := roomS_len h hh
  unfold f_ledger_tells tellsS toldB
  rw [room_ok d h half hh, Option.bind_some]
  dsimp only
  rw [e1, Option.bind_some]
  generalize secS d half = s at e2
  have c1 : cut s 3 9 = (s.drop 3).take 6 := cut_mid s 3 6
  have c2 : cut s 9 12 = (s.drop 9).take 3 := cut_mid s 9 3
  have g1 := genN_lt s
  have u1 := usedN_lt s
  rw [gd_t _ (by omega), c1, whole_ok _ (by rw [List.length_take]; omega), Option.bind_some, gd_t _ (by omega), c2, whole_ok _ (by rw [List.length_take]; omega), Option.bind_some]
  dsimp only
  rw [show wholeN ((s.drop 3).take 6) = genN s from rfl, show wholeN ((s.drop 9).take 3) = usedN s from rfl]
  rw [w_nat (n := genN s) (by omega), w_nat (n := usedN s) (by omega), head_ok _ _ g1 u1, hr, w_u64n (by omega)]
  generalize genN s = g at g1
  generalize usedN s = u at u1
  generalize 128 * (hf d - 1) = r
  by_cases a : 1 ≤ g
  · by_cases b : g ≤ 1099511627776
    · by_cases c : u ≤ r
      · have x1 : (decide ((g : Int) < 1)) = false := decide_eq_false (by omega)
        have x2 : (decide ((g : Int) > 1099511627776)) = false := decide_eq_false (by omega)
        have x3 : (decide ((u : Int) > (r : Int))) = false := decide_eq_false (by omega)
        simp only [x1, x2, x3, a, b, c, decide_true, Bool.or_self, Bool.false_or, Bool.true_and, Bool.not_false, gx, if_true, Option.bind_some]
        by_cases e : headS g u = s
        · rw [e]; simp
        · have : (headS g u == s) = false := by simpa using e
          simp [this]
      · have x3 : (decide ((u : Int) > (r : Int))) = true := decide_eq_true (by omega)
        have c' : decide (u ≤ r) = false := decide_eq_false c
        have x1 : (decide ((g : Int) < 1)) = false := decide_eq_false (by omega)
        have x2 : (decide ((g : Int) > 1099511627776)) = false := decide_eq_false (by omega)
        simp only [x1, x2, x3, a, b, c', decide_true, Bool.or_true, Bool.true_or, Bool.or_self, Bool.false_or, Bool.true_and, Bool.and_false, Bool.false_and, Bool.not_true, gx, if_true, Bool.false_eq_true, if_false, Option.bind_some]
        rfl
    · have x2 : (decide ((g : Int) > 1099511627776)) = true := decide_eq_true (by omega)
      have b' : decide (g ≤ 1099511627776) = false := decide_eq_false b
      simp [x2, b', gx]
  · have x1 : (decide ((g : Int) < 1)) = true := decide_eq_true (by omega)
    have a' : decide (1 ≤ g) = false := decide_eq_false a
    simp [x1, a', gx]
end Go.Proofs.Ytjhelpeglgigbaa.V.M
end

section
/- Ledger: the reference's half; entries, by both texts. -/
namespace Go.Proofs.Ytjhelpeglgigbaa.V.M
set_option linter.unusedVariables false
set_option linter.unusedSimpArgs false
open Go Go.RowKit
theorem rAt_ok (d : api_Disk) (h : OkD d) (half : Nat) (hh : half ≤ 1) : f_ref10_At d (half : Int) = some ((half * hf d : Nat) : Int) := by
  have hl := hf_le h
  have hm : half * hf d ≤ hf d := by rcases Nat.le_one_iff_eq_zero_or_eq_one.mp hh with rfl | rfl <;> omega
  unfold f_ref10_At
  rw [half_mul h, ← Int.natCast_mul, w_nat (by omega)]
theorem rroom7 (d : api_Disk) (h : OkD d) (half : Nat) (hh : half ≤ 1) (k : Nat) : ∀ (i m : Nat), 1 ≤ i → i + k = hf d → k < m →
    ∃ z, f_ref10_Room_l7 d (half : Int) m (((d.Sectors.drop (half * hf d + 1)).take (i - 1)).flatten) (i : Int) = some (roomS d half, z) := by
  have hl := hf_le h
  have hhi := h.hi
  have hm : half * hf d ≤ hf d := by rcases Nat.le_one_iff_eq_zero_or_eq_one.mp hh with rfl | rfl <;> omega
  induction k with
  | zero =>
    intro i m h1 hi hm
    obtain ⟨m, rfl⟩ : ∃ k, m = k + 1 := ⟨m - 1, by omega⟩
    rw [f_ref10_Room_l7, half_mul h, if_neg (by simp; omega), show i = hf d by omega]
    exact ⟨_, rfl⟩
  | succ k ih =>
    intro i m h1 hi hmm
    obtain ⟨m, rfl⟩ : ∃ k, m = k + 1 := ⟨m - 1, by omega⟩
    have e1 : IntKind.i64.wrap ((half : Int) * (hf d : Int)) = ((half * hf d : Nat) : Int) := by rw [← Int.natCast_mul, w_nat (by omega)]
    have e2 : IntKind.i64.wrap (((half * hf d : Nat) : Int) + (i : Int)) = ((half * hf d + i : Nat) : Int) := by rw [← Int.natCast_add, w_nat (by omega)]
    have ex : (d.Sectors.drop (half * hf d + 1))[i - 1]? = some (d.Sectors[half * hf d + i]'(by omega)) := by
      rw [List.getElem?_drop, show half * hf d + 1 + (i - 1) = half * hf d + i by omega, List.getElem?_eq_getElem (by omega)]
    have et : ((d.Sectors.drop (half * hf d + 1)).take (i - 1 + 1)).flatten = ((d.Sectors.drop (half * hf d + 1)).take (i - 1)).flatten ++ d.Sectors[half * hf d + i]'(by omega) := by
      rw [List.take_add_one, ex, List.flatten_append]; simp
    have l1 : ((d.Sectors.drop (half * hf d + 1)).take (i - 1)).flatten.length ≤ 128 * 64 := by
      rw [flat128 _ (fun s hs => h.sect s (List.mem_of_mem_drop (List.mem_of_mem_take hs))), List.length_take]; omega
    have l2 := h.sect _ (List.getElem_mem (show half * hf d + i < d.Sectors.length by omega))
    rw [f_ref10_Room_l7, half_mul h, if_pos (by simp; omega), e1, e2, ix_nat, List.getElem?_eq_getElem (by omega), Option.bind_some, gd_t _ (by omega), w_s (by omega), ← et, show i - 1 + 1 = i + 1 - 1 by omega]
    exact ih (i + 1) m (by omega) (by omega) (by omega)
theorem rroom_ok (d : api_Disk) (h : OkD d) (half : Nat) (hh : half ≤ 1) : f_ref10_Room d (half : Int) = some (roomS d half) := by
  have hl := hf_le h
  unfold f_ref10_Room
  rw [half_mul h]
  obtain ⟨z, q⟩ := rroom7 d h half hh (hf d - 1) 1 ((((hf d : Nat) : Int) - 1).toNat + 1) (by omega) (by omega) (by omega)
  rw [Nat.sub_self, List.take_zero, show ((1 : Nat) : Int) = 1 from rfl] at q
  rw [show ([] : List Str).flatten = ([] : Str) from rfl] at q
  rw [q]; rfl
theorem rUsed_ok (d : api_Disk) (h : OkD d) (half : Nat) (hh : half ≤ 1) : f_ref10_Used d (half : Int) = some ((usedN (secS d half) : Nat) : Int) := by
  obtain ⟨e1, e2⟩ := sec_ix h hh
  unfold f_ref10_Used
  rw [rAt_ok d h half hh, Option.bind_some, e1, Option.bind_some]
  generalize secS d half = s at e2
  have c2 : cut s 9 12 = (s.drop 9).take 3 := cut_mid s 9 3
  have u1 := usedN_lt s
  rw [gd_t _ (by omega), c2, rwhole_ok _ (by rw [List.length_take]; omega), Option.bind_some, show wholeN ((s.drop 9).take 3) = usedN s from rfl, w_nat (by omega)]
theorem rGen_ok (d : api_Disk) (h : OkD d) (half : Nat) (hh : half ≤ 1) : f_ref10_Gen d (half : Int) = some (((tellsS d half).1 : Nat) : Int) := by
  obtain ⟨e1, e2⟩ := sec_ix h hh
  have hl := hf_le h
  have hr := roomS_len h hh
  unfold f_ref10_Gen tellsS toldB
  rw [rAt_ok d h half hh, Option.bind_some, e1, Option.bind_some]
  generalize secS d half = s at e2
  have c1 : cut s 3 9 = (s.drop 3).take 6 := cut_mid s 3 6
  have c2 : cut s 9 12 = (s.drop 9).take 3 := cut_mid s 9 3
  have g1 := genN_lt s
  have u1 := usedN_lt s
  rw [gd_t _ (by omega), c1, rwhole_ok _ (by rw [List.length_take]; omega), Option.bind_some, gd_t _ (by omega), c2, rwhole_ok _ (by rw [List.length_take]; omega), Option.bind_some]
  rw [show wholeN ((s.drop 3).take 6) = genN s from rfl, show wholeN ((s.drop 9).take 3) = usedN s from rfl]
  rw [w_nat (n := genN s) (by omega), w_nat (n := usedN s) (by omega), rhead_ok _ _ g1 u1, rroom_ok d h half hh]
  generalize genN s = g at g1
  generalize usedN s = u at u1
  by_cases a : 1 ≤ g
  · by_cases b : g ≤ 1099511627776
    · have x1 : (decide ((g : Int) < 1)) = false := decide_eq_false (by omega)
      have x2 : (decide ((g : Int) > 1099511627776)) = false := decide_eq_false (by omega)
      simp only [x1, x2, a, b, decide_true, Bool.or_self, Bool.false_or, Bool.true_and, Bool.not_false, gx, if_true, Option.bind_some, hr]
      rw [w_u64n (by omega)]
      generalize 128 * (hf d - 1) = r
      by_cases c : u ≤ r
      · have x3 : (decide ((u : Int) > (r : Int))) = false := decide_eq_false (by omega)
        simp only [x3, c, decide_true, Bool.not_false, Bool.false_or, Bool.true_and, if_true, Option.bind_some]
        by_cases e : headS g u = s
        · rw [e]; simp
        · have : (headS g u == s) = false := by simpa using e
          simp [this]
      · have x3 : (decide ((u : Int) > (r : Int))) = true := decide_eq_true (by omega)
        have c' : decide (u ≤ r) = false := decide_eq_false c
        simp only [x3, c', Bool.not_true, Bool.true_or, Bool.false_and, Bool.false_eq_true, if_false, if_true, Option.bind_some]; rfl
    · have x1 : (decide ((g : Int) < 1)) = false := decide_eq_false (by omega)
      have x2 : (decide ((g : Int) > 1099511627776)) = true := decide_eq_true (by omega)
      have b' : decide (g ≤ 1099511627776) = false := decide_eq_false b
      simp only [x1, x2, b', Bool.or_true, Bool.true_or, Bool.not_true, Bool.and_false, Bool.false_and, gx, Bool.false_eq_true, if_false, if_true, Option.bind_some]; rfl
  · have x1 : (decide ((g : Int) < 1)) = true := decide_eq_true (by omega)
    have a' : decide (1 ≤ g) = false := decide_eq_false a
    simp only [x1, a', Bool.true_or, Bool.not_true, Bool.false_and, gx, Bool.false_eq_true, if_false, if_true, Option.bind_some]; rfl
/-- Entries of bytes. -/
def entG : Nat → Str → List Str → Option (List Str)
  | 0, _, _ => none
  | m + 1, s, out =>
    if s = [] then some out
    else if s.length < 2 then none
    else if 4096 < wholeN (s.take 2) ∨ (s.drop 2).length < wholeN (s.take 2) then none
    else entG m ((s.drop 2).drop (wholeN (s.take 2))) (out ++ [(s.drop 2).take (wholeN (s.take 2))])
def entS (s : Str) : Option (List Str) := entG (s.length + 1) s []
def entR (o : Option (List Str)) : List Str × Bool := match o with | some l => (l, true) | none => ([], false)
def entX (o : Option (List Str)) : (Str × (List Str)) ⊕ ((List Str) × Bool) := match o with | some l => .inl ([], l) | none => .inr ([], false)
theorem ent10 (s0 : Str) (m : Nat) : ∀ (s : Str) (out : List Str), s.length ≤ 1000000 → s.length < m → out.length + s.length ≤ 2000000 → f_ledger_entries_l10 s0 m s out = some (entX (entG m s out)) := by
  induction m with
  | zero => intro s out _ h _; omega
  | succ m ih =>
    intro s out hs hm ho
    rw [f_ledger_entries_l10]
    by_cases c : s = []
    · subst c; rw [if_neg (by decide), entG, if_pos rfl]; rfl
    · rw [if_pos (by simp [c])]
      by_cases c1 : s.length < 2
      · rw [if_pos (by simp; omega), entG, if_neg c, if_pos c1]; rfl
      · rw [if_neg (by simp; omega), gd_t _ (by omega), show cut s 0 2 = s.take 2 from cut_zero s 2, whole_ok _ (by rw [List.length_take]; omega), Option.bind_some, gd_t _ (by omega), show cut s 2 (s.length : Int) = s.drop 2 from cut_all s 2]
        have hw := wholeN_lt (s.take 2)
        have l2 : (s.take 2).length = 2 := by rw [List.length_take]; omega
        rw [l2] at hw
        have ld : (s.drop 2).length = s.length - 2 := List.length_drop
        rw [w_u64n (n := (s.drop 2).length) (by omega)]
        by_cases c2 : 4096 < wholeN (s.take 2) ∨ (s.drop 2).length < wholeN (s.take 2)
        · rw [if_pos (by simp; omega), entG, if_neg c, if_neg c1, if_pos c2]; rfl
        · rw [if_neg (by simp; omega), gd_t _ (by dsimp only; omega), gd_t _ (by omega), gd_t _ (by dsimp only; omega), cut_all, cut_zero, entG, if_neg c, if_neg c1, if_neg c2]
          exact ih _ _ (by simp only [List.length_drop]; omega) (by simp only [List.length_drop]; omega) (by simp only [List.length_drop, List.length_append, List.length_singleton]; omega)
theorem entries_ok (s : Str) (hs : s.length ≤ 1000000) : f_ledger_entries s = some (entR (entS s)) := by
  unfold f_ledger_entries entS
  rw [ent10 s (s.length + 1) s [] hs (by omega) (by simp; omega), Option.bind_some]
  cases entG (s.length + 1) s [] <;> rfl
end Go.Proofs.Ytjhelpeglgigbaa.V.M
end

section
/- Ledger: what a disk has, by both texts. -/
namespace Go.Proofs.Ytjhelpeglgigbaa.V.M
set_option linter.unusedVariables false
set_option linter.unusedSimpArgs false
open Go Go.RowKit
def okX (s : Str) (o : Option (List Str)) (r : (Int × (List Str)) ⊕ ((List Str) × Bool)) : Prop := match o with | some l => r = .inl ((s.length : Int), l) | none => r = .inr ([], false)
theorem rent11 (s : Str) (hs : s.length ≤ 1000000) (m : Nat) : ∀ (a M : Nat) (out : List Str), a ≤ s.length → s.length - a < m → s.length - a < M → out.length + (s.length - a) ≤ 2000000 → ∃ r, f_ref10_Entries_l11 s m (a : Int) out = some r ∧ okX s (entG M (s.drop a) out) r := by
  induction m with
  | zero => intro a M out _ h _; omega
  | succ m ih =>
    intro a M out ha hm hM ho
    obtain ⟨M, rfl⟩ : ∃ k, M = k + 1 := ⟨M - 1, by omega⟩
    have ld : (s.drop a).length = s.length - a := List.length_drop
    rw [f_ref10_Entries_l11, entG]
    by_cases c : a = s.length
    · rw [if_neg (by simp; omega), if_pos (List.drop_eq_nil_of_le (by omega))]
      exact ⟨_, rfl, by rw [c]; rfl⟩
    · have hne : s.drop a ≠ [] := by intro h; rw [h] at ld; simp at ld; omega
      rw [if_pos (by simp; omega), if_neg hne, w_i64 (n := (s.length : Int) - (a : Int)) (by omega) (by omega)]
      by_cases c1 : (s.drop a).length < 2
      · rw [if_pos (by simp; omega), if_pos c1]; exact ⟨_, rfl, rfl⟩
      · have e2 : IntKind.i64.wrap ((a : Int) + 2) = ((a + 2 : Nat) : Int) := by rw [w_i64 (by omega) (by omega)]; omega
        have hw := wholeN_lt ((s.drop a).take 2)
        have l2 : ((s.drop a).take 2).length = 2 := by rw [List.length_take]; omega
        rw [l2] at hw
        have ld2 : ((s.drop a).drop 2).length = s.length - a - 2 := by rw [List.length_drop, ld]
        rw [if_neg (by simp; omega), if_neg c1, e2, gd_t _ (by omega), show cut s (a : Int) ((a + 2 : Nat) : Int) = (s.drop a).take 2 from cut_mid s a 2, rwhole_ok _ (by omega), Option.bind_some, w_nat (n := wholeN ((s.drop a).take 2)) (by omega), w_i64 (n := (s.length : Int) - (a : Int) - 2) (by omega) (by omega)]
        have hd : ((s.drop a).drop 2).drop (wholeN ((s.drop a).take 2)) = s.drop (a + 2 + wholeN ((s.drop a).take 2)) := by rw [List.drop_drop, List.drop_drop, Nat.add_assoc]
        have hdt : ((s.drop a).drop 2).take (wholeN ((s.drop a).take 2)) = (s.drop (a + 2)).take (wholeN ((s.drop a).take 2)) := by rw [List.drop_drop]
        rw [hd, hdt]
        generalize wholeN ((s.drop a).take 2) = v at hw ⊢
        by_cases c2 : 4096 < v ∨ ((s.drop a).drop 2).length < v
        · rw [if_pos (by simp; omega), if_pos c2]; exact ⟨_, rfl, rfl⟩
        · have e3 : IntKind.i64.wrap (((a + 2 : Nat) : Int) + (v : Int)) = ((a + 2 + v : Nat) : Int) := by rw [← Int.natCast_add, w_nat (by omega)]
          rw [if_neg (by simp; omega), if_neg c2, e3, gd_t _ (by omega), gd_t _ (by omega), show cut s ((a + 2 : Nat) : Int) ((a + 2 + v : Nat) : Int) = (s.drop (a + 2)).take v from cut_mid s (a + 2) v]
          exact ih (a + 2 + v) M _ (by omega) (by omega) (by omega) (by simp; omega)
theorem rentries_ok (s : Str) (hs : s.length ≤ 1000000) : f_ref10_Entries s = some (entR (entS s)) := by
  unfold f_ref10_Entries entS
  obtain ⟨r, e, q⟩ := rent11 s hs ((((s.length : Int) : Int) - 0).toNat + 1) 0 (s.length + 1) [] (by omega) (by omega) (by omega) (by simp; omega)
  rw [show ((0 : Nat) : Int) = 0 from rfl] at e
  rw [List.drop_zero] at q
  rw [e, Option.bind_some]
  cases h : entG (s.length + 1) s [] with
  | none => rw [h] at q; obtain rfl := (show r = .inr ([], false) from q); rfl
  | some l => rw [h] at q; obtain rfl := (show r = .inl ((s.length : Int), l) from q); rfl
abbrev zeroL : api_Ledger := api_Ledger.mk (api_Disk.mk ([] : (List Str)) ([] : (List api_Write))) 0 0 0 ([] : (List Str))
/-- The half that is told: its number, its generation, its bytes. -/
def pickS (d : api_Disk) : Nat × Nat × Nat := if (tellsS d 0).1 < (tellsS d 1).1 then (1, tellsS d 1) else (0, tellsS d 0)
def openS (d : api_Disk) : api_Ledger × Int :=
  if (!okB d) || (decide ((d.Dirty.length : Int) > 0)) then (zeroL, 1)
  else match entS ((roomS d (pickS d).1).take (pickS d).2.2) with
    | none => (zeroL, 14)
    | some l => if (pickS d).2.1 = 0 then (zeroL, 14) else (api_Ledger.mk d (pickS d).1 (pickS d).2.1 (pickS d).2.2 l, 0)
theorem tells_le (d : api_Disk) (half : Nat) : (tellsS d half).2 ≤ 128 * (hf d - 1) ∧ (tellsS d half).1 ≤ 1099511627776 ∧ ((tellsS d half).1 ≠ 0 → (tellsS d half).2 = usedN (secS d half)) ∧ ((tellsS d half).1 = 0 → (tellsS d half).2 = 0) := by
  unfold tellsS
  by_cases c : toldB d half = true
  · rw [if_pos c]
    unfold toldB at c
    simp only [Bool.and_eq_true, decide_eq_true_eq] at c
    exact ⟨c.1.2, c.1.1.2, fun _ => rfl, fun h => by have := c.1.1.1; dsimp only at h; omega⟩
  · rw [if_neg c]; exact ⟨Nat.zero_le _, Nat.zero_le _, fun h => absurd rfl h, fun _ => rfl⟩
theorem pick_le (d : api_Disk) : (pickS d).1 ≤ 1 ∧ (pickS d).2.2 ≤ 128 * (hf d - 1) := by
  unfold pickS
  split
  · exact ⟨Nat.le_refl _, (tells_le d 1).1⟩
  · exact ⟨Nat.zero_le _, (tells_le d 0).1⟩
theorem open_ok (d : api_Disk) (h1 : d.Sectors.length < 4611686018427387904) (h2 : d.Dirty.length < 4611686018427387904) : f_ledger_Open d = some (openS d) := by
  unfold f_ledger_Open openS
  rw [right_ok d h1 h2, Option.bind_some]
  by_cases c : ((!okB d) || (decide ((d.Dirty.length : Int) > 0))) = true
  · rw [if_pos c, if_pos c]
  · rw [if_neg c, if_neg c]
    have hok : OkD d := okB_ok (by cases h : okB d <;> simp [h] at c ⊢)
    have hl := hf_le hok
    have hp := pick_le d
    have hr := roomS_len hok hp.1
    have e0 : f_ledger_tells d 0 = some (((tellsS d 0).1 : Int), ((tellsS d 0).2 : Int)) := tells_ok d hok 0 (by decide)
    have e1 : f_ledger_tells d 1 = some (((tellsS d 1).1 : Int), ((tellsS d 1).2 : Int)) := tells_ok d hok 1 (by decide)
    have z0 := (tells_le d 0).2.2.2
    have el : f_ledger_Open_l11 d (((2 : Int) - 0).toNat + 1) 0 0 0 0 = some (2, ((pickS d).1 : Int), ((pickS d).2.1 : Int), ((pickS d).2.2 : Int)) := by
      show f_ledger_Open_l11 d 3 0 0 0 0 = _
      rw [f_ledger_Open_l11, if_pos (by decide), e0, Option.bind_some]
      dsimp only
      have w1 : IntKind.i64.wrap ((0 : Int) + 1) = 1 := by decide
      have w2 : IntKind.i64.wrap ((1 : Int) + 1) = 2 := by decide
      unfold pickS
      by_cases a : (tellsS d 0).1 = 0
      · rw [if_neg (by simp; omega), w1, f_ledger_Open_l11, if_pos (by decide), e1, Option.bind_some]
        dsimp only
        by_cases b : (tellsS d 0).1 < (tellsS d 1).1
        · rw [if_pos (by simp; omega), w2, f_ledger_Open_l11, if_neg (by decide), if_pos b]; rfl
        · rw [if_neg (by simp; omega), w2, f_ledger_Open_l11, if_neg (by decide), if_neg b, a, z0 a]; rfl
      · rw [if_pos (by simp; omega), w1, f_ledger_Open_l11, if_pos (by decide), e1, Option.bind_some]
        dsimp only
        by_cases b : (tellsS d 0).1 < (tellsS d 1).1
        · rw [if_pos (by simp; omega), w2, f_ledger_Open_l11, if_neg (by decide), if_pos b]; rfl
        · rw [if_neg (by simp; omega), w2, f_ledger_Open_l11, if_neg (by decide), if_neg b]; rfl
    rw [el, Option.bind_some]
    dsimp only
    rw [room_ok d hok _ hp.1, Option.bind_some]
    dsimp only
    rw [gd_t _ (by omega), cut_zero, entries_ok _ (by rw [List.length_take]; omega), Option.bind_some]
    cases entS ((roomS d (pickS d).1).take (pickS d).2.2) with
    | none => simp [entR]
    | some l =>
      by_cases a : (pickS d).2.1 = 0
      · simp [entR, a]
      · simp [entR, a]
theorem ropen_ok (d : api_Disk) (h1 : d.Sectors.length < 4611686018427387904) (h2 : d.Dirty.length < 4611686018427387904) : f_ref10_Open d = some (openS d) := by
  unfold f_ref10_Open openS
  rw [rright_ok d h1 h2, Option.bind_some]
  by_cases c : ((!okB d) || (decide ((d.Dirty.length : Int) > 0))) = true
  · rw [if_pos c, if_pos c]
  · rw [if_neg c, if_neg c]
    have hok : OkD d := okB_ok (by cases h : okB d <;> simp [h] at c ⊢)
    have hl := hf_le hok
    have e0 : f_ref10_Gen d 0 = some ((tellsS d 0).1 : Int) := rGen_ok d hok 0 (by decide)
    have e1 : f_ref10_Gen d 1 = some ((tellsS d 1).1 : Int) := rGen_ok d hok 1 (by decide)
    rw [e0, Option.bind_some, e1, Option.bind_some]
    by_cases a : (tellsS d 0).1 = 0 ∧ (tellsS d 1).1 = 0
    · rw [if_pos (by simp [a.1, a.2])]
      have hp : (pickS d).2.1 = 0 := by unfold pickS; rw [if_neg (by omega)]; exact a.1
      rw [hp]
      cases entS ((roomS d (pickS d).1).take (pickS d).2.2) <;> simp
    · have key : ∀ half : Nat, half ≤ 1 → pickS d = (half, tellsS d half) → (tellsS d half).1 ≠ 0 →
          ((f_ref10_Used d (half : Int)).bind fun t4 => (f_ref10_Room d (half : Int)).bind fun t5 => gd (0 ≤ t4 ∧ t4 ≤ (t5.length : Int)) <| (f_ref10_Entries (cut t5 0 t4)).bind fun t6 =>
            if (!t6.2) then some ((api_Ledger.mk (api_Disk.mk ([] : (List Str)) ([] : (List api_Write))) 0 0 0 ([] : (List Str))), (14 : Int)) else some ((api_Ledger.mk d (half : Int) ((tellsS d half).1 : Int) t4 t6.1), (0 : Int))) =
          some (match entS ((roomS d (pickS d).1).take (pickS d).2.2) with | none => (zeroL, (14 : Int)) | some l => if (pickS d).2.1 = 0 then (zeroL, 14) else (api_Ledger.mk d (pickS d).1 (pickS d).2.1 (pickS d).2.2 l, 0)) := by
        intro half hh hp hg
        have ht := tells_le d half
        have hr := roomS_len hok hh
        rw [hp, rUsed_ok d hok half hh, Option.bind_some, rroom_ok d hok half hh, Option.bind_some, ← ht.2.2.1 hg, gd_t _ (by omega), cut_zero, rentries_ok _ (by rw [List.length_take]; omega), Option.bind_some]
        dsimp only
        cases entS ((roomS d half).take (tellsS d half).2) with
        | none => simp [entR]
        | some l => simp [entR, hg]
      rw [if_neg (by simp; omega)]
      by_cases b : (tellsS d 0).1 < (tellsS d 1).1
      · rw [if_pos (by simp; omega), Option.bind_some]
        have q := key 1 (by decide) (by unfold pickS; rw [if_pos b]) (by omega)
        rw [show ((1 : Nat) : Int) = 1 from rfl] at q
        exact q
      · rw [if_neg (by simp; omega), Option.bind_some]
        have q := key 0 (by decide) (by unfold pickS; rw [if_neg b]) (by omega)
        rw [show ((0 : Nat) : Int) = 0 from rfl] at q
        exact q
end Go.Proofs.Ytjhelpeglgigbaa.V.M
end

section
/- Ledger: the law LedgerOpens. -/
namespace Go.Proofs.Ytjhelpeglgigbaa.V.M
set_option linter.unusedVariables false
set_option linter.unusedSimpArgs false
open Go Go.RowKit
theorem equal9_ok (a b : List Str) (hl : a.length = b.length) (hb : a.length < 9000000000000000000) (k : Nat) : ∀ (i m : Nat), i + k = a.length → k < m →
    f_slices_Equal_string_string_l9 a b m (i : Int) = some (if a.drop i = b.drop i then .inl (a.length : Int) else .inr false) := by
  induction k with
  | zero =>
    intro i m hi hm
    obtain ⟨m, rfl⟩ : ∃ k, m = k + 1 := ⟨m - 1, by omega⟩
    rw [f_slices_Equal_string_string_l9, if_neg (by simp; omega), List.drop_eq_nil_of_le (by omega), List.drop_eq_nil_of_le (by omega), if_pos rfl, show i = a.length by omega]
  | succ k ih =>
    intro i m hi hm
    obtain ⟨m, rfl⟩ : ∃ k, m = k + 1 := ⟨m - 1, by omega⟩
    rw [f_slices_Equal_string_string_l9, if_pos (by simp; omega), ix_nat, List.getElem?_eq_getElem (by omega), Option.bind_some, ix_nat, List.getElem?_eq_getElem (by omega), Option.bind_some, List.drop_eq_getElem_cons (show i < a.length by omega), List.drop_eq_getElem_cons (show i < b.length by omega)]
    by_cases c : a[i]'(by omega) = b[i]'(by omega)
    · rw [if_neg (by simp [c]), w_i64 (by omega) (by omega), show ((i : Int) + 1) = ((i + 1 : Nat) : Int) by omega, ih (i + 1) m (by omega) (by omega), c]
      congr 1
      by_cases d : a.drop (i + 1) = b.drop (i + 1)
      · rw [if_pos d, if_pos (by rw [d])]
      · rw [if_neg d, if_neg (fun h => d (List.cons.inj h).2)]
    · rw [if_pos (by simp [c]), if_neg (fun h => c (List.cons.inj h).1)]
theorem equal_ok (a b : List Str) (hb : a.length < 9000000000000000000) : f_slices_Equal_string_string a b = some (decide (a = b)) := by
  unfold f_slices_Equal_string_string
  by_cases c : a.length = b.length
  · have q := equal9_ok a b c hb a.length 0 ((((a.length : Int) : Int) - 0).toNat + 1) (by omega) (by omega)
    rw [show ((0 : Nat) : Int) = 0 from rfl, List.drop_zero, List.drop_zero] at q
    rw [if_neg (by simp; omega), q, Option.bind_some]
    by_cases e : a = b
    · rw [if_pos e]; simp [e]
    · rw [if_neg e]; simp [e]
  · rw [if_pos (by simp; omega)]
    have : ¬ a = b := fun h => c (by rw [h])
    simp [this]
theorem like9 (d : api_Disk) (hb : d.Sectors.length < 9000000000000000000) (k : Nat) : ∀ (i m : Nat), i + k = d.Sectors.length → k < m → f_ref09_Like_l9 d d m (i : Int) = some (.inl (d.Sectors.length : Int)) := by
  induction k with
  | zero =>
    intro i m hi hm
    obtain ⟨m, rfl⟩ : ∃ k, m = k + 1 := ⟨m - 1, by omega⟩
    rw [f_ref09_Like_l9, if_neg (by simp; omega), show i = d.Sectors.length by omega]
  | succ k ih =>
    intro i m hi hm
    obtain ⟨m, rfl⟩ : ∃ k, m = k + 1 := ⟨m - 1, by omega⟩
    rw [f_ref09_Like_l9, if_pos (by simp; omega), ix_nat, List.getElem?_eq_getElem (by omega), Option.bind_some, Option.bind_some, if_neg (by simp), w_i64 (by omega) (by omega), show ((i : Int) + 1) = ((i + 1 : Nat) : Int) by omega]
    exact ih (i + 1) m (by omega) (by omega)
theorem like16 (d : api_Disk) (hb : d.Dirty.length < 9000000000000000000) (k : Nat) : ∀ (i m : Nat), i + k = d.Dirty.length → k < m → f_ref09_Like_l16 d d m (i : Int) = some (.inl (d.Dirty.length : Int)) := by
  induction k with
  | zero =>
    intro i m hi hm
    obtain ⟨m, rfl⟩ : ∃ k, m = k + 1 := ⟨m - 1, by omega⟩
    rw [f_ref09_Like_l16, if_neg (by simp; omega), show i = d.Dirty.length by omega]
  | succ k ih =>
    intro i m hi hm
    obtain ⟨m, rfl⟩ : ∃ k, m = k + 1 := ⟨m - 1, by omega⟩
    rw [f_ref09_Like_l16, if_pos (by simp; omega), ix_nat, List.getElem?_eq_getElem (by omega), Option.bind_some, Option.bind_some, if_neg (by simp), w_i64 (by omega) (by omega), show ((i : Int) + 1) = ((i + 1 : Nat) : Int) by omega]
    exact ih (i + 1) m (by omega) (by omega)
theorem like_self (d : api_Disk) (h1 : d.Sectors.length < 9000000000000000000) (h2 : d.Dirty.length < 9000000000000000000) : f_ref09_Like d d = some true := by
  unfold f_ref09_Like
  have q := like9 d h1 d.Sectors.length 0 ((((d.Sectors.length : Int) : Int) - 0).toNat + 1) (by omega) (by omega)
  have q2 := like16 d h2 d.Dirty.length 0 ((((d.Dirty.length : Int) : Int) - 0).toNat + 1) (by omega) (by omega)
  rw [show ((0 : Nat) : Int) = 0 from rfl] at q q2
  rw [if_neg (by simp), q, Option.bind_some]
  dsimp only
  rw [q2]; rfl
def fmtB (n : Int) : Bool := match f_ledger_Format n with
  | some t4 => t4.2 == 0 && t4.1.Gen == 1 && t4.1.Used == 0 && (t4.1.Entries.length : Int) == 0 && (match ix t4.1.Disk.Sectors 0, f_ref10_Head 1 0 with | some x, some y => x == y | _, _ => false) && (match f_ledger_Right t4.1 with | some b => b | none => false)
  | none => false
theorem fmt_all : ((List.range 61).all fun k => fmtB (4 + (k : Int))) = true := by kernel_rfl
theorem alive10 : f_law10_alive = some true := by kernel_rfl
end Go.Proofs.Ytjhelpeglgigbaa.V.M
end

section
/- Ledger: the law LedgerOpens. -/
namespace Go.Proofs.Ytjhelpeglgigbaa.V.M
set_option linter.unusedVariables false
set_option linter.unusedSimpArgs false
open Go Go.RowKit
theorem entG_len : ∀ (m : Nat) (s : Str) (out l : List Str), entG m s out = some l → l.length ≤ out.length + s.length := by
  intro m
  induction m with
  | zero => intro s out l h; cases h
  | succ m ih =>
    intro s out l h
    rw [entG] at h
    split at h
    · cases h; omega
    · split at h
      · cases h
      · split at h
        · cases h
        · have := ih _ _ _ h
          simp only [List.length_append, List.length_singleton, List.length_drop] at this
          omega
theorem openS_cases (d : api_Disk) : (openS d).2 = 0 ∧ (openS d).1.Disk = d ∧ (openS d).1.Entries.length ≤ 10000 ∨ (openS d).2 ≠ 0 ∧ (openS d).1 = zeroL := by
  unfold openS
  by_cases c : ((!okB d) || (decide ((d.Dirty.length : Int) > 0))) = true
  · rw [if_pos c]; exact .inr ⟨(by decide : (1 : Int) ≠ 0), rfl⟩
  · rw [if_neg c]
    have hok : OkD d := okB_ok (by cases h : okB d <;> simp [h] at c ⊢)
    have hl := hf_le hok
    have hr := roomS_len hok (pick_le d).1
    cases e : entS ((roomS d (pickS d).1).take (pickS d).2.2) with
    | none => exact .inr ⟨(by decide : (14 : Int) ≠ 0), rfl⟩
    | some l =>
      dsimp only
      by_cases a : (pickS d).2.1 = 0
      · rw [if_pos a]; exact .inr ⟨(by decide : (14 : Int) ≠ 0), rfl⟩
      · rw [if_neg a]
        have := entG_len _ _ _ _ e
        rw [List.length_take, List.length_nil] at this
        exact .inl ⟨rfl, rfl, by dsimp only; omega⟩
def rrB (o : api_Ledger × Int) (l : api_Ledger) : Bool := ((((o.2 == 0) && (o.1.Half == l.Half)) && (o.1.Gen == l.Gen)) && (o.1.Used == l.Used)) && decide (o.1.Entries = l.Entries)
theorem ent_le (d : api_Disk) : (openS d).1.Entries.length < 9000000000000000000 := by
  rcases openS_cases d with ⟨_, _, h⟩ | ⟨_, h⟩
  · omega
  · rw [h]; exact (by decide : ([] : List Str).length < 9000000000000000000)
theorem lright_ok (l : api_Ledger) (h1 : l.Disk.Sectors.length < 4611686018427387904) (h2 : l.Disk.Dirty.length < 4611686018427387904) : f_ledger_Right l = some (rrB (openS l.Disk) l) := by
  unfold f_ledger_Right rrB
  rw [open_ok _ h1 h2, Option.bind_some, equal_ok _ _ (ent_le _)]
  generalize (((((openS l.Disk).2 == 0) && ((openS l.Disk).1.Half == l.Half)) && ((openS l.Disk).1.Gen == l.Gen)) && ((openS l.Disk).1.Used == l.Used)) = a
  cases a <;> simp [gx]
theorem llike_ok (a b : api_Ledger) (hd : a.Disk = b.Disk) (h1 : a.Disk.Sectors.length < 4611686018427387904) (h2 : a.Disk.Dirty.length < 4611686018427387904) (h3 : a.Entries.length < 9000000000000000000) :
    f_ref10_Like a b = some ((((a.Half == b.Half) && (a.Gen == b.Gen)) && (a.Used == b.Used)) && decide (a.Entries = b.Entries)) := by
  unfold f_ref10_Like
  rw [← hd, like_self _ (by omega) (by omega), Option.bind_some, same_ok _ _ h3, Bool.true_and]
  generalize (((a.Half == b.Half) && (a.Gen == b.Gen)) && (a.Used == b.Used)) = x
  cases x <;> simp [gx]
theorem few10_ok (d : api_Disk) : f_law10_few d = some (api_Disk.mk (d.Sectors.take 66) (d.Dirty.take 3)) := by
  unfold f_law10_few
  rw [gd_t _ (cut_gdI d.Sectors 66 (by decide)), gd_t _ (cut_gdI d.Dirty 3 (by decide)), show cut d.Sectors 0 (if 66 < (d.Sectors.length : Int) then 66 else (d.Sectors.length : Int)) = d.Sectors.take 66 from cut_take d.Sectors 66, show cut d.Dirty 0 (if 3 < (d.Dirty.length : Int) then 3 else (d.Dirty.length : Int)) = d.Dirty.take 3 from cut_take d.Dirty 3]
theorem ledgerOpens_true (d : api_Disk) (sectors : Int) (odd : api_Ledger) : f_law10_LedgerOpens d sectors odd = some true := by
  unfold f_law10_LedgerOpens
  rw [few10_ok, Option.bind_some]
  have t1 : (d.Sectors.take 66).length ≤ 66 := by rw [List.length_take]; omega
  have t2 : (d.Dirty.take 3).length ≤ 3 := by rw [List.length_take]; omega
  obtain ⟨T, hT⟩ : ∃ T, T = api_Disk.mk (d.Sectors.take 66) (d.Dirty.take 3) := ⟨_, rfl⟩
  rw [← hT]
  have hT1 : T.Sectors.length ≤ 66 := by rw [hT]; exact t1
  have hT2 : T.Dirty.length ≤ 3 := by rw [hT]; exact t2
  clear hT t1 t2
  rw [open_ok T (by omega) (by omega), Option.bind_some, ropen_ok T (by omega) (by omega), Option.bind_some]
  have e8 : ((odd.Entries.take 8).length) ≤ 8 := by rw [List.length_take]; omega
  rw [show cut odd.Entries 0 (if 8 < (odd.Entries.length : Int) then 8 else (odd.Entries.length : Int)) = odd.Entries.take 8 from cut_take odd.Entries 8]
  obtain ⟨O, hO⟩ : ∃ O, O = api_Ledger.mk T odd.Half odd.Gen odd.Used (odd.Entries.take 8) := ⟨_, rfl⟩
  rw [← hO]
  have hOd : O.Disk = T := by rw [hO]
  have hOe : O.Entries.length ≤ 8 := by rw [hO]; exact e8
  clear hO e8
  -- the empty ledger
  have hF : ∃ F : api_Ledger × Int, f_ledger_Format sectors = some F ∧ ∀ k : Unit → Option Bool, (Option.bind (
      if ((decide (sectors < 4)) || (decide (sectors > 64))) then
        if (F.2 != 1) then
          some (.inr false)
        else
          some (.inl ())
      else
        (gx (!((((F.2 != 0) || (F.1.Gen != 1)) || (F.1.Used != 0)) || ((F.1.Entries.length : Int) != 0))) (ix F.1.Disk.Sectors 0) default).bind fun x =>
        (gx (!((((F.2 != 0) || (F.1.Gen != 1)) || (F.1.Used != 0)) || ((F.1.Entries.length : Int) != 0))) (f_ref10_Head 1 0) default).bind fun t7 =>
        (gx (!(((((F.2 != 0) || (F.1.Gen != 1)) || (F.1.Used != 0)) || ((F.1.Entries.length : Int) != 0)) || (!(x == t7)))) (f_ledger_Right F.1) default).bind fun t8 =>
        if ((((((F.2 != 0) || (F.1.Gen != 1)) || (F.1.Used != 0)) || ((F.1.Entries.length : Int) != 0)) || (!(x == t7))) || (!t8)) then
          some (.inr false)
        else
          some (.inl ())) fun s : (Unit) ⊕ (Bool) => match s with
        | .inr z => some z
        | .inl s2 => k s2) = k () := by
    by_cases c : 4 ≤ sectors ∧ sectors ≤ 64
    · have hall := List.all_eq_true.mp fmt_all (sectors - 4).toNat (List.mem_range.mpr (by omega))
      rw [show (4 + (((sectors - 4).toNat : Nat) : Int)) = sectors by omega] at hall
      unfold fmtB at hall
      cases e : f_ledger_Format sectors with
      | none => rw [e] at hall; cases hall
      | some F =>
        rw [e] at hall
        refine ⟨F, rfl, fun k => ?_⟩
        simp only [Bool.and_eq_true, beq_iff_eq] at hall
        obtain ⟨⟨⟨⟨⟨a1, a2⟩, a3⟩, a4⟩, a5⟩, a6⟩ := hall
        rw [if_neg (by simp; omega), a1, a2, a3, a4]
        cases ex : ix F.1.Disk.Sectors 0 with
        | none => rw [ex] at a5; cases a5
        | some x =>
          cases ey : f_ref10_Head 1 0 with
          | none => rw [ex, ey] at a5; cases a5
          | some y =>
            rw [ex, ey] at a5
            cases er : f_ledger_Right F.1 with
            | none => rw [er] at a6; cases a6
            | some b =>
              rw [er] at a6
              have h5 : (x == y) = true := a5
              have h6 : b = true := a6
              subst h6
              obtain rfl : x = y := by simpa using h5
              simp [gx]
    · have e : f_ledger_Format sectors = some (zeroL, 1) := by unfold f_ledger_Format; rw [if_neg c]
      refine ⟨_, e, fun k => ?_⟩
      rw [if_pos (by simp; omega)]; rfl
  obtain ⟨F, hF1, hF2⟩ := hF
  rw [hF1, Option.bind_some, alive10]
  rw [gd_t _ (cut_gdI odd.Entries 8 (by decide)), lright_ok O (by rw [hOd]; omega) (by rw [hOd]; omega), Option.bind_some, hOd]
  rcases openS_cases T with ⟨h0, hd, he⟩ | ⟨h0, hz⟩
  · have hLs : f_ref10_Like (openS T).1 (openS T).1 = some true := by rw [llike_ok _ _ rfl (by rw [hd]; omega) (by rw [hd]; omega) (by omega)]; simp
    have hLo := llike_ok O (openS T).1 (by rw [hOd, hd]) (by rw [hOd]; omega) (by rw [hOd]; omega) (by omega)
    have hRs : f_ledger_Right (openS T).1 = some true := by rw [lright_ok _ (by rw [hd]; omega) (by rw [hd]; omega), hd]; simp [rrB, h0]
    rw [hLs, hLo, hRs]
    simp only [h0, bne_self_eq_false, Bool.not_false, beq_self_eq_true, Bool.and_true, Bool.true_and, gx, if_true, Option.bind_some, Bool.not_true, Bool.or_false, Bool.false_and, Bool.or_self, Bool.false_eq_true, if_false]
    refine (hF2 _).trans ?_
    have key : rrB (openS T) O = ((((O.Half == (openS T).1.Half) && (O.Gen == (openS T).1.Gen)) && (O.Used == (openS T).1.Used)) && decide (O.Entries = (openS T).1.Entries)) := by
      unfold rrB
      rw [h0]
      congr 1
      · congr 1
        · congr 1
          · simp [BEq.comm]
          · exact BEq.comm
        · exact BEq.comm
      · rw [decide_eq_decide]; exact eq_comm
    rw [key]; simp
  · have hn : ((openS T).2 == 0) = false := by simpa using h0
    have hb : ((openS T).2 != 0) = true := by simpa using h0
    have hR0 : f_ledger_Right zeroL = some false := by kernel_rfl
    have hrr : rrB (openS T) O = false := by unfold rrB; rw [hn]; rfl
    rw [hz, hR0, hrr]
    simp only [hn, hb, bne_self_eq_false, Bool.not_false, beq_self_eq_true, Bool.and_true, Bool.true_and, Bool.and_false, Bool.false_and, gx, if_true, Option.bind_some, Bool.not_true, Bool.or_false, Bool.or_self, Bool.false_eq_true, if_false]
    refine (hF2 _).trans ?_
    rfl
end Go.Proofs.Ytjhelpeglgigbaa.V.M
end

section
/- The functions' proofs and the plain law, side by side. -/
namespace Go.Proofs.Ytjhelpeglgigbaa.V
set_option linter.unusedVariables false
set_option linter.unusedSimpArgs false
theorem ledgerOpens_true (d : api_Disk) (sectors : Int) (odd : api_Ledger) : f_law10_LedgerOpens d sectors odd = some true := M.ledgerOpens_true d sectors odd
end Go.Proofs.Ytjhelpeglgigbaa.V
end

section
/- Rows: what a row lays of type handles. -/
namespace Go.Proofs.Ytjhelpeglgigbaa.V
open Go Go.RowKit
set_option linter.unusedVariables false
set_option linter.unusedSimpArgs false
theorem glrep_h {w : World} {g u b o : Nat} (h : w.cell? ⟨g, 0, none⟩ = some (.iface u (.agg #[.pointer (some ⟨b, o, none⟩)]))) : RepD w (fun k => k < w.heap.size) (.ref [.ifc u true [.z (.hnd b o)]] 0) (.pointer (some ⟨g, 0, none⟩)) := by
  refine .ref _ 0 g 0 (fun _ => .iface u (.agg #[.pointer (some ⟨b, o, none⟩)])) (cell?_lt h) (fun j sc hj => ?_) (fun j sc hj => ?_)
  · match j, hj with
    | 0, hj => exact h
  · match j, hj with
    | 0, hj =>
      obtain rfl := Option.some.inj hj
      refine .ifa u _ _ rfl fun j sc hj => ?_
      match j, hj with
      | 0, hj => obtain rfl := Option.some.inj hj; exact .z (.hnd b o)
theorem handle_met {P : Program} {laid : List (String × DataW Unit)} {W : World} {v : String} {d : DataW Unit} {g u b o n : Nat} {ty : TypeId} {name : List UInt8} (h : handlesMet P laid W) (hm : (v, d) ∈ laid) (hf : d.funcsIn? = none)
    (hn : d.handleName? = some name) (hg : P.globalNamed v = some g) (hu : (P.cutTypes.find? (·.1 == "internal/reflectlite.rtype")).map (·.2) = some u) (hsz : P.types.size = n)
    (hone : ((List.range n).filter fun t => P.rowNamed t name) = [ty]) (hh : typeHandle P ty = .pointer (some ⟨b, o, none⟩)) : W.cell? ⟨g, 0, none⟩ = some (.iface u (.agg #[.pointer (some ⟨b, o, none⟩)])) := by
  have h1 := h _ hm
  simp only [hf] at h1
  obtain ⟨name', u', ty', e1, e2, e3, e4, e5⟩ := h1
  obtain rfl := Option.some.inj (hn.symm.trans e1)
  obtain rfl := Option.some.inj (hu.symm.trans e2)
  have hm : ty' ∈ (List.range n).filter fun t => P.rowNamed t name := List.mem_filter.2 ⟨List.mem_range.2 (by rw [← hsz]; exact e3), e4⟩
  rw [hone] at hm
  obtain rfl := List.mem_singleton.1 hm
  rw [hh] at e5
  simpa using World.var?_cell hg e5 0
theorem laid_split {P : Program} {laid : List (String × DataW Unit)} {W : World} (h : laidMetH P laid W) (hne : (laid.filter fun x => x.2.handleName?.isSome).isEmpty = false) : laidMet P (laid.filter fun x => x.2.handleName?.isNone) W ∧ handlesMet P (laid.filter fun x => x.2.handleName?.isSome) W := by
  unfold laidMetH at h
  generalize (laid.filter fun x => x.2.handleName?.isSome) = hs at h hne
  match hs, h, hne with
  | a :: r, h, _ => exact h
end Go.Proofs.Ytjhelpeglgigbaa.V
end

section
/- The row of the law LedgerOpens: for every input that the row speaks of the law returns true; each argument reads behind the call as it read before. -/
namespace Go.Proofs.Ytjhelpeglgigbaa.ledgerOpens
open Go.ChangeShapes Go.WideShapes Go.ChangeAt Go.RowKit Go.Proofs.Ytjhelpeglgigbaa.V Go.Proofs.YtjhelpeglgigbaaW.PrintWords
set_option linter.unusedVariables false
theorem ops_api_Write : OpS Try.prog 51 2 e_api_Write W_api_Write := ops_struct (fun a => api_Write.mk a.1 a.2) Try.underlying51 (by kernel_rfl) (OpSF.cons rfl rfl (by kernel_rfl) (ops_int (by kernel_rfl)) (OpSF.one rfl rfl (by kernel_rfl) rfl (ops_str (by kernel_rfl)))) (fun _ => rfl) (by intro a h; exact h)
theorem ops_api_Disk : OpS Try.prog 25 2 e_api_Disk W_api_Disk := ops_struct (fun a => api_Disk.mk a.1 a.2) Try.underlying25 (by kernel_rfl) (OpSF.cons rfl rfl (by kernel_rfl) (ops_slice (e := 9) (by kernel_rfl) (by kernel_rfl) (by decide) (ops_str (by kernel_rfl))) (OpSF.one rfl rfl (by kernel_rfl) rfl (ops_slice (e := 51) (by kernel_rfl) (by kernel_rfl) (by decide) ops_api_Write))) (fun _ => rfl) (by intro a h; exact h)
theorem ops_api_Ledger : OpS Try.prog 27 6 e_api_Ledger W_api_Ledger := ops_struct (fun a => api_Ledger.mk a.1 a.2.1 a.2.2.1 a.2.2.2.1 a.2.2.2.2) Try.underlying27 (by kernel_rfl) (OpSF.cons rfl rfl (by kernel_rfl) ops_api_Disk (OpSF.cons rfl rfl (by kernel_rfl) (ops_int (by kernel_rfl)) (OpSF.cons rfl rfl (by kernel_rfl) (ops_int (by kernel_rfl)) (OpSF.cons rfl rfl (by kernel_rfl) (ops_int (by kernel_rfl)) (OpSF.one rfl rfl (by kernel_rfl) rfl (ops_slice (e := 9) (by kernel_rfl) (by kernel_rfl) (by decide) (ops_str (by kernel_rfl)))))))) (fun _ => rfl) (by intro a h; exact h)
theorem own : ownKnob Try.prog.godebug = none := by kernel_rfl
theorem laidOut : laidOutB Try.prog = true := by kernel_rfl
theorem gl_ok {W : World} : GlOk glP W (fun k => k < W.heap.size) := fun g cs hg => by cases hg
set_option maxRecDepth 100000 in
theorem lifted (os : Os) (started : os.Started) (H : Type) (enc : TypeId × Value → H) :
    ReturnsInHanded {} Try.checked os 3 .any (Rows.ledgerOpensSpec.pre6 enc Try.prog Try.f3 Rows.ledgerOpensRow.domain false) (Rows.ledgerOpensSpec.post enc Try.prog Try.f3 false true false false) := by
  refine returnsInHanded_of_change_sized (C := Try.checked) own started (by kernel_rfl) Try.func3
    (ChangeSpec.witness6 (enc := enc) (C := Try.checked) false ⟨#[], #[.agg #[.slice none 0 0, .slice none 0 0], .int .i64 0, .agg #[.slice none 0 0, .slice none 0 0, .int .i64 0, .int .i64 0, .int .i64 0, .slice none 0 0]], []⟩ 8 (by kernel_rfl) (by kernel_rfl) (by kernel_rfl) (by kernel_rfl)) ?_
  intro W base args ds gs before hval0 hW hcnd hsz0 _
  have hsz : (DataW.weightsEach Try.prog (Try.f3.params.toList ++ Rows.ledgerOpensSpec.plain.varTypes Try.prog) (ds ++ gs)).all (· ≤ reachBytes) = true := hsz0
  have hval : ∀ (j : Nat) t v, Try.f3.params[j]? = some t → args[j]? = some v → Value.okWide Try.prog W .any base t v := hval0
  have hW' := hW
  obtain ⟨p, q, hA0, hV, rfl, hfz, hnd⟩ := hW
  have hA : DataW.TrodAll enc Try.prog W 0 (fun _ => true) true Try.f3.params.toList args.toList ds p := hA0
  rw [Try.params3] at hA hval hsz
  obtain ⟨v0, vs0, d0, ds0, p0, q0, hargs, rfl, rfl, h0, r0⟩ := trodAll_cons hA
  obtain ⟨v1, vs1, d1, ds1, p1, q1, rfl, rfl, rfl, h1, r1⟩ := trodAll_cons r0
  obtain ⟨v2, vs2, d2, ds2, p2, q2, rfl, rfl, rfl, h2, r2⟩ := trodAll_cons r1
  obtain ⟨rfl, rfl, rfl⟩ := trodAll_nil r2
  obtain rfl : args = #[v0, v1, v2] := by cases args; simp_all
  obtain ⟨rfl, rfl⟩ := trodVars_none hV
  have k0 := h0
  have lt0 : ∀ x ∈ p0, x.block < W.heap.size := by obtain ⟨m, hm⟩ := k0; exact DataW.trod_lt m _ _ _ hm
  obtain ⟨a0, e0, w0⟩ := arg_struct Try.underlying25 ops_api_Disk (hval 0 25 v0 rfl rfl) h0
  have k1 := h1
  have lt1 : ∀ x ∈ p1, x.block < W.heap.size := by obtain ⟨m, hm⟩ := k1; exact DataW.trod_lt m _ _ _ hm
  obtain ⟨a1, e1, w1⟩ := arg_int Try.underlying3 (hval 1 3 v1 rfl rfl) h1
  have k2 := h2
  have lt2 : ∀ x ∈ p2, x.block < W.heap.size := by obtain ⟨m, hm⟩ := k2; exact DataW.trod_lt m _ _ _ hm
  obtain ⟨a2, e2, w2⟩ := arg_struct Try.underlying27 ops_api_Ledger (hval 2 27 v2 rfl rfl) h2
  refine (Fun.lawG (xs := [_, _, _]) (vs := [v0, v1, v2]) (w := W) (f_law10_LedgerOpens_ok a0 a1 a2 true (by first | exact ledgerOpens_true a0 a1 a2 w0 w1 w2 | exact ledgerOpens_true a0 a1 a2 | (apply ledgerOpens_true <;> assumption))) gl_ok ⟨e0, e1, e2, trivial⟩).mono fun e W' ⟨he, bel⟩ => ?_
  subst he
  exact ⟨_, rfl, _, _, _, [], _, [], hW', trodAll_mk1 (shut_bool Try.underlying4 _), (trodAll_cons_mk (Below.trod laidOut (by kernel_rfl) (of_decide_eq_true (by kernel_rfl)) k0 bel lt0) (trodAll_cons_mk (Below.trod laidOut (by kernel_rfl) (of_decide_eq_true (by kernel_rfl)) k1 bel lt1) (trodAll_cons_mk (Below.trod laidOut (by kernel_rfl) (of_decide_eq_true (by kernel_rfl)) k2 bel lt2) trodAll_mk0))), rfl, bel.frame _, fun h => by cases h⟩
theorem over : Rows.ledgerOpensRow.holds Try.pinned (OpenSpec.ofChange Rows.ledgerOpensSpec) :=
  OpenClaim.holds_of_wide 3 Try.f3 rfl rfl rfl rfl rfl rfl rfl ⟨rfl, rfl, rfl, rfl, rfl⟩ rfl rfl rfl rfl rfl (by kernel_rfl) Try.func3 (by kernel_rfl)
    (of_decide_eq_true (by kernel_rfl)) (by unfold Func.isWrapper; first | (rw [if_pos (by decide +kernel)]; kernel_rfl) | (rw [if_neg (by decide +kernel)]; exact ⟨rfl, rfl⟩))
    (fun os started H enc _ => lifted os started H enc)
theorem proved : Rows.LedgerOpensSaid := over
end Go.Proofs.Ytjhelpeglgigbaa.ledgerOpens
namespace Go.Proofs.Ytjhelpeglgigbaa
/-- The statement, under a short name, for the claim. -/
theorem ledgerOpens_holds : Rows.LedgerOpensSaid := ledgerOpens.proved
#print axioms ledgerOpens_holds
end Go.Proofs.Ytjhelpeglgigbaa
end
