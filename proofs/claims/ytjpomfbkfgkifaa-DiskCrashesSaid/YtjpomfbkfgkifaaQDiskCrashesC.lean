/- slices.Clone of []string. -/
import Derived.Test.YtjpomfbkfgkifaaProg
import Derived.Test.YtjpomfbkfgkifaaQDiskCrashesB
import Derived.KernelRfl
import Derived.Below
import Derived.OwnWalk
import Derived.Orders
import Derived.WalkKit
import Derived.Laws.Slices
import Derived.ChangeSlices
import Derived.ChangeOld
import Derived.SizedLaws
import Derived.SliceStrings
import Derived.WideShapes
import Derived.OpenShut
import Derived.Test.YtjpomfbkfgkifaaWMore
import Derived.Shelf.Strings.Builder1
import Derived.Shelf.Strings.Builder2
import Derived.Shelf.Strings.BuilderF
import Derived.Shelf.Strings.BuilderK
import Derived.Shelf.Strings.Builder2Cap
import Derived.Shelf.Strings.Prefix
import Derived.Shelf.Bits.Mul64
import Derived.Shelf.Strings.Repeat
import Derived.Shelf.Strings.BuilderCap
import Derived.Laws.BytesArg
import Derived.Deep.Draws
import Derived.Laws.MakeOwn
import Derived.Laws.OwnMore
import Derived.Deep.OwnRows
import Derived.Tactics
import Derived.Lib.ConvBytes
import Derived.RowKit3
import Derived.Deep.LoopGhost
import Derived.Deep.QuietTactic
import Derived.BigQuiet
import Derived.WideLaws
import Derived.Deep.DeepCutAuto
import Derived.Deep.CutBlock
import Derived.Deep.RegionHeld3
import Derived.Laws.Rows
import Derived.Lib.AppendStr
import Derived.ArgAppend
import Derived.Laws.BitsLemmas
import Derived.RowKit
import Derived.WalkSpells
section
/- The disk's ends: flush, crash. -/
namespace Go.Proofs.Ytjpomfbkfgkifaa.V
open Go Go.RowKit
set_option linter.unusedVariables false
set_option linter.unusedSimpArgs false
def c38r0 : List Opn := [
  ⟨(some 2), none, .mv (.c (.s .nils))⟩]
def c38r1 : List Opn := [
  ⟨(some 3), none, .mv (.t 0)⟩, 
  ⟨(some 4), none, .bnil .eql (.t 3) (.c (.s .nils))⟩]
def c38r2 : List Opn := [
  ⟨(some 2), none, .mv (.c (.s .nils))⟩]
def c38r3 : List Opn := [
  ⟨(some 5), none, .bsl 1 []⟩, 
  ⟨(some 6), none, .mv (.t 0)⟩, 
  ⟨(some 7), none, .app 1 16 false (.t 5) (.t 6)⟩, 
  ⟨(some 2), none, .mv (.t 7)⟩]
def c38 : C := .seq (.reg c38r0 none [0]) (.seq (.seq (.reg c38r1 none [0, 4]) (.cond (.t 4) (.seq (.reg c38r2 none [2]) (.ret)) (.skip))) (.seq (.reg c38r3 none [2]) (.ret)))
def k38 : List (Nat × List Nat) := [(3, [2]), (2, [2]), (1, [0, 4]), (0, [0])]
theorem cc38 : (Try.f38.body).bind (cC Try.prog 8 k38) = some c38 := by kernel_rfl
def rv38 : List RV := [.t 2]
theorem cr38 : cRVs Try.prog Try.f38.results.toList = some rv38 := by kernel_rfl
def c25r0 : List Opn := [
  ⟨(some 3), none, .mv (.c (.s (.d (.int .i64 0))))⟩]
def c25r1 : List Opn := [
  ⟨(some 4), none, .mv (.t 0)⟩, 
  ⟨(some 5), none, .load false 1 (.t 1)⟩, 
  ⟨(some 6), none, .len (.sl 0) (.t 5)⟩, 
  ⟨(some 7), none, .bin .geq (.t 4) (.t 6)⟩]
def c25r2 : List Opn := [
  ⟨(some 3), none, .mv (.c (.s (.d (.int .i64 0))))⟩]
def c25r3 : List Opn := [
  ⟨(some 8), none, .load false 1 (.t 1)⟩, 
  ⟨(some 9), none, .mv (.t 0)⟩, 
  ⟨(some 10), none, .iadr (.sl 1) (.t 8) (.t 9)⟩, 
  ⟨(some 11), none, .load false 1 (.t 10)⟩, 
  ⟨(some 3), none, .mv (.t 11)⟩]
def c25 : C := .seq (.reg c25r0 none [0, 1]) (.seq (.seq (.reg c25r1 none [0, 1, 7]) (.cond (.t 7) (.seq (.reg c25r2 none [3]) (.ret)) (.skip))) (.seq (.reg c25r3 none [3]) (.ret)))
def k25 : List (Nat × List Nat) := [(3, [3]), (2, [3]), (1, [0, 1, 7]), (0, [0, 1])]
theorem cc25 : (Try.f25.body).bind (cC Try.prog 12 k25) = some c25 := by kernel_rfl
def rv25 : List RV := [.t 3]
theorem cr25 : cRVs Try.prog Try.f25.results.toList = some rv25 := by kernel_rfl
def c27r0 : List Opn := [
  ⟨(some 2), none, .mv (.c (.s (.d (.int .i64 0))))⟩]
def c27r1 : List Opn := [
  ⟨(some 2), none, .mv (.c (.s (.d (.int .i64 1))))⟩]
def c27 : C := .seq (.reg c27r0 none []) (.seq (.reg c27r1 none [2]) (.ret))
def k27 : List (Nat × List Nat) := [(1, [2]), (0, [])]
theorem cc27 : (Try.f27.body).bind (cC Try.prog 3 k27) = some c27 := by kernel_rfl
def rv27 : List RV := [.t 2]
theorem cr27 : cRVs Try.prog Try.f27.results.toList = some rv27 := by kernel_rfl
def c24r0 : List Opn := [
  ⟨(some 2), none, .box 2 (.t 0)⟩, 
  ⟨(some 4), none, .new [.nils, .nils]⟩]
def c24r1 : List Opn := [
  ⟨(some 9), none, .fadr 0 (.t 2)⟩, 
  ⟨(some 10), none, .load false 1 (.t 9)⟩, 
  ⟨(some 11), none, .call (.fn 38) [(.t 10)]⟩, 
  ⟨(some 5), none, .mv (.t 11)⟩]
def c24r2 : List Opn := [
  ⟨(some 12), none, .fadr 1 (.t 2)⟩, 
  ⟨(some 13), none, .load false 1 (.t 12)⟩, 
  ⟨(some 14), none, .len (.sl 0) (.t 13)⟩, 
  ⟨(some 15), none, .mv (.c (.s (.d (.int .i64 0))))⟩]
def c24r3 : List Opn := [
  ⟨(some 16), none, .bin .lss (.t 15) (.t 14)⟩]
def c24r4 : List Opn := [
  ⟨(some 17), none, .mv (.t 15)⟩, 
  ⟨(some 18), none, .iadr (.sl 2) (.t 13) (.t 15)⟩, 
  ⟨(some 19), none, .load true 2 (.t 18)⟩, 
  ⟨(some 7), none, .new [(.d (.int .i64 0)), (.d (.str []))]⟩, 
  ⟨(some 6), none, .mv (.t 17)⟩, 
  ⟨none, none, .store 2 (.t 7) (.t 19)⟩]
def c24r5 : List Opn := [
  ⟨(some 8), none, .mv (.c (.s (.d (.str []))))⟩]
def c24r6 : List Opn := [
  ⟨(some 20), none, .mv (.t 1)⟩, 
  ⟨(some 21), none, .mv (.t 6)⟩, 
  ⟨(some 22), none, .call (.t 20) [(.t 21)]⟩]
def c24r7 : List Opn := [
  ⟨(some 24), none, .bin .eql (.t 22) (.c (.s (.d (.int .i64 2))))⟩, 
  ⟨(some 23), none, .mv (.t 24)⟩]
def c24r8 : List Opn := [
  ⟨(some 26), none, .bin .eql (.t 22) (.c (.s (.d (.int .i64 1))))⟩, 
  ⟨(some 25), none, .mv (.t 26)⟩]
def c24r9 : List Opn := [
  ⟨(some 27), none, .mv (.t 5)⟩, 
  ⟨(some 28), none, .fadr 0 (.t 7)⟩, 
  ⟨(some 29), none, .load false 1 (.t 28)⟩, 
  ⟨(some 30), none, .iadr (.sl 1) (.t 27) (.t 29)⟩, 
  ⟨(some 31), none, .load false 1 (.t 30)⟩, 
  ⟨(some 32), none, .slc .str (.t 31) (some (.c (.s (.d (.int .i64 64))))) none none⟩, 
  ⟨(some 8), none, .mv (.t 32)⟩]
def c24r10 : List Opn := [
  ⟨(some 33), none, .mv (.t 5)⟩, 
  ⟨(some 34), none, .fadr 0 (.t 7)⟩, 
  ⟨(some 35), none, .load false 1 (.t 34)⟩, 
  ⟨(some 36), none, .fadr 1 (.t 7)⟩, 
  ⟨(some 37), none, .load false 1 (.t 36)⟩, 
  ⟨(some 38), none, .mv (.t 8)⟩, 
  ⟨(some 39), none, .len .str (.t 38)⟩, 
  ⟨(some 40), none, .bin .sub (.c (.s (.d (.int .i64 128)))) (.t 39)⟩, 
  ⟨(some 41), none, .slc .str (.t 37) none (some (.t 40)) none⟩, 
  ⟨(some 42), none, .mv (.t 8)⟩, 
  ⟨(some 43), none, .bin .add (.t 41) (.t 42)⟩, 
  ⟨(some 44), none, .iadr (.sl 1) (.t 33) (.t 35)⟩, 
  ⟨none, none, .store 1 (.t 44) (.t 43)⟩]
def c24r11 : List Opn := [
  ⟨(some 45), none, .bin .add (.t 15) (.c (.s (.d (.int .i64 1))))⟩, 
  ⟨(some 15), none, .mv (.t 45)⟩]
def c24l12 : C := .seq (.reg c24r3 none [1, 4, 5, 13, 14, 15, 16]) (.seq (.cond (.t 16) (.skip) (.exit 0)) (.seq (.blk 1 (.seq (.reg c24r4 none [1, 4, 5, 6, 7, 13, 14, 15]) (.seq (.reg c24r5 none [1, 4, 5, 6, 7, 8, 13, 14, 15]) (.seq (.reg c24r6 none [1, 4, 5, 7, 8, 13, 14, 15, 22]) (.blk 2 (.seq (.blk 4 (.seq (.blk 3 (.seq (.seq (.seq (.reg c24r7 none [1, 4, 5, 7, 8, 13, 14, 15, 22, 23]) (.cond (.t 23) (.exit 3) (.skip))) (.seq (.reg c24r8 none [1, 4, 5, 7, 8, 13, 14, 15, 25]) (.cond (.t 25) (.exit 4) (.skip)))) (.exit 2))) (.reg c24r9 none [1, 4, 5, 7, 8, 13, 14, 15]))) (.seq (.reg c24r10 (some [0, 0, 2, 0, 8, 0, 32, 96, 248, 0, 1016, 2047, 4095]) [1, 4, 5, 13, 14, 15]) (.exit 2)))))))) (.reg c24r11 none [1, 4, 5, 13, 14, 15])))
def c24r12 : List Opn := [
  ⟨(some 46), none, .mv (.t 5)⟩, 
  ⟨(some 47), none, .build [.nils, .nils] [(0, 1, (.t 46))]⟩, 
  ⟨none, none, .store 2 (.t 4) (.t 47)⟩]
def c24 : C := .seq (.reg c24r0 none [1, 2, 4]) (.seq (.reg c24r1 none [1, 2, 4, 5]) (.seq (.seq (.reg c24r2 none [1, 4, 5, 13, 14, 15]) (.blk 0 (.loop c24l12))) (.seq (.reg c24r12 none [4]) (.ret))))
def k24 : List (Nat × List Nat) := [(12, [4]), (11, [1, 4, 5, 13, 14, 15]), (10, [1, 4, 5, 13, 14, 15]), (9, [1, 4, 5, 7, 8, 13, 14, 15]), (8, [1, 4, 5, 7, 8, 13, 14, 15, 25]), (7, [1, 4, 5, 7, 8, 13, 14, 15, 22, 23]), (6, [1, 4, 5, 7, 8, 13, 14, 15, 22]), (5, [1, 4, 5, 6, 7, 8, 13, 14, 15]), (4, [1, 4, 5, 6, 7, 13, 14, 15]), (3, [1, 4, 5, 13, 14, 15, 16]), (2, [1, 4, 5, 13, 14, 15]), (1, [1, 2, 4, 5]), (0, [1, 2, 4])]
theorem cc24 : (Try.f24.body).bind (cC Try.prog 48 k24) = some c24 := by kernel_rfl
def rv24 : List RV := [.c 4 true 2]
theorem cr24 : cRVs Try.prog Try.f24.results.toList = some rv24 := by kernel_rfl
def c13r0 : List Opn := [
  ⟨(some 2), none, .box 2 (.t 0)⟩, 
  ⟨(some 3), none, .box 1 (.t 1)⟩, 
  ⟨(some 4), none, .new [.nils, .nils]⟩, 
  ⟨(some 5), none, .mv (.c (.s (.d (.int .i64 0))))⟩]
def c13r1 : List Opn := [
  ⟨(some 6), none, .load true 2 (.t 2)⟩, 
  ⟨(some 7), none, .call (.fn 17) [(.t 6)]⟩, 
  ⟨(some 8), none, .un .not (.t 7)⟩]
def c13r2 : List Opn := [
  ⟨(some 9), none, .build [.nils, .nils] []⟩, 
  ⟨none, none, .store 2 (.t 4) (.t 9)⟩, 
  ⟨(some 5), none, .mv (.c (.s (.d (.int .i64 1))))⟩]
def c13r3 : List Opn := [
  ⟨(some 10), none, .load true 2 (.t 2)⟩, 
  ⟨(some 11), none, .mkfn 25 [(.t 3)]⟩, 
  ⟨(some 12), none, .call (.fn 24) [(.t 10), (.t 11)]⟩, 
  ⟨none, none, .store 2 (.t 4) (.t 12)⟩, 
  ⟨(some 5), none, .mv (.c (.s (.d (.int .i64 0))))⟩]
def c13 : C := .seq (.reg c13r0 none [2, 3, 4]) (.seq (.seq (.reg c13r1 none [2, 3, 4, 8]) (.cond (.t 8) (.seq (.reg c13r2 none [4, 5]) (.ret)) (.skip))) (.seq (.reg c13r3 none [4, 5]) (.ret)))
def k13 : List (Nat × List Nat) := [(3, [4, 5]), (2, [4, 5]), (1, [2, 3, 4, 8]), (0, [2, 3, 4])]
theorem cc13 : (Try.f13.body).bind (cC Try.prog 13 k13) = some c13 := by kernel_rfl
def rv13 : List RV := [.c 4 true 2, .t 5]
theorem cr13 : cRVs Try.prog Try.f13.results.toList = some rv13 := by kernel_rfl
def c15r0 : List Opn := [
  ⟨(some 1), none, .box 2 (.t 0)⟩, 
  ⟨(some 2), none, .new [.nils, .nils]⟩, 
  ⟨(some 3), none, .mv (.c (.s (.d (.int .i64 0))))⟩]
def c15r1 : List Opn := [
  ⟨(some 4), none, .load true 2 (.t 1)⟩, 
  ⟨(some 5), none, .call (.fn 17) [(.t 4)]⟩, 
  ⟨(some 6), none, .un .not (.t 5)⟩]
def c15r2 : List Opn := [
  ⟨(some 7), none, .build [.nils, .nils] []⟩, 
  ⟨none, none, .store 2 (.t 2) (.t 7)⟩, 
  ⟨(some 3), none, .mv (.c (.s (.d (.int .i64 1))))⟩]
def c15r3 : List Opn := [
  ⟨(some 8), none, .load true 2 (.t 1)⟩, 
  ⟨(some 9), none, .call (.fn 24) [(.t 8), (.fn 27)]⟩, 
  ⟨none, none, .store 2 (.t 2) (.t 9)⟩, 
  ⟨(some 3), none, .mv (.c (.s (.d (.int .i64 0))))⟩]
def c15 : C := .seq (.reg c15r0 none [1, 2]) (.seq (.seq (.reg c15r1 none [1, 2, 6]) (.cond (.t 6) (.seq (.reg c15r2 none [2, 3]) (.ret)) (.skip))) (.seq (.reg c15r3 none [2, 3]) (.ret)))
def k15 : List (Nat × List Nat) := [(3, [2, 3]), (2, [2, 3]), (1, [1, 2, 6]), (0, [1, 2])]
theorem cc15 : (Try.f15.body).bind (cC Try.prog 10 k15) = some c15 := by kernel_rfl
def rv15 : List RV := [.c 2 true 2, .t 3]
theorem cr15 : cRVs Try.prog Try.f15.results.toList = some rv15 := by kernel_rfl
theorem cloneS (t : List (List Sc)) (hl : t.length ≤ 1099511627776) (hst : ∀ r, r ∈ t → r.length = 1) : FunO Try.prog gl0 38 [.b (.s (.d (.sl t)))] 1 t := by
  refine funO_walk Try.func38 Try.ntmps38 cc38 cr38 (by kernel_rfl) (by simp only [List.length_cons, List.length_nil]; decide) ?_
  simp only [wk0, wk1, wk2, wk3, wk4, wk5, wk6, wk7, wk8, wk9, wk10, Rw_op, Rw_opg, RwD_op, RwD_opg, Bool.cond_true, Bool.cond_false, if_true, if_false, implies_true, forall_const, eq_self, ne_eq, forall_eq, forall_eq', forall_eq_or_imp, exists_eq', bne_self_eq_false, dchk, meets, touchS, touchI, quietI, allocI, isCall, idsV, ch0, Nat.testBit, semI, binS, unS, nilS, aggS, eqLs, eqL, evT, evS, stripV, gOk, gAll, opsOf, boolV, apG, numd, prL, cellsV, isB, out1, fail, fillOb, fillL, replaceAt, rowsV, newV, boundV, intV, lcOf, lcA, scA, Va.bo, Va.i, Va.st, Ret, allOb, rvOut, convB, convBs, convC, convR, conv, unD, Nat.reduceAdd, Nat.reduceSub, Nat.reduceMul, Nat.reduceLeDiff, Nat.reduceEqDiff, Nat.reduceLT, Nat.reduceBEq, reduceIte, reduceCtorEq, Int.reduceToNat, fnV, argsV, touchO, evO, bareI, Nat.reduceShiftRight, Nat.reduceAnd, Nat.reduceBneDiff, Nat.reduceBNe]
  unfold c38
  refine .seq (Rw.walk ?_)
  simp only [wk0, wk1, wk2, wk3, wk4, wk5, wk6, wk7, wk8, wk9, wk10, Rw_op, Rw_opg, RwD_op, RwD_opg, Bool.cond_true, Bool.cond_false, if_true, if_false, implies_true, forall_const, eq_self, ne_eq, forall_eq, forall_eq', forall_eq_or_imp, exists_eq', bne_self_eq_false, dchk, meets, touchS, touchI, quietI, allocI, isCall, idsV, ch0, Nat.testBit, semI, binS, unS, nilS, aggS, eqLs, eqL, evT, evS, stripV, gOk, gAll, opsOf, boolV, apG, numd, prL, cellsV, isB, out1, fail, fillOb, fillL, replaceAt, rowsV, newV, boundV, intV, lcOf, lcA, scA, Va.bo, Va.i, Va.st, Ret, allOb, rvOut, convB, convBs, convC, convR, conv, unD, Nat.reduceAdd, Nat.reduceSub, Nat.reduceMul, Nat.reduceLeDiff, Nat.reduceEqDiff, Nat.reduceLT, Nat.reduceBEq, reduceIte, reduceCtorEq, Int.reduceToNat, fnV, argsV, touchO, evO, bareI, Nat.reduceShiftRight, Nat.reduceAnd, Nat.reduceBneDiff, Nat.reduceBNe, c38r0]
  refine .nil2 (t := 0) rfl (fun h0 => ?_) ?_
  · simp only [wk0, wk1, wk2, wk3, wk4, wk5, wk6, wk7, wk8, wk9, wk10, Rw_op, Rw_opg, RwD_op, RwD_opg, Bool.cond_true, Bool.cond_false, if_true, if_false, implies_true, forall_const, eq_self, ne_eq, forall_eq, forall_eq', forall_eq_or_imp, exists_eq', bne_self_eq_false, dchk, meets, touchS, touchI, quietI, allocI, isCall, idsV, ch0, Nat.testBit, semI, binS, unS, nilS, aggS, eqLs, eqL, evT, evS, stripV, gOk, gAll, opsOf, boolV, apG, numd, prL, cellsV, isB, out1, fail, fillOb, fillL, replaceAt, rowsV, newV, boundV, intV, lcOf, lcA, scA, Va.bo, Va.i, Va.st, Ret, allOb, rvOut, convB, convBs, convC, convR, conv, unD, Nat.reduceAdd, Nat.reduceSub, Nat.reduceMul, Nat.reduceLeDiff, Nat.reduceEqDiff, Nat.reduceLT, Nat.reduceBEq, reduceIte, reduceCtorEq, Int.reduceToNat, fnV, argsV, touchO, evO, bareI, Nat.reduceShiftRight, Nat.reduceAnd, Nat.reduceBneDiff, Nat.reduceBNe]
    refine .seq (.seq (Rw.walk ?_))
    simp only [wk0, wk1, wk2, wk3, wk4, wk5, wk6, wk7, wk8, wk9, wk10, Rw_op, Rw_opg, RwD_op, RwD_opg, Bool.cond_true, Bool.cond_false, if_true, if_false, implies_true, forall_const, eq_self, ne_eq, forall_eq, forall_eq', forall_eq_or_imp, exists_eq', bne_self_eq_false, dchk, meets, touchS, touchI, quietI, allocI, isCall, idsV, ch0, Nat.testBit, semI, binS, unS, nilS, aggS, eqLs, eqL, evT, evS, stripV, gOk, gAll, opsOf, boolV, apG, numd, prL, cellsV, isB, out1, fail, fillOb, fillL, replaceAt, rowsV, newV, boundV, intV, lcOf, lcA, scA, Va.bo, Va.i, Va.st, Ret, allOb, rvOut, convB, convBs, convC, convR, conv, unD, Nat.reduceAdd, Nat.reduceSub, Nat.reduceMul, Nat.reduceLeDiff, Nat.reduceEqDiff, Nat.reduceLT, Nat.reduceBEq, reduceIte, reduceCtorEq, Int.reduceToNat, fnV, argsV, touchO, evO, bareI, Nat.reduceShiftRight, Nat.reduceAnd, Nat.reduceBneDiff, Nat.reduceBNe, c38r1, nilS]
    refine .cond rfl (fun h => ?_) (fun h => by cases h)
    refine .seq (Rw.walk ?_)
    simp only [wk0, wk1, wk2, wk3, wk4, wk5, wk6, wk7, wk8, wk9, wk10, Rw_op, Rw_opg, RwD_op, RwD_opg, Bool.cond_true, Bool.cond_false, if_true, if_false, implies_true, forall_const, eq_self, ne_eq, forall_eq, forall_eq', forall_eq_or_imp, exists_eq', bne_self_eq_false, dchk, meets, touchS, touchI, quietI, allocI, isCall, idsV, ch0, Nat.testBit, semI, binS, unS, nilS, aggS, eqLs, eqL, evT, evS, stripV, gOk, gAll, opsOf, boolV, apG, numd, prL, cellsV, isB, out1, fail, fillOb, fillL, replaceAt, rowsV, newV, boundV, intV, lcOf, lcA, scA, Va.bo, Va.i, Va.st, Ret, allOb, rvOut, convB, convBs, convC, convR, conv, unD, Nat.reduceAdd, Nat.reduceSub, Nat.reduceMul, Nat.reduceLeDiff, Nat.reduceEqDiff, Nat.reduceLT, Nat.reduceBEq, reduceIte, reduceCtorEq, Int.reduceToNat, fnV, argsV, touchO, evO, bareI, Nat.reduceShiftRight, Nat.reduceAnd, Nat.reduceBneDiff, Nat.reduceBNe, c38r2]
    refine .weak (Imp.adoptN 2 0 1 rfl rfl) (.ret ?_)
    simp only [wk0, wk1, wk2, wk3, wk4, wk5, wk6, wk7, wk8, wk9, wk10, Rw_op, Rw_opg, RwD_op, RwD_opg, Bool.cond_true, Bool.cond_false, if_true, if_false, implies_true, forall_const, eq_self, ne_eq, forall_eq, forall_eq', forall_eq_or_imp, exists_eq', bne_self_eq_false, dchk, meets, touchS, touchI, quietI, allocI, isCall, idsV, ch0, Nat.testBit, semI, binS, unS, nilS, aggS, eqLs, eqL, evT, evS, stripV, gOk, gAll, opsOf, boolV, apG, numd, prL, cellsV, isB, out1, fail, fillOb, fillL, replaceAt, rowsV, newV, boundV, intV, lcOf, lcA, scA, Va.bo, Va.i, Va.st, Ret, allOb, rvOut, convB, convBs, convC, convR, conv, unD, Nat.reduceAdd, Nat.reduceSub, Nat.reduceMul, Nat.reduceLeDiff, Nat.reduceEqDiff, Nat.reduceLT, Nat.reduceBEq, reduceIte, reduceCtorEq, Int.reduceToNat, fnV, argsV, touchO, evO, bareI, Nat.reduceShiftRight, Nat.reduceAnd, Nat.reduceBneDiff, Nat.reduceBNe, RetO]
    subst h0
    exact ⟨0, rfl, rfl⟩
  · simp only [wk0, wk1, wk2, wk3, wk4, wk5, wk6, wk7, wk8, wk9, wk10, Rw_op, Rw_opg, RwD_op, RwD_opg, Bool.cond_true, Bool.cond_false, if_true, if_false, implies_true, forall_const, eq_self, ne_eq, forall_eq, forall_eq', forall_eq_or_imp, exists_eq', bne_self_eq_false, dchk, meets, touchS, touchI, quietI, allocI, isCall, idsV, ch0, Nat.testBit, semI, binS, unS, nilS, aggS, eqLs, eqL, evT, evS, stripV, gOk, gAll, opsOf, boolV, apG, numd, prL, cellsV, isB, out1, fail, fillOb, fillL, replaceAt, rowsV, newV, boundV, intV, lcOf, lcA, scA, Va.bo, Va.i, Va.st, Ret, allOb, rvOut, convB, convBs, convC, convR, conv, unD, Nat.reduceAdd, Nat.reduceSub, Nat.reduceMul, Nat.reduceLeDiff, Nat.reduceEqDiff, Nat.reduceLT, Nat.reduceBEq, reduceIte, reduceCtorEq, Int.reduceToNat, fnV, argsV, touchO, evO, bareI, Nat.reduceShiftRight, Nat.reduceAnd, Nat.reduceBneDiff, Nat.reduceBNe]
    refine .seq (.seq (Rw.walk ?_))
    simp only [wk0, wk1, wk2, wk3, wk4, wk5, wk6, wk7, wk8, wk9, wk10, Rw_op, Rw_opg, RwD_op, RwD_opg, Bool.cond_true, Bool.cond_false, if_true, if_false, implies_true, forall_const, eq_self, ne_eq, forall_eq, forall_eq', forall_eq_or_imp, exists_eq', bne_self_eq_false, dchk, meets, touchS, touchI, quietI, allocI, isCall, idsV, ch0, Nat.testBit, semI, binS, unS, nilS, aggS, eqLs, eqL, evT, evS, stripV, gOk, gAll, opsOf, boolV, apG, numd, prL, cellsV, isB, out1, fail, fillOb, fillL, replaceAt, rowsV, newV, boundV, intV, lcOf, lcA, scA, Va.bo, Va.i, Va.st, Ret, allOb, rvOut, convB, convBs, convC, convR, conv, unD, Nat.reduceAdd, Nat.reduceSub, Nat.reduceMul, Nat.reduceLeDiff, Nat.reduceEqDiff, Nat.reduceLT, Nat.reduceBEq, reduceIte, reduceCtorEq, Int.reduceToNat, fnV, argsV, touchO, evO, bareI, Nat.reduceShiftRight, Nat.reduceAnd, Nat.reduceBneDiff, Nat.reduceBNe, c38r1, nilS]
    refine .cond rfl (fun h => by cases h) (fun h => ?_)
    refine .skip ?_
    refine .seq (Rw.walk ?_)
    simp only [wk0, wk1, wk2, wk3, wk4, wk5, wk6, wk7, wk8, wk9, wk10, Rw_op, Rw_opg, RwD_op, RwD_opg, Bool.cond_true, Bool.cond_false, if_true, if_false, implies_true, forall_const, eq_self, ne_eq, forall_eq, forall_eq', forall_eq_or_imp, exists_eq', bne_self_eq_false, dchk, meets, touchS, touchI, quietI, allocI, isCall, idsV, ch0, Nat.testBit, semI, binS, unS, nilS, aggS, eqLs, eqL, evT, evS, stripV, gOk, gAll, opsOf, boolV, apG, numd, prL, cellsV, isB, out1, fail, fillOb, fillL, replaceAt, rowsV, newV, boundV, intV, lcOf, lcA, scA, Va.bo, Va.i, Va.st, Ret, allOb, rvOut, convB, convBs, convC, convR, conv, unD, Nat.reduceAdd, Nat.reduceSub, Nat.reduceMul, Nat.reduceLeDiff, Nat.reduceEqDiff, Nat.reduceLT, Nat.reduceBEq, reduceIte, reduceCtorEq, Int.reduceToNat, fnV, argsV, touchO, evO, bareI, Nat.reduceShiftRight, Nat.reduceAnd, Nat.reduceBneDiff, Nat.reduceBNe, c38r3]
    refine ⟨⟨hst, by omega⟩, ?_⟩
    refine .ret ?_
    simp only [wk0, wk1, wk2, wk3, wk4, wk5, wk6, wk7, wk8, wk9, wk10, Rw_op, Rw_opg, RwD_op, RwD_opg, Bool.cond_true, Bool.cond_false, if_true, if_false, implies_true, forall_const, eq_self, ne_eq, forall_eq, forall_eq', forall_eq_or_imp, exists_eq', bne_self_eq_false, dchk, meets, touchS, touchI, quietI, allocI, isCall, idsV, ch0, Nat.testBit, semI, binS, unS, nilS, aggS, eqLs, eqL, evT, evS, stripV, gOk, gAll, opsOf, boolV, apG, numd, prL, cellsV, isB, out1, fail, fillOb, fillL, replaceAt, rowsV, newV, boundV, intV, lcOf, lcA, scA, Va.bo, Va.i, Va.st, Ret, allOb, rvOut, convB, convBs, convC, convR, conv, unD, Nat.reduceAdd, Nat.reduceSub, Nat.reduceMul, Nat.reduceLeDiff, Nat.reduceEqDiff, Nat.reduceLT, Nat.reduceBEq, reduceIte, reduceCtorEq, Int.reduceToNat, fnV, argsV, touchO, evO, bareI, Nat.reduceShiftRight, Nat.reduceAnd, Nat.reduceBneDiff, Nat.reduceBNe, RetO]
    exact ⟨5, rfl, rfl⟩
abbrev encI (x : Int) : List Sc := [.int .i64 x]
theorem crash_1 (i : Int) (l : List Int) (h0 : 0 ≤ i) : Fun Try.prog gl0 25 [.i .i64 i, .b (.s (.d (.ref [.sl (l.map encI)] 0)))] (.i .i64 (if i ≥ l.length then 0 else l.getD i.toNat 0)) := by
  refine fun_walk [] Try.func25 Try.ntmps25 cc25 cr25 (by kernel_rfl) (by simp only [List.length_cons, List.length_nil]; decide) ?_
  simp only [wk0, wk1, wk2, wk3, wk4, wk5, wk6, wk7, wk8, wk9, wk10, Rw_op, Rw_opg, RwD_op, RwD_opg, Bool.cond_true, Bool.cond_false, if_true, if_false, implies_true, forall_const, eq_self, ne_eq, forall_eq, forall_eq', forall_eq_or_imp, exists_eq', bne_self_eq_false, dchk, meets, touchS, touchI, quietI, allocI, isCall, idsV, ch0, Nat.testBit, semI, binS, unS, nilS, aggS, eqLs, eqL, evT, evS, stripV, gOk, gAll, opsOf, boolV, apG, numd, prL, cellsV, isB, out1, fail, fillOb, fillL, replaceAt, rowsV, newV, boundV, intV, lcOf, lcA, scA, Va.bo, Va.i, Va.st, Ret, allOb, rvOut, convB, convBs, convC, convR, conv, unD, Nat.reduceAdd, Nat.reduceSub, Nat.reduceMul, Nat.reduceLeDiff, Nat.reduceEqDiff, Nat.reduceLT, Nat.reduceBEq, reduceIte, reduceCtorEq, Int.reduceToNat, fnV, argsV, touchO, evO, bareI, Nat.reduceShiftRight, Nat.reduceAnd, Nat.reduceBneDiff, Nat.reduceBNe]
  unfold c25
  refine .seq (Rw.walk ?_)
  simp only [wk0, wk1, wk2, wk3, wk4, wk5, wk6, wk7, wk8, wk9, wk10, Rw_op, Rw_opg, RwD_op, RwD_opg, Bool.cond_true, Bool.cond_false, if_true, if_false, implies_true, forall_const, eq_self, ne_eq, forall_eq, forall_eq', forall_eq_or_imp, exists_eq', bne_self_eq_false, dchk, meets, touchS, touchI, quietI, allocI, isCall, idsV, ch0, Nat.testBit, semI, binS, unS, nilS, aggS, eqLs, eqL, evT, evS, stripV, gOk, gAll, opsOf, boolV, apG, numd, prL, cellsV, isB, out1, fail, fillOb, fillL, replaceAt, rowsV, newV, boundV, intV, lcOf, lcA, scA, Va.bo, Va.i, Va.st, Ret, allOb, rvOut, convB, convBs, convC, convR, conv, unD, Nat.reduceAdd, Nat.reduceSub, Nat.reduceMul, Nat.reduceLeDiff, Nat.reduceEqDiff, Nat.reduceLT, Nat.reduceBEq, reduceIte, reduceCtorEq, Int.reduceToNat, fnV, argsV, touchO, evO, bareI, Nat.reduceShiftRight, Nat.reduceAnd, Nat.reduceBneDiff, Nat.reduceBNe, c25r0]
  refine .seq (.seq (Rw.walk ?_))
  simp only [wk0, wk1, wk2, wk3, wk4, wk5, wk6, wk7, wk8, wk9, wk10, Rw_op, Rw_opg, RwD_op, RwD_opg, Bool.cond_true, Bool.cond_false, if_true, if_false, implies_true, forall_const, eq_self, ne_eq, forall_eq, forall_eq', forall_eq_or_imp, exists_eq', bne_self_eq_false, dchk, meets, touchS, touchI, quietI, allocI, isCall, idsV, ch0, Nat.testBit, semI, binS, unS, nilS, aggS, eqLs, eqL, evT, evS, stripV, gOk, gAll, opsOf, boolV, apG, numd, prL, cellsV, isB, out1, fail, fillOb, fillL, replaceAt, rowsV, newV, boundV, intV, lcOf, lcA, scA, Va.bo, Va.i, Va.st, Ret, allOb, rvOut, convB, convBs, convC, convR, conv, unD, Nat.reduceAdd, Nat.reduceSub, Nat.reduceMul, Nat.reduceLeDiff, Nat.reduceEqDiff, Nat.reduceLT, Nat.reduceBEq, reduceIte, reduceCtorEq, Int.reduceToNat, fnV, argsV, touchO, evO, bareI, Nat.reduceShiftRight, Nat.reduceAnd, Nat.reduceBneDiff, Nat.reduceBNe, c25r1]
  refine .cond rfl (fun h => ?_) (fun h => ?_)
  · refine .seq (Rw.walk ?_)
    simp only [wk0, wk1, wk2, wk3, wk4, wk5, wk6, wk7, wk8, wk9, wk10, Rw_op, Rw_opg, RwD_op, RwD_opg, Bool.cond_true, Bool.cond_false, if_true, if_false, implies_true, forall_const, eq_self, ne_eq, forall_eq, forall_eq', forall_eq_or_imp, exists_eq', bne_self_eq_false, dchk, meets, touchS, touchI, quietI, allocI, isCall, idsV, ch0, Nat.testBit, semI, binS, unS, nilS, aggS, eqLs, eqL, evT, evS, stripV, gOk, gAll, opsOf, boolV, apG, numd, prL, cellsV, isB, out1, fail, fillOb, fillL, replaceAt, rowsV, newV, boundV, intV, lcOf, lcA, scA, Va.bo, Va.i, Va.st, Ret, allOb, rvOut, convB, convBs, convC, convR, conv, unD, Nat.reduceAdd, Nat.reduceSub, Nat.reduceMul, Nat.reduceLeDiff, Nat.reduceEqDiff, Nat.reduceLT, Nat.reduceBEq, reduceIte, reduceCtorEq, Int.reduceToNat, fnV, argsV, touchO, evO, bareI, Nat.reduceShiftRight, Nat.reduceAnd, Nat.reduceBneDiff, Nat.reduceBNe, c25r2]
    refine .ret ?_
    simp only [wk0, wk1, wk2, wk3, wk4, wk5, wk6, wk7, wk8, wk9, wk10, Rw_op, Rw_opg, RwD_op, RwD_opg, Bool.cond_true, Bool.cond_false, if_true, if_false, implies_true, forall_const, eq_self, ne_eq, forall_eq, forall_eq', forall_eq_or_imp, exists_eq', bne_self_eq_false, dchk, meets, touchS, touchI, quietI, allocI, isCall, idsV, ch0, Nat.testBit, semI, binS, unS, nilS, aggS, eqLs, eqL, evT, evS, stripV, gOk, gAll, opsOf, boolV, apG, numd, prL, cellsV, isB, out1, fail, fillOb, fillL, replaceAt, rowsV, newV, boundV, intV, lcOf, lcA, scA, Va.bo, Va.i, Va.st, Ret, allOb, rvOut, convB, convBs, convC, convR, conv, unD, Nat.reduceAdd, Nat.reduceSub, Nat.reduceMul, Nat.reduceLeDiff, Nat.reduceEqDiff, Nat.reduceLT, Nat.reduceBEq, reduceIte, reduceCtorEq, Int.reduceToNat, fnV, argsV, touchO, evO, bareI, Nat.reduceShiftRight, Nat.reduceAnd, Nat.reduceBneDiff, Nat.reduceBNe, rv25]
    rw [if_pos (of_decide_eq_true h)]
  · refine .skip ?_
    refine .seq (Rw.walk ?_)
    simp only [wk0, wk1, wk2, wk3, wk4, wk5, wk6, wk7, wk8, wk9, wk10, Rw_op, Rw_opg, RwD_op, RwD_opg, Bool.cond_true, Bool.cond_false, if_true, if_false, implies_true, forall_const, eq_self, ne_eq, forall_eq, forall_eq', forall_eq_or_imp, exists_eq', bne_self_eq_false, dchk, meets, touchS, touchI, quietI, allocI, isCall, idsV, ch0, Nat.testBit, semI, binS, unS, nilS, aggS, eqLs, eqL, evT, evS, stripV, gOk, gAll, opsOf, boolV, apG, numd, prL, cellsV, isB, out1, fail, fillOb, fillL, replaceAt, rowsV, newV, boundV, intV, lcOf, lcA, scA, Va.bo, Va.i, Va.st, Ret, allOb, rvOut, convB, convBs, convC, convR, conv, unD, Nat.reduceAdd, Nat.reduceSub, Nat.reduceMul, Nat.reduceLeDiff, Nat.reduceEqDiff, Nat.reduceLT, Nat.reduceBEq, reduceIte, reduceCtorEq, Int.reduceToNat, fnV, argsV, touchO, evO, bareI, Nat.reduceShiftRight, Nat.reduceAnd, Nat.reduceBneDiff, Nat.reduceBNe, c25r3]
    have h1 := of_decide_eq_false h
    have h2 : i.toNat < l.length := by omega
    rw [getD_map encI l i.toNat 0 [] h2]
    refine ⟨⟨h0, by omega, map_len encI 1 (fun _ => rfl) l⟩, Nat.le_refl _, ?_⟩
    refine .ret ?_
    simp only [wk0, wk1, wk2, wk3, wk4, wk5, wk6, wk7, wk8, wk9, wk10, Rw_op, Rw_opg, RwD_op, RwD_opg, Bool.cond_true, Bool.cond_false, if_true, if_false, implies_true, forall_const, eq_self, ne_eq, forall_eq, forall_eq', forall_eq_or_imp, exists_eq', bne_self_eq_false, dchk, meets, touchS, touchI, quietI, allocI, isCall, idsV, ch0, Nat.testBit, semI, binS, unS, nilS, aggS, eqLs, eqL, evT, evS, stripV, gOk, gAll, opsOf, boolV, apG, numd, prL, cellsV, isB, out1, fail, fillOb, fillL, replaceAt, rowsV, newV, boundV, intV, lcOf, lcA, scA, Va.bo, Va.i, Va.st, Ret, allOb, rvOut, convB, convBs, convC, convR, conv, unD, Nat.reduceAdd, Nat.reduceSub, Nat.reduceMul, Nat.reduceLeDiff, Nat.reduceEqDiff, Nat.reduceLT, Nat.reduceBEq, reduceIte, reduceCtorEq, Int.reduceToNat, fnV, argsV, touchO, evO, bareI, Nat.reduceShiftRight, Nat.reduceAnd, Nat.reduceBneDiff, Nat.reduceBNe, rv25, encI]
    rw [if_neg h1]
theorem flush_1 (i : Int) : Fun Try.prog gl0 27 [.i .i64 i] (.i .i64 1) := by
  refine fun_walk [] Try.func27 Try.ntmps27 cc27 cr27 (by kernel_rfl) (by simp only [List.length_cons, List.length_nil]; decide) ?_
  simp only [wk0, wk1, wk2, wk3, wk4, wk5, wk6, wk7, wk8, wk9, wk10, Rw_op, Rw_opg, RwD_op, RwD_opg, Bool.cond_true, Bool.cond_false, if_true, if_false, implies_true, forall_const, eq_self, ne_eq, forall_eq, forall_eq', forall_eq_or_imp, exists_eq', bne_self_eq_false, dchk, meets, touchS, touchI, quietI, allocI, isCall, idsV, ch0, Nat.testBit, semI, binS, unS, nilS, aggS, eqLs, eqL, evT, evS, stripV, gOk, gAll, opsOf, boolV, apG, numd, prL, cellsV, isB, out1, fail, fillOb, fillL, replaceAt, rowsV, newV, boundV, intV, lcOf, lcA, scA, Va.bo, Va.i, Va.st, Ret, allOb, rvOut, convB, convBs, convC, convR, conv, unD, Nat.reduceAdd, Nat.reduceSub, Nat.reduceMul, Nat.reduceLeDiff, Nat.reduceEqDiff, Nat.reduceLT, Nat.reduceBEq, reduceIte, reduceCtorEq, Int.reduceToNat, fnV, argsV, touchO, evO, bareI, Nat.reduceShiftRight, Nat.reduceAnd, Nat.reduceBneDiff, Nat.reduceBNe]
  unfold c27
  refine .seq (Rw.walk ?_)
  simp only [wk0, wk1, wk2, wk3, wk4, wk5, wk6, wk7, wk8, wk9, wk10, Rw_op, Rw_opg, RwD_op, RwD_opg, Bool.cond_true, Bool.cond_false, if_true, if_false, implies_true, forall_const, eq_self, ne_eq, forall_eq, forall_eq', forall_eq_or_imp, exists_eq', bne_self_eq_false, dchk, meets, touchS, touchI, quietI, allocI, isCall, idsV, ch0, Nat.testBit, semI, binS, unS, nilS, aggS, eqLs, eqL, evT, evS, stripV, gOk, gAll, opsOf, boolV, apG, numd, prL, cellsV, isB, out1, fail, fillOb, fillL, replaceAt, rowsV, newV, boundV, intV, lcOf, lcA, scA, Va.bo, Va.i, Va.st, Ret, allOb, rvOut, convB, convBs, convC, convR, conv, unD, Nat.reduceAdd, Nat.reduceSub, Nat.reduceMul, Nat.reduceLeDiff, Nat.reduceEqDiff, Nat.reduceLT, Nat.reduceBEq, reduceIte, reduceCtorEq, Int.reduceToNat, fnV, argsV, touchO, evO, bareI, Nat.reduceShiftRight, Nat.reduceAnd, Nat.reduceBneDiff, Nat.reduceBNe, c27r0]
  refine .seq (Rw.walk ?_)
  simp only [wk0, wk1, wk2, wk3, wk4, wk5, wk6, wk7, wk8, wk9, wk10, Rw_op, Rw_opg, RwD_op, RwD_opg, Bool.cond_true, Bool.cond_false, if_true, if_false, implies_true, forall_const, eq_self, ne_eq, forall_eq, forall_eq', forall_eq_or_imp, exists_eq', bne_self_eq_false, dchk, meets, touchS, touchI, quietI, allocI, isCall, idsV, ch0, Nat.testBit, semI, binS, unS, nilS, aggS, eqLs, eqL, evT, evS, stripV, gOk, gAll, opsOf, boolV, apG, numd, prL, cellsV, isB, out1, fail, fillOb, fillL, replaceAt, rowsV, newV, boundV, intV, lcOf, lcA, scA, Va.bo, Va.i, Va.st, Ret, allOb, rvOut, convB, convBs, convC, convR, conv, unD, Nat.reduceAdd, Nat.reduceSub, Nat.reduceMul, Nat.reduceLeDiff, Nat.reduceEqDiff, Nat.reduceLT, Nat.reduceBEq, reduceIte, reduceCtorEq, Int.reduceToNat, fnV, argsV, touchO, evO, bareI, Nat.reduceShiftRight, Nat.reduceAnd, Nat.reduceBneDiff, Nat.reduceBNe, c27r1]
  refine .ret ?_
  simp only [wk0, wk1, wk2, wk3, wk4, wk5, wk6, wk7, wk8, wk9, wk10, Rw_op, Rw_opg, RwD_op, RwD_opg, Bool.cond_true, Bool.cond_false, if_true, if_false, implies_true, forall_const, eq_self, ne_eq, forall_eq, forall_eq', forall_eq_or_imp, exists_eq', bne_self_eq_false, dchk, meets, touchS, touchI, quietI, allocI, isCall, idsV, ch0, Nat.testBit, semI, binS, unS, nilS, aggS, eqLs, eqL, evT, evS, stripV, gOk, gAll, opsOf, boolV, apG, numd, prL, cellsV, isB, out1, fail, fillOb, fillL, replaceAt, rowsV, newV, boundV, intV, lcOf, lcA, scA, Va.bo, Va.i, Va.st, Ret, allOb, rvOut, convB, convBs, convC, convR, conv, unD, Nat.reduceAdd, Nat.reduceSub, Nat.reduceMul, Nat.reduceLeDiff, Nat.reduceEqDiff, Nat.reduceLT, Nat.reduceBEq, reduceIte, reduceCtorEq, Int.reduceToNat, fnV, argsV, touchO, evO, bareI, Nat.reduceShiftRight, Nat.reduceAnd, Nat.reduceBneDiff, Nat.reduceBNe, rv27]
/-- A disk behind one write's fate. -/
def putL (l : List (List UInt8)) (w : SWr) (k : Int) : List (List UInt8) :=
  if k = 2 then l.set w.1.toNat (w.2.take 64 ++ (l.getD w.1.toNat []).drop 64) else if k = 1 then l.set w.1.toNat w.2 else l
def endsL (f : Int → Int) : List (List UInt8) → List SWr → Int → List (List UInt8)
  | l, [], _ => l
  | l, w :: t, i => endsL f (putL l w (f i)) t (i + 1)
theorem putL_len (l : List (List UInt8)) (w : SWr) (k : Int) : (putL l w k).length = l.length := by
  unfold putL
  split
  · simp
  · split <;> simp
theorem set_all {α : Type} {p : α → Prop} {l : List α} (k : Nat) (y : α) (hl : ∀ x, x ∈ l → p x) (hy : p y) : ∀ x, x ∈ l.set k y → p x := by
  intro x hx
  rcases List.mem_or_eq_of_mem_set hx with h | h
  · exact hl x h
  · rw [h]; exact hy
theorem disk_ends (s : List (List UInt8)) (t : List SWr) (fid : FuncId) (caps : List Sc) (f : Int → Int) (hr : rightL s t = true) (hf : ∀ i : Int, 0 ≤ i → i < t.length → Fun Try.prog gl0 fid (.i .i64 i :: caps.map fun x => .b (.s (.d x))) (.i .i64 (f i))) : Fun Try.prog gl0 24 [.b (aD s t), .b (.s (.d (.clo fid caps)))] (.b (aD (endsL f s t 0) [])) := by
  obtain ⟨hs, ht, hs4, hsl, htl⟩ := rightL_t hr
  refine fun_walk [11] Try.func24 Try.ntmps24 cc24 cr24 (by kernel_rfl) (by simp only [List.length_cons, List.length_nil]; decide) ?_
  simp only [wk0, wk1, wk2, wk3, wk4, wk5, wk6, wk7, wk8, wk9, wk10, Rw_op, Rw_opg, RwD_op, RwD_opg, Bool.cond_true, Bool.cond_false, if_true, if_false, implies_true, forall_const, eq_self, ne_eq, forall_eq, forall_eq', forall_eq_or_imp, exists_eq', bne_self_eq_false, dchk, meets, touchS, touchI, quietI, allocI, isCall, idsV, ch0, Nat.testBit, semI, binS, unS, nilS, aggS, eqLs, eqL, evT, evS, stripV, gOk, gAll, opsOf, boolV, apG, numd, prL, cellsV, isB, out1, fail, fillOb, fillL, replaceAt, rowsV, newV, boundV, intV, lcOf, lcA, scA, Va.bo, Va.i, Va.st, Ret, allOb, rvOut, convB, convBs, convC, convR, conv, unD, Nat.reduceAdd, Nat.reduceSub, Nat.reduceMul, Nat.reduceLeDiff, Nat.reduceEqDiff, Nat.reduceLT, Nat.reduceBEq, reduceIte, reduceCtorEq, Int.reduceToNat, fnV, argsV, touchO, evO, bareI, Nat.reduceShiftRight, Nat.reduceAnd, Nat.reduceBneDiff, Nat.reduceBNe, aD, encD]
  unfold c24
  refine .seq (Rw.walk ?_)
  simp only [wk0, wk1, wk2, wk3, wk4, wk5, wk6, wk7, wk8, wk9, wk10, Rw_op, Rw_opg, RwD_op, RwD_opg, Bool.cond_true, Bool.cond_false, if_true, if_false, implies_true, forall_const, eq_self, ne_eq, forall_eq, forall_eq', forall_eq_or_imp, exists_eq', bne_self_eq_false, dchk, meets, touchS, touchI, quietI, allocI, isCall, idsV, ch0, Nat.testBit, semI, binS, unS, nilS, aggS, eqLs, eqL, evT, evS, stripV, gOk, gAll, opsOf, boolV, apG, numd, prL, cellsV, isB, out1, fail, fillOb, fillL, replaceAt, rowsV, newV, boundV, intV, lcOf, lcA, scA, Va.bo, Va.i, Va.st, Ret, allOb, rvOut, convB, convBs, convC, convR, conv, unD, Nat.reduceAdd, Nat.reduceSub, Nat.reduceMul, Nat.reduceLeDiff, Nat.reduceEqDiff, Nat.reduceLT, Nat.reduceBEq, reduceIte, reduceCtorEq, Int.reduceToNat, fnV, argsV, touchO, evO, bareI, Nat.reduceShiftRight, Nat.reduceAnd, Nat.reduceBneDiff, Nat.reduceBNe, c24r0]
  refine .seq (Rw.walk ?_)
  simp only [wk0, wk1, wk2, wk3, wk4, wk5, wk6, wk7, wk8, wk9, wk10, Rw_op, Rw_opg, RwD_op, RwD_opg, Bool.cond_true, Bool.cond_false, if_true, if_false, implies_true, forall_const, eq_self, ne_eq, forall_eq, forall_eq', forall_eq_or_imp, exists_eq', bne_self_eq_false, dchk, meets, touchS, touchI, quietI, allocI, isCall, idsV, ch0, Nat.testBit, semI, binS, unS, nilS, aggS, eqLs, eqL, evT, evS, stripV, gOk, gAll, opsOf, boolV, apG, numd, prL, cellsV, isB, out1, fail, fillOb, fillL, replaceAt, rowsV, newV, boundV, intV, lcOf, lcA, scA, Va.bo, Va.i, Va.st, Ret, allOb, rvOut, convB, convBs, convC, convR, conv, unD, Nat.reduceAdd, Nat.reduceSub, Nat.reduceMul, Nat.reduceLeDiff, Nat.reduceEqDiff, Nat.reduceLT, Nat.reduceBEq, reduceIte, reduceCtorEq, Int.reduceToNat, fnV, argsV, touchO, evO, bareI, Nat.reduceShiftRight, Nat.reduceAnd, Nat.reduceBneDiff, Nat.reduceBNe, c24r1]
  refine call_funO [] ⟨trivial, trivial, trivial⟩ rfl ?_ (cloneS (s.map encS) (by simp only [List.length_map]; omega) (encS_len s)) rfl (.inl rfl) ?_
  · simp only [wk0, wk1, wk2, wk3, wk4, wk5, wk6, wk7, wk8, wk9, wk10, Rw_op, Rw_opg, RwD_op, RwD_opg, Bool.cond_true, Bool.cond_false, if_true, if_false, implies_true, forall_const, eq_self, ne_eq, forall_eq, forall_eq', forall_eq_or_imp, exists_eq', bne_self_eq_false, dchk, meets, touchS, touchI, quietI, allocI, isCall, idsV, ch0, Nat.testBit, semI, binS, unS, nilS, aggS, eqLs, eqL, evT, evS, stripV, gOk, gAll, opsOf, boolV, apG, numd, prL, cellsV, isB, out1, fail, fillOb, fillL, replaceAt, rowsV, newV, boundV, intV, lcOf, lcA, scA, Va.bo, Va.i, Va.st, Ret, allOb, rvOut, convB, convBs, convC, convR, conv, unD, Nat.reduceAdd, Nat.reduceSub, Nat.reduceMul, Nat.reduceLeDiff, Nat.reduceEqDiff, Nat.reduceLT, Nat.reduceBEq, reduceIte, reduceCtorEq, Int.reduceToNat, fnV, argsV, touchO, evO, bareI, Nat.reduceShiftRight, Nat.reduceAnd, Nat.reduceBneDiff, Nat.reduceBNe]
  simp only [wk0, wk1, wk2, wk3, wk4, wk5, wk6, wk7, wk8, wk9, wk10, Rw_op, Rw_opg, RwD_op, RwD_opg, Bool.cond_true, Bool.cond_false, if_true, if_false, implies_true, forall_const, eq_self, ne_eq, forall_eq, forall_eq', forall_eq_or_imp, exists_eq', bne_self_eq_false, dchk, meets, touchS, touchI, quietI, allocI, isCall, idsV, ch0, Nat.testBit, semI, binS, unS, nilS, aggS, eqLs, eqL, evT, evS, stripV, gOk, gAll, opsOf, boolV, apG, numd, prL, cellsV, isB, out1, fail, fillOb, fillL, replaceAt, rowsV, newV, boundV, intV, lcOf, lcA, scA, Va.bo, Va.i, Va.st, Ret, allOb, rvOut, convB, convBs, convC, convR, conv, unD, Nat.reduceAdd, Nat.reduceSub, Nat.reduceMul, Nat.reduceLeDiff, Nat.reduceEqDiff, Nat.reduceLT, Nat.reduceBEq, reduceIte, reduceCtorEq, Int.reduceToNat, fnV, argsV, touchO, evO, bareI, Nat.reduceShiftRight, Nat.reduceAnd, Nat.reduceBneDiff, Nat.reduceBNe]
  refine .seq (.seq (Rw.walk ?_))
  simp only [wk0, wk1, wk2, wk3, wk4, wk5, wk6, wk7, wk8, wk9, wk10, Rw_op, Rw_opg, RwD_op, RwD_opg, Bool.cond_true, Bool.cond_false, if_true, if_false, implies_true, forall_const, eq_self, ne_eq, forall_eq, forall_eq', forall_eq_or_imp, exists_eq', bne_self_eq_false, dchk, meets, touchS, touchI, quietI, allocI, isCall, idsV, ch0, Nat.testBit, semI, binS, unS, nilS, aggS, eqLs, eqL, evT, evS, stripV, gOk, gAll, opsOf, boolV, apG, numd, prL, cellsV, isB, out1, fail, fillOb, fillL, replaceAt, rowsV, newV, boundV, intV, lcOf, lcA, scA, Va.bo, Va.i, Va.st, Ret, allOb, rvOut, convB, convBs, convC, convR, conv, unD, Nat.reduceAdd, Nat.reduceSub, Nat.reduceMul, Nat.reduceLeDiff, Nat.reduceEqDiff, Nat.reduceLT, Nat.reduceBEq, reduceIte, reduceCtorEq, Int.reduceToNat, fnV, argsV, touchO, evO, bareI, Nat.reduceShiftRight, Nat.reduceAnd, Nat.reduceBneDiff, Nat.reduceBNe, c24r2]
  refine .blk ?_
  refine W.loops (ι := { p : Nat × List (List UInt8) // p.1 ≤ t.length ∧ p.2.length = s.length ∧ (∀ x, x ∈ p.2 → x.length = 128) ∧ endsL f s t 0 = endsL f p.2 (t.drop p.1) p.1 }) (fun p => ⟨lkT [(1, .b (.s (.d (.clo fid caps)))), (4, .b (.s (.ptr 4 1 0 0))), (5, .b (.s (.own 11 s.length))), (13, .b (.s (.d (.sl (t.map encW))))), (14, .i .i64 t.length), (15, .i .i64 p.val.1)], lkG [(11, ⟨1, (p.val.2.map encS).map (fun r => r.map Lc.d), false⟩), (4, ⟨2, [[.nils, .nils]], false⟩)]⟩) (fun p => t.length - p.val.1) ⟨(0, s), by omega, rfl, hsl, rfl⟩ ?_ ?_
  · refine Imp.lk _ _ ?_ ?_ ?_ ?_
    all_goals
      simp only [wk0, wk1, wk2, wk3, wk4, wk5, wk6, wk7, wk8, wk9, wk10, Rw_op, Rw_opg, RwD_op, RwD_opg, Bool.cond_true, Bool.cond_false, if_true, if_false, implies_true, forall_const, eq_self, ne_eq, forall_eq, forall_eq', forall_eq_or_imp, exists_eq', bne_self_eq_false, dchk, meets, touchS, touchI, quietI, allocI, isCall, idsV, ch0, Nat.testBit, semI, binS, unS, nilS, aggS, eqLs, eqL, evT, evS, stripV, gOk, gAll, opsOf, boolV, apG, numd, prL, cellsV, isB, out1, fail, fillOb, fillL, replaceAt, rowsV, newV, boundV, intV, lcOf, lcA, scA, Va.bo, Va.i, Va.st, Ret, allOb, rvOut, convB, convBs, convC, convR, conv, unD, Nat.reduceAdd, Nat.reduceSub, Nat.reduceMul, Nat.reduceLeDiff, Nat.reduceEqDiff, Nat.reduceLT, Nat.reduceBEq, reduceIte, reduceCtorEq, Int.reduceToNat, fnV, argsV, touchO, evO, bareI, Nat.reduceShiftRight, Nat.reduceAnd, Nat.reduceBneDiff, Nat.reduceBNe, allT, allE, refsV, refsIn, refsC, Int.ofNat_zero, Int.natCast_zero]
  · intro ⟨⟨i, l⟩, hi, hll, hl, hinv⟩ ih
    simp only at hi hll hl hinv
    unfold c24l12
    refine .seq (Rw.walk ?_)
    simp only [wk0, wk1, wk2, wk3, wk4, wk5, wk6, wk7, wk8, wk9, wk10, Rw_op, Rw_opg, RwD_op, RwD_opg, Bool.cond_true, Bool.cond_false, if_true, if_false, implies_true, forall_const, eq_self, ne_eq, forall_eq, forall_eq', forall_eq_or_imp, exists_eq', bne_self_eq_false, dchk, meets, touchS, touchI, quietI, allocI, isCall, idsV, ch0, Nat.testBit, semI, binS, unS, nilS, aggS, eqLs, eqL, evT, evS, stripV, gOk, gAll, opsOf, boolV, apG, numd, prL, cellsV, isB, out1, fail, fillOb, fillL, replaceAt, rowsV, newV, boundV, intV, lcOf, lcA, scA, Va.bo, Va.i, Va.st, Ret, allOb, rvOut, convB, convBs, convC, convR, conv, unD, Nat.reduceAdd, Nat.reduceSub, Nat.reduceMul, Nat.reduceLeDiff, Nat.reduceEqDiff, Nat.reduceLT, Nat.reduceBEq, reduceIte, reduceCtorEq, Int.reduceToNat, fnV, argsV, touchO, evO, bareI, Nat.reduceShiftRight, Nat.reduceAnd, Nat.reduceBneDiff, Nat.reduceBNe, c24r3]
    by_cases hlt : i < t.length
    · refine .seq (.cond rfl (fun h => ?_) (fun h => absurd h (by simp; omega)))
      refine .skip ?_
      refine .seq (.blk ?_)
      have hd : t.drop i = t.getD i (0, []) :: t.drop (i + 1) := by
        rw [List.drop_eq_getElem_cons hlt]; simp [List.getD, List.getElem?_eq_getElem hlt]
      have hw : t.getD i (0, []) ∈ t := by
        simp [List.getD, List.getElem?_eq_getElem hlt]
      rw [hd, endsL] at hinv
      have hrow := getD_map encW t i (0, []) [] hlt
      revert hw hrow hinv
      generalize t.getD i (0, []) = w
      intro hinv hw hrow
      obtain ⟨hw0, hw1, hw2⟩ := htl w hw
      obtain ⟨wa, wd⟩ := w
      simp only [encW] at hrow hw0 hw1 hw2
      refine .seq (Rw.walk ?_)
      simp only [wk0, wk1, wk2, wk3, wk4, wk5, wk6, wk7, wk8, wk9, wk10, Rw_op, Rw_opg, RwD_op, RwD_opg, Bool.cond_true, Bool.cond_false, if_true, if_false, implies_true, forall_const, eq_self, ne_eq, forall_eq, forall_eq', forall_eq_or_imp, exists_eq', bne_self_eq_false, dchk, meets, touchS, touchI, quietI, allocI, isCall, idsV, ch0, Nat.testBit, semI, binS, unS, nilS, aggS, eqLs, eqL, evT, evS, stripV, gOk, gAll, opsOf, boolV, apG, numd, prL, cellsV, isB, out1, fail, fillOb, fillL, replaceAt, rowsV, newV, boundV, intV, lcOf, lcA, scA, Va.bo, Va.i, Va.st, Ret, allOb, rvOut, convB, convBs, convC, convR, conv, unD, Nat.reduceAdd, Nat.reduceSub, Nat.reduceMul, Nat.reduceLeDiff, Nat.reduceEqDiff, Nat.reduceLT, Nat.reduceBEq, reduceIte, reduceCtorEq, Int.reduceToNat, fnV, argsV, touchO, evO, bareI, Nat.reduceShiftRight, Nat.reduceAnd, Nat.reduceBneDiff, Nat.reduceBNe, c24r4, hrow]
      refine ⟨⟨by omega, by omega, encW_len t⟩, ?_⟩
      refine .seq (Rw.walk ?_)
      simp only [wk0, wk1, wk2, wk3, wk4, wk5, wk6, wk7, wk8, wk9, wk10, Rw_op, Rw_opg, RwD_op, RwD_opg, Bool.cond_true, Bool.cond_false, if_true, if_false, implies_true, forall_const, eq_self, ne_eq, forall_eq, forall_eq', forall_eq_or_imp, exists_eq', bne_self_eq_false, dchk, meets, touchS, touchI, quietI, allocI, isCall, idsV, ch0, Nat.testBit, semI, binS, unS, nilS, aggS, eqLs, eqL, evT, evS, stripV, gOk, gAll, opsOf, boolV, apG, numd, prL, cellsV, isB, out1, fail, fillOb, fillL, replaceAt, rowsV, newV, boundV, intV, lcOf, lcA, scA, Va.bo, Va.i, Va.st, Ret, allOb, rvOut, convB, convBs, convC, convR, conv, unD, Nat.reduceAdd, Nat.reduceSub, Nat.reduceMul, Nat.reduceLeDiff, Nat.reduceEqDiff, Nat.reduceLT, Nat.reduceBEq, reduceIte, reduceCtorEq, Int.reduceToNat, fnV, argsV, touchO, evO, bareI, Nat.reduceShiftRight, Nat.reduceAnd, Nat.reduceBneDiff, Nat.reduceBNe, c24r5]
      refine .seq (Rw.walk ?_)
      simp only [wk0, wk1, wk2, wk3, wk4, wk5, wk6, wk7, wk8, wk9, wk10, Rw_op, Rw_opg, RwD_op, RwD_opg, Bool.cond_true, Bool.cond_false, if_true, if_false, implies_true, forall_const, eq_self, ne_eq, forall_eq, forall_eq', forall_eq_or_imp, exists_eq', bne_self_eq_false, dchk, meets, touchS, touchI, quietI, allocI, isCall, idsV, ch0, Nat.testBit, semI, binS, unS, nilS, aggS, eqLs, eqL, evT, evS, stripV, gOk, gAll, opsOf, boolV, apG, numd, prL, cellsV, isB, out1, fail, fillOb, fillL, replaceAt, rowsV, newV, boundV, intV, lcOf, lcA, scA, Va.bo, Va.i, Va.st, Ret, allOb, rvOut, convB, convBs, convC, convR, conv, unD, Nat.reduceAdd, Nat.reduceSub, Nat.reduceMul, Nat.reduceLeDiff, Nat.reduceEqDiff, Nat.reduceLT, Nat.reduceBEq, reduceIte, reduceCtorEq, Int.reduceToNat, fnV, argsV, touchO, evO, bareI, Nat.reduceShiftRight, Nat.reduceAnd, Nat.reduceBneDiff, Nat.reduceBNe, c24r6]
      refine call_fun [] false ⟨trivial, trivial, trivial⟩ rfl ?_ (hf i (by omega) (by omega)) (fun _ => rfl) (by simp) ?_
      · simp only [wk0, wk1, wk2, wk3, wk4, wk5, wk6, wk7, wk8, wk9, wk10, Rw_op, Rw_opg, RwD_op, RwD_opg, Bool.cond_true, Bool.cond_false, if_true, if_false, implies_true, forall_const, eq_self, ne_eq, forall_eq, forall_eq', forall_eq_or_imp, exists_eq', bne_self_eq_false, dchk, meets, touchS, touchI, quietI, allocI, isCall, idsV, ch0, Nat.testBit, semI, binS, unS, nilS, aggS, eqLs, eqL, evT, evS, stripV, gOk, gAll, opsOf, boolV, apG, numd, prL, cellsV, isB, out1, fail, fillOb, fillL, replaceAt, rowsV, newV, boundV, intV, lcOf, lcA, scA, Va.bo, Va.i, Va.st, Ret, allOb, rvOut, convB, convBs, convC, convR, conv, unD, Nat.reduceAdd, Nat.reduceSub, Nat.reduceMul, Nat.reduceLeDiff, Nat.reduceEqDiff, Nat.reduceLT, Nat.reduceBEq, reduceIte, reduceCtorEq, Int.reduceToNat, fnV, argsV, touchO, evO, bareI, Nat.reduceShiftRight, Nat.reduceAnd, Nat.reduceBneDiff, Nat.reduceBNe]
      simp only [wk0, wk1, wk2, wk3, wk4, wk5, wk6, wk7, wk8, wk9, wk10, Rw_op, Rw_opg, RwD_op, RwD_opg, Bool.cond_true, Bool.cond_false, if_true, if_false, implies_true, forall_const, eq_self, ne_eq, forall_eq, forall_eq', forall_eq_or_imp, exists_eq', bne_self_eq_false, dchk, meets, touchS, touchI, quietI, allocI, isCall, idsV, ch0, Nat.testBit, semI, binS, unS, nilS, aggS, eqLs, eqL, evT, evS, stripV, gOk, gAll, opsOf, boolV, apG, numd, prL, cellsV, isB, out1, fail, fillOb, fillL, replaceAt, rowsV, newV, boundV, intV, lcOf, lcA, scA, Va.bo, Va.i, Va.st, Ret, allOb, rvOut, convB, convBs, convC, convR, conv, unD, Nat.reduceAdd, Nat.reduceSub, Nat.reduceMul, Nat.reduceLeDiff, Nat.reduceEqDiff, Nat.reduceLT, Nat.reduceBEq, reduceIte, reduceCtorEq, Int.reduceToNat, fnV, argsV, touchO, evO, bareI, Nat.reduceShiftRight, Nat.reduceAnd, Nat.reduceBneDiff, Nat.reduceBNe]
      refine .blk ?_
      refine .seq (.blk ?_)
      refine .seq (.blk ?_)
      refine .seq (.seq (.seq (Rw.walk ?_)))
      simp only [wk0, wk1, wk2, wk3, wk4, wk5, wk6, wk7, wk8, wk9, wk10, Rw_op, Rw_opg, RwD_op, RwD_opg, Bool.cond_true, Bool.cond_false, if_true, if_false, implies_true, forall_const, eq_self, ne_eq, forall_eq, forall_eq', forall_eq_or_imp, exists_eq', bne_self_eq_false, dchk, meets, touchS, touchI, quietI, allocI, isCall, idsV, ch0, Nat.testBit, semI, binS, unS, nilS, aggS, eqLs, eqL, evT, evS, stripV, gOk, gAll, opsOf, boolV, apG, numd, prL, cellsV, isB, out1, fail, fillOb, fillL, replaceAt, rowsV, newV, boundV, intV, lcOf, lcA, scA, Va.bo, Va.i, Va.st, Ret, allOb, rvOut, convB, convBs, convC, convR, conv, unD, Nat.reduceAdd, Nat.reduceSub, Nat.reduceMul, Nat.reduceLeDiff, Nat.reduceEqDiff, Nat.reduceLT, Nat.reduceBEq, reduceIte, reduceCtorEq, Int.reduceToNat, fnV, argsV, touchO, evO, bareI, Nat.reduceShiftRight, Nat.reduceAnd, Nat.reduceBneDiff, Nat.reduceBNe, c24r7]
      have hat := own_at encS l wa.toNat [] (by omega)
      have hlw : (l.getD wa.toNat []).length = 128 := hl _ (getD_mem (by omega))
      refine .cond rfl (fun h => ?_) (fun h => ?_)
      · refine .exit rfl ?_
        refine Rw.walk ?_
        simp only [wk0, wk1, wk2, wk3, wk4, wk5, wk6, wk7, wk8, wk9, wk10, Rw_op, Rw_opg, RwD_op, RwD_opg, Bool.cond_true, Bool.cond_false, if_true, if_false, implies_true, forall_const, eq_self, ne_eq, forall_eq, forall_eq', forall_eq_or_imp, exists_eq', bne_self_eq_false, dchk, meets, touchS, touchI, quietI, allocI, isCall, idsV, ch0, Nat.testBit, semI, binS, unS, nilS, aggS, eqLs, eqL, evT, evS, stripV, gOk, gAll, opsOf, boolV, apG, numd, prL, cellsV, isB, out1, fail, fillOb, fillL, replaceAt, rowsV, newV, boundV, intV, lcOf, lcA, scA, Va.bo, Va.i, Va.st, Ret, allOb, rvOut, convB, convBs, convC, convR, conv, unD, Nat.reduceAdd, Nat.reduceSub, Nat.reduceMul, Nat.reduceLeDiff, Nat.reduceEqDiff, Nat.reduceLT, Nat.reduceBEq, reduceIte, reduceCtorEq, Int.reduceToNat, fnV, argsV, touchO, evO, bareI, Nat.reduceShiftRight, Nat.reduceAnd, Nat.reduceBneDiff, Nat.reduceBNe, c24r9, hat, hll, encS, hlw]
        refine ⟨⟨hw0, hw1⟩, ⟨by omega, by omega⟩, ?_⟩
        refine .eblk ?_
        rw [List.take_of_length_le (l := l.getD wa.toNat []) (by omega)]
        have hdl : (List.drop 64 (l.getD wa.toNat [])).length = 64 := by rw [List.length_drop]; omega
        have hwr : IntKind.i64.wrap (128 - ((64 : Nat) : Int)) = 64 := by decide
        have hwt : (List.take 64 wd).length = 64 := by rw [List.length_take]; omega
        refine .seq (RwD.walk ?_)
        simp only [wk0, wk1, wk2, wk3, wk4, wk5, wk6, wk7, wk8, wk9, wk10, Rw_op, Rw_opg, RwD_op, RwD_opg, Bool.cond_true, Bool.cond_false, if_true, if_false, implies_true, forall_const, eq_self, ne_eq, forall_eq, forall_eq', forall_eq_or_imp, exists_eq', bne_self_eq_false, dchk, meets, touchS, touchI, quietI, allocI, isCall, idsV, ch0, Nat.testBit, semI, binS, unS, nilS, aggS, eqLs, eqL, evT, evS, stripV, gOk, gAll, opsOf, boolV, apG, numd, prL, cellsV, isB, out1, fail, fillOb, fillL, replaceAt, rowsV, newV, boundV, intV, lcOf, lcA, scA, Va.bo, Va.i, Va.st, Ret, allOb, rvOut, convB, convBs, convC, convR, conv, unD, Nat.reduceAdd, Nat.reduceSub, Nat.reduceMul, Nat.reduceLeDiff, Nat.reduceEqDiff, Nat.reduceLT, Nat.reduceBEq, reduceIte, reduceCtorEq, Int.reduceToNat, fnV, argsV, touchO, evO, bareI, Nat.reduceShiftRight, Nat.reduceAnd, Nat.reduceBneDiff, Nat.reduceBNe, c24r10, hat, hll, encS, hlw, hdl, hwr, hwt, hw2]
        refine ⟨by omega, by omega, ⟨hw0, hw1⟩, ?_⟩
        refine .exit rfl ?_
        refine .eblk ?_
        refine Rw.walk ?_
        simp only [wk0, wk1, wk2, wk3, wk4, wk5, wk6, wk7, wk8, wk9, wk10, Rw_op, Rw_opg, RwD_op, RwD_opg, Bool.cond_true, Bool.cond_false, if_true, if_false, implies_true, forall_const, eq_self, ne_eq, forall_eq, forall_eq', forall_eq_or_imp, exists_eq', bne_self_eq_false, dchk, meets, touchS, touchI, quietI, allocI, isCall, idsV, ch0, Nat.testBit, semI, binS, unS, nilS, aggS, eqLs, eqL, evT, evS, stripV, gOk, gAll, opsOf, boolV, apG, numd, prL, cellsV, isB, out1, fail, fillOb, fillL, replaceAt, rowsV, newV, boundV, intV, lcOf, lcA, scA, Va.bo, Va.i, Va.st, Ret, allOb, rvOut, convB, convBs, convC, convR, conv, unD, Nat.reduceAdd, Nat.reduceSub, Nat.reduceMul, Nat.reduceLeDiff, Nat.reduceEqDiff, Nat.reduceLT, Nat.reduceBEq, reduceIte, reduceCtorEq, Int.reduceToNat, fnV, argsV, touchO, evO, bareI, Nat.reduceShiftRight, Nat.reduceAnd, Nat.reduceBneDiff, Nat.reduceBNe, c24r11]
        have hp : putL l (wa, wd) (f i) = l.set wa.toNat (wd.take 64 ++ (l.getD wa.toNat []).drop 64) := by rw [putL, if_pos (by simpa using h)]
        refine .weak ?_ (ih ⟨(i + 1, l.set wa.toNat (wd.take 64 ++ (l.getD wa.toNat []).drop 64)), by omega, by simpa using hll, set_all (p := fun x : List UInt8 => x.length = 128) _ _ hl (by rw [List.length_append, hwt, hdl]), by rw [hinv, hp]; rfl⟩ (by simp; omega))
        refine Imp.lk _ _ ?_ ?_ ?_ ?_
        all_goals
          simp only [wk0, wk1, wk2, wk3, wk4, wk5, wk6, wk7, wk8, wk9, wk10, Rw_op, Rw_opg, RwD_op, RwD_opg, Bool.cond_true, Bool.cond_false, if_true, if_false, implies_true, forall_const, eq_self, ne_eq, forall_eq, forall_eq', forall_eq_or_imp, exists_eq', bne_self_eq_false, dchk, meets, touchS, touchI, quietI, allocI, isCall, idsV, ch0, Nat.testBit, semI, binS, unS, nilS, aggS, eqLs, eqL, evT, evS, stripV, gOk, gAll, opsOf, boolV, apG, numd, prL, cellsV, isB, out1, fail, fillOb, fillL, replaceAt, rowsV, newV, boundV, intV, lcOf, lcA, scA, Va.bo, Va.i, Va.st, Ret, allOb, rvOut, convB, convBs, convC, convR, conv, unD, Nat.reduceAdd, Nat.reduceSub, Nat.reduceMul, Nat.reduceLeDiff, Nat.reduceEqDiff, Nat.reduceLT, Nat.reduceBEq, reduceIte, reduceCtorEq, Int.reduceToNat, fnV, argsV, touchO, evO, bareI, Nat.reduceShiftRight, Nat.reduceAnd, Nat.reduceBneDiff, Nat.reduceBNe, allT, allE, refsV, refsIn, refsC]
        · rw [i64_in (by omega) (by omega)]
          rfl
        · rw [← own_set]
          rfl
      · refine .skip ?_
        refine .seq (Rw.walk ?_)
        simp only [wk0, wk1, wk2, wk3, wk4, wk5, wk6, wk7, wk8, wk9, wk10, Rw_op, Rw_opg, RwD_op, RwD_opg, Bool.cond_true, Bool.cond_false, if_true, if_false, implies_true, forall_const, eq_self, ne_eq, forall_eq, forall_eq', forall_eq_or_imp, exists_eq', bne_self_eq_false, dchk, meets, touchS, touchI, quietI, allocI, isCall, idsV, ch0, Nat.testBit, semI, binS, unS, nilS, aggS, eqLs, eqL, evT, evS, stripV, gOk, gAll, opsOf, boolV, apG, numd, prL, cellsV, isB, out1, fail, fillOb, fillL, replaceAt, rowsV, newV, boundV, intV, lcOf, lcA, scA, Va.bo, Va.i, Va.st, Ret, allOb, rvOut, convB, convBs, convC, convR, conv, unD, Nat.reduceAdd, Nat.reduceSub, Nat.reduceMul, Nat.reduceLeDiff, Nat.reduceEqDiff, Nat.reduceLT, Nat.reduceBEq, reduceIte, reduceCtorEq, Int.reduceToNat, fnV, argsV, touchO, evO, bareI, Nat.reduceShiftRight, Nat.reduceAnd, Nat.reduceBneDiff, Nat.reduceBNe, c24r8]
        refine .cond rfl (fun h' => ?_) (fun h' => ?_)
        · refine .exit rfl ?_
          refine .seq (RwD.walk ?_)
          have hwr : IntKind.i64.wrap (128 - ((0 : Nat) : Int)) = 128 := by decide
          have hwt : List.take 128 wd = wd := List.take_of_length_le (by omega)
          simp only [wk0, wk1, wk2, wk3, wk4, wk5, wk6, wk7, wk8, wk9, wk10, Rw_op, Rw_opg, RwD_op, RwD_opg, Bool.cond_true, Bool.cond_false, if_true, if_false, implies_true, forall_const, eq_self, ne_eq, forall_eq, forall_eq', forall_eq_or_imp, exists_eq', bne_self_eq_false, dchk, meets, touchS, touchI, quietI, allocI, isCall, idsV, ch0, Nat.testBit, semI, binS, unS, nilS, aggS, eqLs, eqL, evT, evS, stripV, gOk, gAll, opsOf, boolV, apG, numd, prL, cellsV, isB, out1, fail, fillOb, fillL, replaceAt, rowsV, newV, boundV, intV, lcOf, lcA, scA, Va.bo, Va.i, Va.st, Ret, allOb, rvOut, convB, convBs, convC, convR, conv, unD, Nat.reduceAdd, Nat.reduceSub, Nat.reduceMul, Nat.reduceLeDiff, Nat.reduceEqDiff, Nat.reduceLT, Nat.reduceBEq, reduceIte, reduceCtorEq, Int.reduceToNat, fnV, argsV, touchO, evO, bareI, Nat.reduceShiftRight, Nat.reduceAnd, Nat.reduceBneDiff, Nat.reduceBNe, c24r10, hat, hll, encS, hlw, hwr, hwt, hw2]
          refine ⟨by omega, by omega, ⟨hw0, hw1⟩, ?_⟩
          refine .exit rfl ?_
          refine .eblk ?_
          refine Rw.walk ?_
          simp only [wk0, wk1, wk2, wk3, wk4, wk5, wk6, wk7, wk8, wk9, wk10, Rw_op, Rw_opg, RwD_op, RwD_opg, Bool.cond_true, Bool.cond_false, if_true, if_false, implies_true, forall_const, eq_self, ne_eq, forall_eq, forall_eq', forall_eq_or_imp, exists_eq', bne_self_eq_false, dchk, meets, touchS, touchI, quietI, allocI, isCall, idsV, ch0, Nat.testBit, semI, binS, unS, nilS, aggS, eqLs, eqL, evT, evS, stripV, gOk, gAll, opsOf, boolV, apG, numd, prL, cellsV, isB, out1, fail, fillOb, fillL, replaceAt, rowsV, newV, boundV, intV, lcOf, lcA, scA, Va.bo, Va.i, Va.st, Ret, allOb, rvOut, convB, convBs, convC, convR, conv, unD, Nat.reduceAdd, Nat.reduceSub, Nat.reduceMul, Nat.reduceLeDiff, Nat.reduceEqDiff, Nat.reduceLT, Nat.reduceBEq, reduceIte, reduceCtorEq, Int.reduceToNat, fnV, argsV, touchO, evO, bareI, Nat.reduceShiftRight, Nat.reduceAnd, Nat.reduceBneDiff, Nat.reduceBNe, c24r11]
          have hp : putL l (wa, wd) (f i) = l.set wa.toNat wd := by rw [putL, if_neg (by simpa using h), if_pos (by simpa using h')]
          refine .weak ?_ (ih ⟨(i + 1, l.set wa.toNat wd), by omega, by simpa using hll, set_all (p := fun x : List UInt8 => x.length = 128) _ _ hl hw2, by rw [hinv, hp]; rfl⟩ (by simp; omega))
          refine Imp.lk _ _ ?_ ?_ ?_ ?_
          all_goals
            simp only [wk0, wk1, wk2, wk3, wk4, wk5, wk6, wk7, wk8, wk9, wk10, Rw_op, Rw_opg, RwD_op, RwD_opg, Bool.cond_true, Bool.cond_false, if_true, if_false, implies_true, forall_const, eq_self, ne_eq, forall_eq, forall_eq', forall_eq_or_imp, exists_eq', bne_self_eq_false, dchk, meets, touchS, touchI, quietI, allocI, isCall, idsV, ch0, Nat.testBit, semI, binS, unS, nilS, aggS, eqLs, eqL, evT, evS, stripV, gOk, gAll, opsOf, boolV, apG, numd, prL, cellsV, isB, out1, fail, fillOb, fillL, replaceAt, rowsV, newV, boundV, intV, lcOf, lcA, scA, Va.bo, Va.i, Va.st, Ret, allOb, rvOut, convB, convBs, convC, convR, conv, unD, Nat.reduceAdd, Nat.reduceSub, Nat.reduceMul, Nat.reduceLeDiff, Nat.reduceEqDiff, Nat.reduceLT, Nat.reduceBEq, reduceIte, reduceCtorEq, Int.reduceToNat, fnV, argsV, touchO, evO, bareI, Nat.reduceShiftRight, Nat.reduceAnd, Nat.reduceBneDiff, Nat.reduceBNe, allT, allE, refsV, refsIn, refsC]
          · rw [i64_in (by omega) (by omega)]
            rfl
          · rw [← own_set]
            rfl
        · refine .skip ?_
          refine .exit rfl ?_
          refine .eblk ?_
          refine Rw.walk ?_
          simp only [wk0, wk1, wk2, wk3, wk4, wk5, wk6, wk7, wk8, wk9, wk10, Rw_op, Rw_opg, RwD_op, RwD_opg, Bool.cond_true, Bool.cond_false, if_true, if_false, implies_true, forall_const, eq_self, ne_eq, forall_eq, forall_eq', forall_eq_or_imp, exists_eq', bne_self_eq_false, dchk, meets, touchS, touchI, quietI, allocI, isCall, idsV, ch0, Nat.testBit, semI, binS, unS, nilS, aggS, eqLs, eqL, evT, evS, stripV, gOk, gAll, opsOf, boolV, apG, numd, prL, cellsV, isB, out1, fail, fillOb, fillL, replaceAt, rowsV, newV, boundV, intV, lcOf, lcA, scA, Va.bo, Va.i, Va.st, Ret, allOb, rvOut, convB, convBs, convC, convR, conv, unD, Nat.reduceAdd, Nat.reduceSub, Nat.reduceMul, Nat.reduceLeDiff, Nat.reduceEqDiff, Nat.reduceLT, Nat.reduceBEq, reduceIte, reduceCtorEq, Int.reduceToNat, fnV, argsV, touchO, evO, bareI, Nat.reduceShiftRight, Nat.reduceAnd, Nat.reduceBneDiff, Nat.reduceBNe, c24r11]
          refine .weak ?_ (ih ⟨(i + 1, l), by omega, hll, hl, by
            rw [hinv, putL, if_neg (by simpa using h), if_neg (by simpa using h')]
            rfl⟩ (by simp; omega))
          refine Imp.lk _ _ ?_ ?_ ?_ ?_
          all_goals
            simp only [wk0, wk1, wk2, wk3, wk4, wk5, wk6, wk7, wk8, wk9, wk10, Rw_op, Rw_opg, RwD_op, RwD_opg, Bool.cond_true, Bool.cond_false, if_true, if_false, implies_true, forall_const, eq_self, ne_eq, forall_eq, forall_eq', forall_eq_or_imp, exists_eq', bne_self_eq_false, dchk, meets, touchS, touchI, quietI, allocI, isCall, idsV, ch0, Nat.testBit, semI, binS, unS, nilS, aggS, eqLs, eqL, evT, evS, stripV, gOk, gAll, opsOf, boolV, apG, numd, prL, cellsV, isB, out1, fail, fillOb, fillL, replaceAt, rowsV, newV, boundV, intV, lcOf, lcA, scA, Va.bo, Va.i, Va.st, Ret, allOb, rvOut, convB, convBs, convC, convR, conv, unD, Nat.reduceAdd, Nat.reduceSub, Nat.reduceMul, Nat.reduceLeDiff, Nat.reduceEqDiff, Nat.reduceLT, Nat.reduceBEq, reduceIte, reduceCtorEq, Int.reduceToNat, fnV, argsV, touchO, evO, bareI, Nat.reduceShiftRight, Nat.reduceAnd, Nat.reduceBneDiff, Nat.reduceBNe, allT, allE, refsV, refsIn, refsC]
          rw [i64_in (by omega) (by omega)]
          rfl
    · refine .seq (.cond rfl (fun h => absurd h (by simp; omega)) (fun h => ?_))
      refine .exit rfl ?_
      refine .seq (Rw.walk ?_)
      simp only [wk0, wk1, wk2, wk3, wk4, wk5, wk6, wk7, wk8, wk9, wk10, Rw_op, Rw_opg, RwD_op, RwD_opg, Bool.cond_true, Bool.cond_false, if_true, if_false, implies_true, forall_const, eq_self, ne_eq, forall_eq, forall_eq', forall_eq_or_imp, exists_eq', bne_self_eq_false, dchk, meets, touchS, touchI, quietI, allocI, isCall, idsV, ch0, Nat.testBit, semI, binS, unS, nilS, aggS, eqLs, eqL, evT, evS, stripV, gOk, gAll, opsOf, boolV, apG, numd, prL, cellsV, isB, out1, fail, fillOb, fillL, replaceAt, rowsV, newV, boundV, intV, lcOf, lcA, scA, Va.bo, Va.i, Va.st, Ret, allOb, rvOut, convB, convBs, convC, convR, conv, unD, Nat.reduceAdd, Nat.reduceSub, Nat.reduceMul, Nat.reduceLeDiff, Nat.reduceEqDiff, Nat.reduceLT, Nat.reduceBEq, reduceIte, reduceCtorEq, Int.reduceToNat, fnV, argsV, touchO, evO, bareI, Nat.reduceShiftRight, Nat.reduceAnd, Nat.reduceBneDiff, Nat.reduceBNe, c24r12]
      refine .ret ?_
      have hdr : List.drop i t = [] := List.drop_of_length_le (by omega)
      rw [hinv, hdr]
      simp only [wk0, wk1, wk2, wk3, wk4, wk5, wk6, wk7, wk8, wk9, wk10, Rw_op, Rw_opg, RwD_op, RwD_opg, Bool.cond_true, Bool.cond_false, if_true, if_false, implies_true, forall_const, eq_self, ne_eq, forall_eq, forall_eq', forall_eq_or_imp, exists_eq', bne_self_eq_false, dchk, meets, touchS, touchI, quietI, allocI, isCall, idsV, ch0, Nat.testBit, semI, binS, unS, nilS, aggS, eqLs, eqL, evT, evS, stripV, gOk, gAll, opsOf, boolV, apG, numd, prL, cellsV, isB, out1, fail, fillOb, fillL, replaceAt, rowsV, newV, boundV, intV, lcOf, lcA, scA, Va.bo, Va.i, Va.st, Ret, allOb, rvOut, convB, convBs, convC, convR, conv, unD, Nat.reduceAdd, Nat.reduceSub, Nat.reduceMul, Nat.reduceLeDiff, Nat.reduceEqDiff, Nat.reduceLT, Nat.reduceBEq, reduceIte, reduceCtorEq, Int.reduceToNat, fnV, argsV, touchO, evO, bareI, Nat.reduceShiftRight, Nat.reduceAnd, Nat.reduceBneDiff, Nat.reduceBNe, rv24, hll, endsL]
def flushL (s : List (List UInt8)) (t : List SWr) : List (List UInt8) × Int := if rightL s t then (endsL (fun _ => 1) s t 0, 0) else ([], 1)
def fateL (l : List Int) (i : Int) : Int := if i ≥ l.length then 0 else l.getD i.toNat 0
def crashL (s : List (List UInt8)) (t : List SWr) (l : List Int) : List (List UInt8) × Int := if rightL s t then (endsL (fateL l) s t 0, 0) else ([], 1)
theorem disk_Crash (s : List (List UInt8)) (t : List SWr) (l : List Int) (hs : s.length ≤ 9223372036854775807) (ht : t.length ≤ 9223372036854775807) : Fun Try.prog gl0 13 [.b (aD s t), .b (.s (.d (.sl (l.map encI))))] (.tup [aD (crashL s t l).1 [], er (crashL s t l).2]) := by
  refine fun_walk [] Try.func13 Try.ntmps13 cc13 cr13 (by kernel_rfl) (by simp only [List.length_cons, List.length_nil]; decide) ?_
  simp only [wk0, wk1, wk2, wk3, wk4, wk5, wk6, wk7, wk8, wk9, wk10, Rw_op, Rw_opg, RwD_op, RwD_opg, Bool.cond_true, Bool.cond_false, if_true, if_false, implies_true, forall_const, eq_self, ne_eq, forall_eq, forall_eq', forall_eq_or_imp, exists_eq', bne_self_eq_false, dchk, meets, touchS, touchI, quietI, allocI, isCall, idsV, ch0, Nat.testBit, semI, binS, unS, nilS, aggS, eqLs, eqL, evT, evS, stripV, gOk, gAll, opsOf, boolV, apG, numd, prL, cellsV, isB, out1, fail, fillOb, fillL, replaceAt, rowsV, newV, boundV, intV, lcOf, lcA, scA, Va.bo, Va.i, Va.st, Ret, allOb, rvOut, convB, convBs, convC, convR, conv, unD, Nat.reduceAdd, Nat.reduceSub, Nat.reduceMul, Nat.reduceLeDiff, Nat.reduceEqDiff, Nat.reduceLT, Nat.reduceBEq, reduceIte, reduceCtorEq, Int.reduceToNat, fnV, argsV, touchO, evO, bareI, Nat.reduceShiftRight, Nat.reduceAnd, Nat.reduceBneDiff, Nat.reduceBNe, aD, encD]
  unfold c13
  refine .seq (Rw.walk ?_)
  simp only [wk0, wk1, wk2, wk3, wk4, wk5, wk6, wk7, wk8, wk9, wk10, Rw_op, Rw_opg, RwD_op, RwD_opg, Bool.cond_true, Bool.cond_false, if_true, if_false, implies_true, forall_const, eq_self, ne_eq, forall_eq, forall_eq', forall_eq_or_imp, exists_eq', bne_self_eq_false, dchk, meets, touchS, touchI, quietI, allocI, isCall, idsV, ch0, Nat.testBit, semI, binS, unS, nilS, aggS, eqLs, eqL, evT, evS, stripV, gOk, gAll, opsOf, boolV, apG, numd, prL, cellsV, isB, out1, fail, fillOb, fillL, replaceAt, rowsV, newV, boundV, intV, lcOf, lcA, scA, Va.bo, Va.i, Va.st, Ret, allOb, rvOut, convB, convBs, convC, convR, conv, unD, Nat.reduceAdd, Nat.reduceSub, Nat.reduceMul, Nat.reduceLeDiff, Nat.reduceEqDiff, Nat.reduceLT, Nat.reduceBEq, reduceIte, reduceCtorEq, Int.reduceToNat, fnV, argsV, touchO, evO, bareI, Nat.reduceShiftRight, Nat.reduceAnd, Nat.reduceBneDiff, Nat.reduceBNe, c13r0]
  refine .seq (.seq (Rw.walk ?_))
  simp only [wk0, wk1, wk2, wk3, wk4, wk5, wk6, wk7, wk8, wk9, wk10, Rw_op, Rw_opg, RwD_op, RwD_opg, Bool.cond_true, Bool.cond_false, if_true, if_false, implies_true, forall_const, eq_self, ne_eq, forall_eq, forall_eq', forall_eq_or_imp, exists_eq', bne_self_eq_false, dchk, meets, touchS, touchI, quietI, allocI, isCall, idsV, ch0, Nat.testBit, semI, binS, unS, nilS, aggS, eqLs, eqL, evT, evS, stripV, gOk, gAll, opsOf, boolV, apG, numd, prL, cellsV, isB, out1, fail, fillOb, fillL, replaceAt, rowsV, newV, boundV, intV, lcOf, lcA, scA, Va.bo, Va.i, Va.st, Ret, allOb, rvOut, convB, convBs, convC, convR, conv, unD, Nat.reduceAdd, Nat.reduceSub, Nat.reduceMul, Nat.reduceLeDiff, Nat.reduceEqDiff, Nat.reduceLT, Nat.reduceBEq, reduceIte, reduceCtorEq, Int.reduceToNat, fnV, argsV, touchO, evO, bareI, Nat.reduceShiftRight, Nat.reduceAnd, Nat.reduceBneDiff, Nat.reduceBNe, c13r1]
  refine call_fun [] false ⟨trivial, trivial, trivial⟩ rfl ?_ (disk_Right s t hs ht) (fun _ => rfl) (by simp) ?_
  · simp only [wk0, wk1, wk2, wk3, wk4, wk5, wk6, wk7, wk8, wk9, wk10, Rw_op, Rw_opg, RwD_op, RwD_opg, Bool.cond_true, Bool.cond_false, if_true, if_false, implies_true, forall_const, eq_self, ne_eq, forall_eq, forall_eq', forall_eq_or_imp, exists_eq', bne_self_eq_false, dchk, meets, touchS, touchI, quietI, allocI, isCall, idsV, ch0, Nat.testBit, semI, binS, unS, nilS, aggS, eqLs, eqL, evT, evS, stripV, gOk, gAll, opsOf, boolV, apG, numd, prL, cellsV, isB, out1, fail, fillOb, fillL, replaceAt, rowsV, newV, boundV, intV, lcOf, lcA, scA, Va.bo, Va.i, Va.st, Ret, allOb, rvOut, convB, convBs, convC, convR, conv, unD, Nat.reduceAdd, Nat.reduceSub, Nat.reduceMul, Nat.reduceLeDiff, Nat.reduceEqDiff, Nat.reduceLT, Nat.reduceBEq, reduceIte, reduceCtorEq, Int.reduceToNat, fnV, argsV, touchO, evO, bareI, Nat.reduceShiftRight, Nat.reduceAnd, Nat.reduceBneDiff, Nat.reduceBNe, encD]
  simp only [wk0, wk1, wk2, wk3, wk4, wk5, wk6, wk7, wk8, wk9, wk10, Rw_op, Rw_opg, RwD_op, RwD_opg, Bool.cond_true, Bool.cond_false, if_true, if_false, implies_true, forall_const, eq_self, ne_eq, forall_eq, forall_eq', forall_eq_or_imp, exists_eq', bne_self_eq_false, dchk, meets, touchS, touchI, quietI, allocI, isCall, idsV, ch0, Nat.testBit, semI, binS, unS, nilS, aggS, eqLs, eqL, evT, evS, stripV, gOk, gAll, opsOf, boolV, apG, numd, prL, cellsV, isB, out1, fail, fillOb, fillL, replaceAt, rowsV, newV, boundV, intV, lcOf, lcA, scA, Va.bo, Va.i, Va.st, Ret, allOb, rvOut, convB, convBs, convC, convR, conv, unD, Nat.reduceAdd, Nat.reduceSub, Nat.reduceMul, Nat.reduceLeDiff, Nat.reduceEqDiff, Nat.reduceLT, Nat.reduceBEq, reduceIte, reduceCtorEq, Int.reduceToNat, fnV, argsV, touchO, evO, bareI, Nat.reduceShiftRight, Nat.reduceAnd, Nat.reduceBneDiff, Nat.reduceBNe]
  refine .cond rfl (fun h => ?_) (fun h => ?_)
  · refine .seq (Rw.walk ?_)
    simp only [wk0, wk1, wk2, wk3, wk4, wk5, wk6, wk7, wk8, wk9, wk10, Rw_op, Rw_opg, RwD_op, RwD_opg, Bool.cond_true, Bool.cond_false, if_true, if_false, implies_true, forall_const, eq_self, ne_eq, forall_eq, forall_eq', forall_eq_or_imp, exists_eq', bne_self_eq_false, dchk, meets, touchS, touchI, quietI, allocI, isCall, idsV, ch0, Nat.testBit, semI, binS, unS, nilS, aggS, eqLs, eqL, evT, evS, stripV, gOk, gAll, opsOf, boolV, apG, numd, prL, cellsV, isB, out1, fail, fillOb, fillL, replaceAt, rowsV, newV, boundV, intV, lcOf, lcA, scA, Va.bo, Va.i, Va.st, Ret, allOb, rvOut, convB, convBs, convC, convR, conv, unD, Nat.reduceAdd, Nat.reduceSub, Nat.reduceMul, Nat.reduceLeDiff, Nat.reduceEqDiff, Nat.reduceLT, Nat.reduceBEq, reduceIte, reduceCtorEq, Int.reduceToNat, fnV, argsV, touchO, evO, bareI, Nat.reduceShiftRight, Nat.reduceAnd, Nat.reduceBneDiff, Nat.reduceBNe, c13r2]
    refine .ret ?_
    have hr : rightL s t = false := by simpa using h
    simp only [wk0, wk1, wk2, wk3, wk4, wk5, wk6, wk7, wk8, wk9, wk10, Rw_op, Rw_opg, RwD_op, RwD_opg, Bool.cond_true, Bool.cond_false, if_true, if_false, implies_true, forall_const, eq_self, ne_eq, forall_eq, forall_eq', forall_eq_or_imp, exists_eq', bne_self_eq_false, dchk, meets, touchS, touchI, quietI, allocI, isCall, idsV, ch0, Nat.testBit, semI, binS, unS, nilS, aggS, eqLs, eqL, evT, evS, stripV, gOk, gAll, opsOf, boolV, apG, numd, prL, cellsV, isB, out1, fail, fillOb, fillL, replaceAt, rowsV, newV, boundV, intV, lcOf, lcA, scA, Va.bo, Va.i, Va.st, Ret, allOb, rvOut, convB, convBs, convC, convR, conv, unD, Nat.reduceAdd, Nat.reduceSub, Nat.reduceMul, Nat.reduceLeDiff, Nat.reduceEqDiff, Nat.reduceLT, Nat.reduceBEq, reduceIte, reduceCtorEq, Int.reduceToNat, fnV, argsV, touchO, evO, bareI, Nat.reduceShiftRight, Nat.reduceAnd, Nat.reduceBneDiff, Nat.reduceBNe, rv13, crashL, hr, er]
  · refine .skip ?_
    refine .seq (Rw.walk ?_)
    simp only [wk0, wk1, wk2, wk3, wk4, wk5, wk6, wk7, wk8, wk9, wk10, Rw_op, Rw_opg, RwD_op, RwD_opg, Bool.cond_true, Bool.cond_false, if_true, if_false, implies_true, forall_const, eq_self, ne_eq, forall_eq, forall_eq', forall_eq_or_imp, exists_eq', bne_self_eq_false, dchk, meets, touchS, touchI, quietI, allocI, isCall, idsV, ch0, Nat.testBit, semI, binS, unS, nilS, aggS, eqLs, eqL, evT, evS, stripV, gOk, gAll, opsOf, boolV, apG, numd, prL, cellsV, isB, out1, fail, fillOb, fillL, replaceAt, rowsV, newV, boundV, intV, lcOf, lcA, scA, Va.bo, Va.i, Va.st, Ret, allOb, rvOut, convB, convBs, convC, convR, conv, unD, Nat.reduceAdd, Nat.reduceSub, Nat.reduceMul, Nat.reduceLeDiff, Nat.reduceEqDiff, Nat.reduceLT, Nat.reduceBEq, reduceIte, reduceCtorEq, Int.reduceToNat, fnV, argsV, touchO, evO, bareI, Nat.reduceShiftRight, Nat.reduceAnd, Nat.reduceBneDiff, Nat.reduceBNe, c13r3]
    have hr : rightL s t = true := by simpa using h
    refine call_fun [3] true ⟨trivial, trivial, trivial, trivial⟩ rfl ?_ (disk_ends s t 25 [.ref [.sl (l.map encI)] 0] (fateL l) hr (fun i h0 _ => crash_1 i l h0)) (fun h => by cases h) ?_ ?_
    · simp only [wk0, wk1, wk2, wk3, wk4, wk5, wk6, wk7, wk8, wk9, wk10, Rw_op, Rw_opg, RwD_op, RwD_opg, Bool.cond_true, Bool.cond_false, if_true, if_false, implies_true, forall_const, eq_self, ne_eq, forall_eq, forall_eq', forall_eq_or_imp, exists_eq', bne_self_eq_false, dchk, meets, touchS, touchI, quietI, allocI, isCall, idsV, ch0, Nat.testBit, semI, binS, unS, nilS, aggS, eqLs, eqL, evT, evS, stripV, gOk, gAll, opsOf, boolV, apG, numd, prL, cellsV, isB, out1, fail, fillOb, fillL, replaceAt, rowsV, newV, boundV, intV, lcOf, lcA, scA, Va.bo, Va.i, Va.st, Ret, allOb, rvOut, convB, convBs, convC, convR, conv, unD, Nat.reduceAdd, Nat.reduceSub, Nat.reduceMul, Nat.reduceLeDiff, Nat.reduceEqDiff, Nat.reduceLT, Nat.reduceBEq, reduceIte, reduceCtorEq, Int.reduceToNat, fnV, argsV, touchO, evO, bareI, Nat.reduceShiftRight, Nat.reduceAnd, Nat.reduceBneDiff, Nat.reduceBNe, aD, encD]
    · simp only [wk0, wk1, wk2, wk3, wk4, wk5, wk6, wk7, wk8, wk9, wk10, Rw_op, Rw_opg, RwD_op, RwD_opg, Bool.cond_true, Bool.cond_false, if_true, if_false, implies_true, forall_const, eq_self, ne_eq, forall_eq, forall_eq', forall_eq_or_imp, exists_eq', bne_self_eq_false, dchk, meets, touchS, touchI, quietI, allocI, isCall, idsV, ch0, Nat.testBit, semI, binS, unS, nilS, aggS, eqLs, eqL, evT, evS, stripV, gOk, gAll, opsOf, boolV, apG, numd, prL, cellsV, isB, out1, fail, fillOb, fillL, replaceAt, rowsV, newV, boundV, intV, lcOf, lcA, scA, Va.bo, Va.i, Va.st, Ret, allOb, rvOut, convB, convBs, convC, convR, conv, unD, Nat.reduceAdd, Nat.reduceSub, Nat.reduceMul, Nat.reduceLeDiff, Nat.reduceEqDiff, Nat.reduceLT, Nat.reduceBEq, reduceIte, reduceCtorEq, Int.reduceToNat, fnV, argsV, touchO, evO, bareI, Nat.reduceShiftRight, Nat.reduceAnd, Nat.reduceBneDiff, Nat.reduceBNe]
    simp only [wk0, wk1, wk2, wk3, wk4, wk5, wk6, wk7, wk8, wk9, wk10, Rw_op, Rw_opg, RwD_op, RwD_opg, Bool.cond_true, Bool.cond_false, if_true, if_false, implies_true, forall_const, eq_self, ne_eq, forall_eq, forall_eq', forall_eq_or_imp, exists_eq', bne_self_eq_false, dchk, meets, touchS, touchI, quietI, allocI, isCall, idsV, ch0, Nat.testBit, semI, binS, unS, nilS, aggS, eqLs, eqL, evT, evS, stripV, gOk, gAll, opsOf, boolV, apG, numd, prL, cellsV, isB, out1, fail, fillOb, fillL, replaceAt, rowsV, newV, boundV, intV, lcOf, lcA, scA, Va.bo, Va.i, Va.st, Ret, allOb, rvOut, convB, convBs, convC, convR, conv, unD, Nat.reduceAdd, Nat.reduceSub, Nat.reduceMul, Nat.reduceLeDiff, Nat.reduceEqDiff, Nat.reduceLT, Nat.reduceBEq, reduceIte, reduceCtorEq, Int.reduceToNat, fnV, argsV, touchO, evO, bareI, Nat.reduceShiftRight, Nat.reduceAnd, Nat.reduceBneDiff, Nat.reduceBNe, frz, aD, encD]
    refine .ret ?_
    simp only [wk0, wk1, wk2, wk3, wk4, wk5, wk6, wk7, wk8, wk9, wk10, Rw_op, Rw_opg, RwD_op, RwD_opg, Bool.cond_true, Bool.cond_false, if_true, if_false, implies_true, forall_const, eq_self, ne_eq, forall_eq, forall_eq', forall_eq_or_imp, exists_eq', bne_self_eq_false, dchk, meets, touchS, touchI, quietI, allocI, isCall, idsV, ch0, Nat.testBit, semI, binS, unS, nilS, aggS, eqLs, eqL, evT, evS, stripV, gOk, gAll, opsOf, boolV, apG, numd, prL, cellsV, isB, out1, fail, fillOb, fillL, replaceAt, rowsV, newV, boundV, intV, lcOf, lcA, scA, Va.bo, Va.i, Va.st, Ret, allOb, rvOut, convB, convBs, convC, convR, conv, unD, Nat.reduceAdd, Nat.reduceSub, Nat.reduceMul, Nat.reduceLeDiff, Nat.reduceEqDiff, Nat.reduceLT, Nat.reduceBEq, reduceIte, reduceCtorEq, Int.reduceToNat, fnV, argsV, touchO, evO, bareI, Nat.reduceShiftRight, Nat.reduceAnd, Nat.reduceBneDiff, Nat.reduceBNe, rv13, crashL, hr, er, aD, encD]
theorem disk_Flush (s : List (List UInt8)) (t : List SWr) (hs : s.length ≤ 9223372036854775807) (ht : t.length ≤ 9223372036854775807) : Fun Try.prog gl0 15 [.b (aD s t)] (.tup [aD (flushL s t).1 [], er (flushL s t).2]) := by
  refine fun_walk [] Try.func15 Try.ntmps15 cc15 cr15 (by kernel_rfl) (by simp only [List.length_cons, List.length_nil]; decide) ?_
  simp only [wk0, wk1, wk2, wk3, wk4, wk5, wk6, wk7, wk8, wk9, wk10, Rw_op, Rw_opg, RwD_op, RwD_opg, Bool.cond_true, Bool.cond_false, if_true, if_false, implies_true, forall_const, eq_self, ne_eq, forall_eq, forall_eq', forall_eq_or_imp, exists_eq', bne_self_eq_false, dchk, meets, touchS, touchI, quietI, allocI, isCall, idsV, ch0, Nat.testBit, semI, binS, unS, nilS, aggS, eqLs, eqL, evT, evS, stripV, gOk, gAll, opsOf, boolV, apG, numd, prL, cellsV, isB, out1, fail, fillOb, fillL, replaceAt, rowsV, newV, boundV, intV, lcOf, lcA, scA, Va.bo, Va.i, Va.st, Ret, allOb, rvOut, convB, convBs, convC, convR, conv, unD, Nat.reduceAdd, Nat.reduceSub, Nat.reduceMul, Nat.reduceLeDiff, Nat.reduceEqDiff, Nat.reduceLT, Nat.reduceBEq, reduceIte, reduceCtorEq, Int.reduceToNat, fnV, argsV, touchO, evO, bareI, Nat.reduceShiftRight, Nat.reduceAnd, Nat.reduceBneDiff, Nat.reduceBNe, aD, encD]
  unfold c15
  refine .seq (Rw.walk ?_)
  simp only [wk0, wk1, wk2, wk3, wk4, wk5, wk6, wk7, wk8, wk9, wk10, Rw_op, Rw_opg, RwD_op, RwD_opg, Bool.cond_true, Bool.cond_false, if_true, if_false, implies_true, forall_const, eq_self, ne_eq, forall_eq, forall_eq', forall_eq_or_imp, exists_eq', bne_self_eq_false, dchk, meets, touchS, touchI, quietI, allocI, isCall, idsV, ch0, Nat.testBit, semI, binS, unS, nilS, aggS, eqLs, eqL, evT, evS, stripV, gOk, gAll, opsOf, boolV, apG, numd, prL, cellsV, isB, out1, fail, fillOb, fillL, replaceAt, rowsV, newV, boundV, intV, lcOf, lcA, scA, Va.bo, Va.i, Va.st, Ret, allOb, rvOut, convB, convBs, convC, convR, conv, unD, Nat.reduceAdd, Nat.reduceSub, Nat.reduceMul, Nat.reduceLeDiff, Nat.reduceEqDiff, Nat.reduceLT, Nat.reduceBEq, reduceIte, reduceCtorEq, Int.reduceToNat, fnV, argsV, touchO, evO, bareI, Nat.reduceShiftRight, Nat.reduceAnd, Nat.reduceBneDiff, Nat.reduceBNe, c15r0]
  refine .seq (.seq (Rw.walk ?_))
  simp only [wk0, wk1, wk2, wk3, wk4, wk5, wk6, wk7, wk8, wk9, wk10, Rw_op, Rw_opg, RwD_op, RwD_opg, Bool.cond_true, Bool.cond_false, if_true, if_false, implies_true, forall_const, eq_self, ne_eq, forall_eq, forall_eq', forall_eq_or_imp, exists_eq', bne_self_eq_false, dchk, meets, touchS, touchI, quietI, allocI, isCall, idsV, ch0, Nat.testBit, semI, binS, unS, nilS, aggS, eqLs, eqL, evT, evS, stripV, gOk, gAll, opsOf, boolV, apG, numd, prL, cellsV, isB, out1, fail, fillOb, fillL, replaceAt, rowsV, newV, boundV, intV, lcOf, lcA, scA, Va.bo, Va.i, Va.st, Ret, allOb, rvOut, convB, convBs, convC, convR, conv, unD, Nat.reduceAdd, Nat.reduceSub, Nat.reduceMul, Nat.reduceLeDiff, Nat.reduceEqDiff, Nat.reduceLT, Nat.reduceBEq, reduceIte, reduceCtorEq, Int.reduceToNat, fnV, argsV, touchO, evO, bareI, Nat.reduceShiftRight, Nat.reduceAnd, Nat.reduceBneDiff, Nat.reduceBNe, c15r1]
  refine call_fun [] false ⟨trivial, trivial, trivial⟩ rfl ?_ (disk_Right s t hs ht) (fun _ => rfl) (by simp) ?_
  · simp only [wk0, wk1, wk2, wk3, wk4, wk5, wk6, wk7, wk8, wk9, wk10, Rw_op, Rw_opg, RwD_op, RwD_opg, Bool.cond_true, Bool.cond_false, if_true, if_false, implies_true, forall_const, eq_self, ne_eq, forall_eq, forall_eq', forall_eq_or_imp, exists_eq', bne_self_eq_false, dchk, meets, touchS, touchI, quietI, allocI, isCall, idsV, ch0, Nat.testBit, semI, binS, unS, nilS, aggS, eqLs, eqL, evT, evS, stripV, gOk, gAll, opsOf, boolV, apG, numd, prL, cellsV, isB, out1, fail, fillOb, fillL, replaceAt, rowsV, newV, boundV, intV, lcOf, lcA, scA, Va.bo, Va.i, Va.st, Ret, allOb, rvOut, convB, convBs, convC, convR, conv, unD, Nat.reduceAdd, Nat.reduceSub, Nat.reduceMul, Nat.reduceLeDiff, Nat.reduceEqDiff, Nat.reduceLT, Nat.reduceBEq, reduceIte, reduceCtorEq, Int.reduceToNat, fnV, argsV, touchO, evO, bareI, Nat.reduceShiftRight, Nat.reduceAnd, Nat.reduceBneDiff, Nat.reduceBNe, encD]
  simp only [wk0, wk1, wk2, wk3, wk4, wk5, wk6, wk7, wk8, wk9, wk10, Rw_op, Rw_opg, RwD_op, RwD_opg, Bool.cond_true, Bool.cond_false, if_true, if_false, implies_true, forall_const, eq_self, ne_eq, forall_eq, forall_eq', forall_eq_or_imp, exists_eq', bne_self_eq_false, dchk, meets, touchS, touchI, quietI, allocI, isCall, idsV, ch0, Nat.testBit, semI, binS, unS, nilS, aggS, eqLs, eqL, evT, evS, stripV, gOk, gAll, opsOf, boolV, apG, numd, prL, cellsV, isB, out1, fail, fillOb, fillL, replaceAt, rowsV, newV, boundV, intV, lcOf, lcA, scA, Va.bo, Va.i, Va.st, Ret, allOb, rvOut, convB, convBs, convC, convR, conv, unD, Nat.reduceAdd, Nat.reduceSub, Nat.reduceMul, Nat.reduceLeDiff, Nat.reduceEqDiff, Nat.reduceLT, Nat.reduceBEq, reduceIte, reduceCtorEq, Int.reduceToNat, fnV, argsV, touchO, evO, bareI, Nat.reduceShiftRight, Nat.reduceAnd, Nat.reduceBneDiff, Nat.reduceBNe]
  refine .cond rfl (fun h => ?_) (fun h => ?_)
  · refine .seq (Rw.walk ?_)
    simp only [wk0, wk1, wk2, wk3, wk4, wk5, wk6, wk7, wk8, wk9, wk10, Rw_op, Rw_opg, RwD_op, RwD_opg, Bool.cond_true, Bool.cond_false, if_true, if_false, implies_true, forall_const, eq_self, ne_eq, forall_eq, forall_eq', forall_eq_or_imp, exists_eq', bne_self_eq_false, dchk, meets, touchS, touchI, quietI, allocI, isCall, idsV, ch0, Nat.testBit, semI, binS, unS, nilS, aggS, eqLs, eqL, evT, evS, stripV, gOk, gAll, opsOf, boolV, apG, numd, prL, cellsV, isB, out1, fail, fillOb, fillL, replaceAt, rowsV, newV, boundV, intV, lcOf, lcA, scA, Va.bo, Va.i, Va.st, Ret, allOb, rvOut, convB, convBs, convC, convR, conv, unD, Nat.reduceAdd, Nat.reduceSub, Nat.reduceMul, Nat.reduceLeDiff, Nat.reduceEqDiff, Nat.reduceLT, Nat.reduceBEq, reduceIte, reduceCtorEq, Int.reduceToNat, fnV, argsV, touchO, evO, bareI, Nat.reduceShiftRight, Nat.reduceAnd, Nat.reduceBneDiff, Nat.reduceBNe, c15r2]
    refine .ret ?_
    have hr : rightL s t = false := by simpa using h
    simp only [wk0, wk1, wk2, wk3, wk4, wk5, wk6, wk7, wk8, wk9, wk10, Rw_op, Rw_opg, RwD_op, RwD_opg, Bool.cond_true, Bool.cond_false, if_true, if_false, implies_true, forall_const, eq_self, ne_eq, forall_eq, forall_eq', forall_eq_or_imp, exists_eq', bne_self_eq_false, dchk, meets, touchS, touchI, quietI, allocI, isCall, idsV, ch0, Nat.testBit, semI, binS, unS, nilS, aggS, eqLs, eqL, evT, evS, stripV, gOk, gAll, opsOf, boolV, apG, numd, prL, cellsV, isB, out1, fail, fillOb, fillL, replaceAt, rowsV, newV, boundV, intV, lcOf, lcA, scA, Va.bo, Va.i, Va.st, Ret, allOb, rvOut, convB, convBs, convC, convR, conv, unD, Nat.reduceAdd, Nat.reduceSub, Nat.reduceMul, Nat.reduceLeDiff, Nat.reduceEqDiff, Nat.reduceLT, Nat.reduceBEq, reduceIte, reduceCtorEq, Int.reduceToNat, fnV, argsV, touchO, evO, bareI, Nat.reduceShiftRight, Nat.reduceAnd, Nat.reduceBneDiff, Nat.reduceBNe, rv15, flushL, hr, er]
  · refine .skip ?_
    refine .seq (Rw.walk ?_)
    simp only [wk0, wk1, wk2, wk3, wk4, wk5, wk6, wk7, wk8, wk9, wk10, Rw_op, Rw_opg, RwD_op, RwD_opg, Bool.cond_true, Bool.cond_false, if_true, if_false, implies_true, forall_const, eq_self, ne_eq, forall_eq, forall_eq', forall_eq_or_imp, exists_eq', bne_self_eq_false, dchk, meets, touchS, touchI, quietI, allocI, isCall, idsV, ch0, Nat.testBit, semI, binS, unS, nilS, aggS, eqLs, eqL, evT, evS, stripV, gOk, gAll, opsOf, boolV, apG, numd, prL, cellsV, isB, out1, fail, fillOb, fillL, replaceAt, rowsV, newV, boundV, intV, lcOf, lcA, scA, Va.bo, Va.i, Va.st, Ret, allOb, rvOut, convB, convBs, convC, convR, conv, unD, Nat.reduceAdd, Nat.reduceSub, Nat.reduceMul, Nat.reduceLeDiff, Nat.reduceEqDiff, Nat.reduceLT, Nat.reduceBEq, reduceIte, reduceCtorEq, Int.reduceToNat, fnV, argsV, touchO, evO, bareI, Nat.reduceShiftRight, Nat.reduceAnd, Nat.reduceBneDiff, Nat.reduceBNe, c15r3]
    have hr : rightL s t = true := by simpa using h
    refine call_fun [] true ⟨trivial, trivial, trivial, trivial⟩ rfl ?_ (disk_ends s t 27 [] (fun _ => 1) hr (fun i h0 _ => flush_1 i)) (fun h => by cases h) (by simp) ?_
    · simp only [wk0, wk1, wk2, wk3, wk4, wk5, wk6, wk7, wk8, wk9, wk10, Rw_op, Rw_opg, RwD_op, RwD_opg, Bool.cond_true, Bool.cond_false, if_true, if_false, implies_true, forall_const, eq_self, ne_eq, forall_eq, forall_eq', forall_eq_or_imp, exists_eq', bne_self_eq_false, dchk, meets, touchS, touchI, quietI, allocI, isCall, idsV, ch0, Nat.testBit, semI, binS, unS, nilS, aggS, eqLs, eqL, evT, evS, stripV, gOk, gAll, opsOf, boolV, apG, numd, prL, cellsV, isB, out1, fail, fillOb, fillL, replaceAt, rowsV, newV, boundV, intV, lcOf, lcA, scA, Va.bo, Va.i, Va.st, Ret, allOb, rvOut, convB, convBs, convC, convR, conv, unD, Nat.reduceAdd, Nat.reduceSub, Nat.reduceMul, Nat.reduceLeDiff, Nat.reduceEqDiff, Nat.reduceLT, Nat.reduceBEq, reduceIte, reduceCtorEq, Int.reduceToNat, fnV, argsV, touchO, evO, bareI, Nat.reduceShiftRight, Nat.reduceAnd, Nat.reduceBneDiff, Nat.reduceBNe, aD, encD]
    simp only [wk0, wk1, wk2, wk3, wk4, wk5, wk6, wk7, wk8, wk9, wk10, Rw_op, Rw_opg, RwD_op, RwD_opg, Bool.cond_true, Bool.cond_false, if_true, if_false, implies_true, forall_const, eq_self, ne_eq, forall_eq, forall_eq', forall_eq_or_imp, exists_eq', bne_self_eq_false, dchk, meets, touchS, touchI, quietI, allocI, isCall, idsV, ch0, Nat.testBit, semI, binS, unS, nilS, aggS, eqLs, eqL, evT, evS, stripV, gOk, gAll, opsOf, boolV, apG, numd, prL, cellsV, isB, out1, fail, fillOb, fillL, replaceAt, rowsV, newV, boundV, intV, lcOf, lcA, scA, Va.bo, Va.i, Va.st, Ret, allOb, rvOut, convB, convBs, convC, convR, conv, unD, Nat.reduceAdd, Nat.reduceSub, Nat.reduceMul, Nat.reduceLeDiff, Nat.reduceEqDiff, Nat.reduceLT, Nat.reduceBEq, reduceIte, reduceCtorEq, Int.reduceToNat, fnV, argsV, touchO, evO, bareI, Nat.reduceShiftRight, Nat.reduceAnd, Nat.reduceBneDiff, Nat.reduceBNe, aD, encD]
    refine .ret ?_
    simp only [wk0, wk1, wk2, wk3, wk4, wk5, wk6, wk7, wk8, wk9, wk10, Rw_op, Rw_opg, RwD_op, RwD_opg, Bool.cond_true, Bool.cond_false, if_true, if_false, implies_true, forall_const, eq_self, ne_eq, forall_eq, forall_eq', forall_eq_or_imp, exists_eq', bne_self_eq_false, dchk, meets, touchS, touchI, quietI, allocI, isCall, idsV, ch0, Nat.testBit, semI, binS, unS, nilS, aggS, eqLs, eqL, evT, evS, stripV, gOk, gAll, opsOf, boolV, apG, numd, prL, cellsV, isB, out1, fail, fillOb, fillL, replaceAt, rowsV, newV, boundV, intV, lcOf, lcA, scA, Va.bo, Va.i, Va.st, Ret, allOb, rvOut, convB, convBs, convC, convR, conv, unD, Nat.reduceAdd, Nat.reduceSub, Nat.reduceMul, Nat.reduceLeDiff, Nat.reduceEqDiff, Nat.reduceLT, Nat.reduceBEq, reduceIte, reduceCtorEq, Int.reduceToNat, fnV, argsV, touchO, evO, bareI, Nat.reduceShiftRight, Nat.reduceAnd, Nat.reduceBneDiff, Nat.reduceBNe, rv15, flushL, hr, er, aD, encD]
end Go.Proofs.Ytjpomfbkfgkifaa.V
end

section
/- The document's functions of layer 9. -/
namespace Go.Proofs.Ytjpomfbkfgkifaa.V
open Go Go.RowKit
set_option linter.unusedVariables false
set_option linter.unusedSimpArgs false
def c20r0 : List Opn := [
  ⟨(some 4), none, .mv (.c (.s (.d (.bool false))))⟩]
def c20r1 : List Opn := [
  ⟨(some 7), none, .mv (.t 0)⟩, 
  ⟨(some 8), none, .len (.sl 0) (.t 7)⟩, 
  ⟨(some 9), none, .mv (.c (.s (.d (.int .i64 0))))⟩]
def c20r2 : List Opn := [
  ⟨(some 10), none, .bin .lss (.t 9) (.t 8)⟩]
def c20r3 : List Opn := [
  ⟨(some 11), none, .iadr (.sl 2) (.t 7) (.t 9)⟩, 
  ⟨(some 12), none, .load true 2 (.t 11)⟩, 
  ⟨(some 6), none, .new [(.d (.int .i64 0)), (.d (.str []))]⟩, 
  ⟨none, none, .store 2 (.t 6) (.t 12)⟩]
def c20r4 : List Opn := [
  ⟨(some 13), none, .fadr 0 (.t 6)⟩, 
  ⟨(some 14), none, .load false 1 (.t 13)⟩, 
  ⟨(some 15), none, .bin .lss (.t 14) (.c (.s (.d (.int .i64 0))))⟩, 
  ⟨(some 16), none, .mv (.t 15)⟩, 
  ⟨(some 17), some (16, false), .fadr 0 (.t 6)⟩, 
  ⟨(some 18), some (16, false), .load false 1 (.t 17)⟩, 
  ⟨(some 19), some (16, false), .mv (.t 1)⟩, 
  ⟨(some 20), some (16, false), .bin .geq (.t 18) (.t 19)⟩, 
  ⟨(some 21), none, .pick (.t 16) (.c (.s (.d (.bool true)))) (.t 20)⟩, 
  ⟨(some 22), none, .mv (.t 21)⟩, 
  ⟨(some 23), some (22, false), .fadr 1 (.t 6)⟩, 
  ⟨(some 24), some (22, false), .load false 1 (.t 23)⟩, 
  ⟨(some 25), some (22, false), .len .str (.t 24)⟩, 
  ⟨(some 26), some (22, false), .bin .neq (.t 25) (.c (.s (.d (.int .i64 128))))⟩, 
  ⟨(some 27), none, .pick (.t 22) (.c (.s (.d (.bool true)))) (.t 26)⟩]
def c20r5 : List Opn := [
  ⟨(some 4), none, .mv (.c (.s (.d (.bool false))))⟩]
def c20r6 : List Opn := [
  ⟨(some 28), none, .bin .add (.t 9) (.c (.s (.d (.int .i64 1))))⟩, 
  ⟨(some 9), none, .mv (.t 28)⟩]
def c20l7 : C := .seq (.reg c20r2 none [1, 7, 8, 9, 10]) (.seq (.cond (.t 10) (.skip) (.exit 0)) (.seq (.blk 1 (.seq (.reg c20r3 none [1, 6, 7, 8, 9]) (.seq (.reg c20r4 none [1, 7, 8, 9, 27]) (.cond (.t 27) (.seq (.reg c20r5 none [4]) (.ret)) (.skip))))) (.reg c20r6 none [1, 7, 8, 9])))
def c20r7 : List Opn := [
  ⟨(some 4), none, .mv (.c (.s (.d (.bool true))))⟩]
def c20 : C := .seq (.reg c20r0 none [0, 1]) (.seq (.seq (.reg c20r1 none [1, 7, 8, 9]) (.blk 0 (.loop c20l7))) (.seq (.reg c20r7 none [4]) (.ret)))
def k20 : List (Nat × List Nat) := [(7, [4]), (6, [1, 7, 8, 9]), (5, [4]), (4, [1, 7, 8, 9, 27]), (3, [1, 6, 7, 8, 9]), (2, [1, 7, 8, 9, 10]), (1, [1, 7, 8, 9]), (0, [0, 1])]
theorem cc20 : (Try.f20.body).bind (cC Try.prog 29 k20) = some c20 := by kernel_rfl
def rv20 : List RV := [.t 4]
theorem cr20 : cRVs Try.prog Try.f20.results.toList = some rv20 := by kernel_rfl
def c8r0 : List Opn := [
  ⟨(some 1), none, .box 2 (.t 0)⟩, 
  ⟨(some 2), none, .mv (.c (.s (.d (.bool false))))⟩]
def c8r1 : List Opn := [
  ⟨(some 5), none, .fadr 0 (.t 1)⟩, 
  ⟨(some 6), none, .load false 1 (.t 5)⟩, 
  ⟨(some 7), none, .len (.sl 0) (.t 6)⟩, 
  ⟨(some 8), none, .mv (.c (.s (.d (.int .i64 0))))⟩]
def c8r2 : List Opn := [
  ⟨(some 9), none, .bin .lss (.t 8) (.t 7)⟩]
def c8r3 : List Opn := [
  ⟨(some 10), none, .iadr (.sl 1) (.t 6) (.t 8)⟩, 
  ⟨(some 11), none, .load false 1 (.t 10)⟩, 
  ⟨(some 4), none, .mv (.t 11)⟩]
def c8r4 : List Opn := [
  ⟨(some 12), none, .mv (.t 4)⟩, 
  ⟨(some 13), none, .len .str (.t 12)⟩, 
  ⟨(some 14), none, .bin .neq (.t 13) (.c (.s (.d (.int .i64 128))))⟩]
def c8r5 : List Opn := [
  ⟨(some 2), none, .mv (.c (.s (.d (.bool false))))⟩]
def c8r6 : List Opn := [
  ⟨(some 15), none, .bin .add (.t 8) (.c (.s (.d (.int .i64 1))))⟩, 
  ⟨(some 8), none, .mv (.t 15)⟩]
def c8l7 : C := .seq (.reg c8r2 none [1, 6, 7, 8, 9]) (.seq (.cond (.t 9) (.skip) (.exit 0)) (.seq (.blk 1 (.seq (.reg c8r3 none [1, 4, 6, 7, 8]) (.seq (.reg c8r4 none [1, 6, 7, 8, 14]) (.cond (.t 14) (.seq (.reg c8r5 none [2]) (.ret)) (.skip))))) (.reg c8r6 none [1, 6, 7, 8])))
def c8r7 : List Opn := [
  ⟨(some 16), none, .fadr 0 (.t 1)⟩, 
  ⟨(some 17), none, .load false 1 (.t 16)⟩, 
  ⟨(some 18), none, .len (.sl 0) (.t 17)⟩, 
  ⟨(some 19), none, .bin .geq (.t 18) (.c (.s (.d (.int .i64 4))))⟩, 
  ⟨(some 20), none, .mv (.t 19)⟩, 
  ⟨(some 21), some (20, true), .fadr 0 (.t 1)⟩, 
  ⟨(some 22), some (20, true), .load false 1 (.t 21)⟩, 
  ⟨(some 23), some (20, true), .len (.sl 0) (.t 22)⟩, 
  ⟨(some 24), some (20, true), .bin .leq (.t 23) (.c (.s (.d (.int .i64 64))))⟩, 
  ⟨(some 25), none, .pick (.t 20) (.t 24) (.c (.s (.d (.bool false))))⟩, 
  ⟨(some 26), none, .mv (.t 25)⟩, 
  ⟨(some 27), some (26, true), .fadr 1 (.t 1)⟩, 
  ⟨(some 28), some (26, true), .load false 1 (.t 27)⟩, 
  ⟨(some 29), some (26, true), .len (.sl 0) (.t 28)⟩, 
  ⟨(some 30), some (26, true), .bin .leq (.t 29) (.c (.s (.d (.int .i64 200))))⟩, 
  ⟨(some 31), none, .pick (.t 26) (.t 30) (.c (.s (.d (.bool false))))⟩, 
  ⟨(some 32), none, .mv (.t 31)⟩, 
  ⟨(some 33), some (32, true), .fadr 1 (.t 1)⟩, 
  ⟨(some 34), some (32, true), .load false 1 (.t 33)⟩, 
  ⟨(some 35), some (32, true), .fadr 0 (.t 1)⟩, 
  ⟨(some 36), some (32, true), .load false 1 (.t 35)⟩, 
  ⟨(some 37), some (32, true), .len (.sl 0) (.t 36)⟩, 
  ⟨(some 38), some (32, true), .call (.fn 20) [(.t 34), (.t 37)]⟩, 
  ⟨(some 39), none, .pick (.t 32) (.t 38) (.c (.s (.d (.bool false))))⟩, 
  ⟨(some 2), none, .mv (.t 39)⟩]
def c8 : C := .seq (.reg c8r0 none [1]) (.seq (.seq (.reg c8r1 none [1, 6, 7, 8]) (.blk 0 (.loop c8l7))) (.seq (.reg c8r7 none [2]) (.ret)))
def k8 : List (Nat × List Nat) := [(7, [2]), (6, [1, 6, 7, 8]), (5, [2]), (4, [1, 6, 7, 8, 14]), (3, [1, 4, 6, 7, 8]), (2, [1, 6, 7, 8, 9]), (1, [1, 6, 7, 8]), (0, [1])]
theorem cc8 : (Try.f8.body).bind (cC Try.prog 40 k8) = some c8 := by kernel_rfl
def rv8 : List RV := [.t 2]
theorem cr8 : cRVs Try.prog Try.f8.results.toList = some rv8 := by kernel_rfl
theorem ref_Well (t : List SWr) (n : Int) (ht : t.length ≤ 9223372036854775807) : Fun Try.prog gl0 20 [.b (.s (.d (.sl (t.map encW)))), .i .i64 n] (.bo (wellL n t)) := by
  refine fun_walk [] Try.func20 Try.ntmps20 cc20 cr20 (by kernel_rfl) (by simp only [List.length_cons, List.length_nil]; decide) ?_
  simp only [wk0, wk1, wk2, wk3, wk4, wk5, wk6, wk7, wk8, wk9, wk10, Rw_op, Rw_opg, RwD_op, RwD_opg, Bool.cond_true, Bool.cond_false, if_true, if_false, implies_true, forall_const, eq_self, ne_eq, forall_eq, forall_eq', forall_eq_or_imp, exists_eq', bne_self_eq_false, dchk, meets, touchS, touchI, quietI, allocI, isCall, idsV, ch0, Nat.testBit, semI, binS, unS, nilS, aggS, eqLs, eqL, evT, evS, stripV, gOk, gAll, opsOf, boolV, apG, numd, prL, cellsV, isB, out1, fail, fillOb, fillL, replaceAt, rowsV, newV, boundV, intV, lcOf, lcA, scA, Va.bo, Va.i, Va.st, Ret, allOb, rvOut, convB, convBs, convC, convR, conv, unD, Nat.reduceAdd, Nat.reduceSub, Nat.reduceMul, Nat.reduceLeDiff, Nat.reduceEqDiff, Nat.reduceLT, Nat.reduceBEq, reduceIte, reduceCtorEq, Int.reduceToNat, fnV, argsV, touchO, evO, bareI, Nat.reduceShiftRight, Nat.reduceAnd, Nat.reduceBneDiff, Nat.reduceBNe]
  unfold c20
  refine .seq (Rw.walk ?_)
  simp only [wk0, wk1, wk2, wk3, wk4, wk5, wk6, wk7, wk8, wk9, wk10, Rw_op, Rw_opg, RwD_op, RwD_opg, Bool.cond_true, Bool.cond_false, if_true, if_false, implies_true, forall_const, eq_self, ne_eq, forall_eq, forall_eq', forall_eq_or_imp, exists_eq', bne_self_eq_false, dchk, meets, touchS, touchI, quietI, allocI, isCall, idsV, ch0, Nat.testBit, semI, binS, unS, nilS, aggS, eqLs, eqL, evT, evS, stripV, gOk, gAll, opsOf, boolV, apG, numd, prL, cellsV, isB, out1, fail, fillOb, fillL, replaceAt, rowsV, newV, boundV, intV, lcOf, lcA, scA, Va.bo, Va.i, Va.st, Ret, allOb, rvOut, convB, convBs, convC, convR, conv, unD, Nat.reduceAdd, Nat.reduceSub, Nat.reduceMul, Nat.reduceLeDiff, Nat.reduceEqDiff, Nat.reduceLT, Nat.reduceBEq, reduceIte, reduceCtorEq, Int.reduceToNat, fnV, argsV, touchO, evO, bareI, Nat.reduceShiftRight, Nat.reduceAnd, Nat.reduceBneDiff, Nat.reduceBNe, c20r0]
  refine .seq (.seq (Rw.walk ?_))
  simp only [wk0, wk1, wk2, wk3, wk4, wk5, wk6, wk7, wk8, wk9, wk10, Rw_op, Rw_opg, RwD_op, RwD_opg, Bool.cond_true, Bool.cond_false, if_true, if_false, implies_true, forall_const, eq_self, ne_eq, forall_eq, forall_eq', forall_eq_or_imp, exists_eq', bne_self_eq_false, dchk, meets, touchS, touchI, quietI, allocI, isCall, idsV, ch0, Nat.testBit, semI, binS, unS, nilS, aggS, eqLs, eqL, evT, evS, stripV, gOk, gAll, opsOf, boolV, apG, numd, prL, cellsV, isB, out1, fail, fillOb, fillL, replaceAt, rowsV, newV, boundV, intV, lcOf, lcA, scA, Va.bo, Va.i, Va.st, Ret, allOb, rvOut, convB, convBs, convC, convR, conv, unD, Nat.reduceAdd, Nat.reduceSub, Nat.reduceMul, Nat.reduceLeDiff, Nat.reduceEqDiff, Nat.reduceLT, Nat.reduceBEq, reduceIte, reduceCtorEq, Int.reduceToNat, fnV, argsV, touchO, evO, bareI, Nat.reduceShiftRight, Nat.reduceAnd, Nat.reduceBneDiff, Nat.reduceBNe, c20r1]
  refine .blk ?_
  refine W.loops (ι := { i : Nat // i ≤ t.length ∧ wellL n t = wellL n (t.drop i) }) (fun i => ⟨lkT [(1, .i .i64 n), (7, .b (.s (.d (.sl (t.map encW))))), (8, .i .i64 t.length), (9, .i .i64 i.val)], lkG []⟩) (fun i => t.length - i.val) ⟨0, by omega, rfl⟩ ?_ ?_
  · refine Imp.lk _ _ ?_ ?_ ?_ ?_
    all_goals
      simp only [wk0, wk1, wk2, wk3, wk4, wk5, wk6, wk7, wk8, wk9, wk10, Rw_op, Rw_opg, RwD_op, RwD_opg, Bool.cond_true, Bool.cond_false, if_true, if_false, implies_true, forall_const, eq_self, ne_eq, forall_eq, forall_eq', forall_eq_or_imp, exists_eq', bne_self_eq_false, dchk, meets, touchS, touchI, quietI, allocI, isCall, idsV, ch0, Nat.testBit, semI, binS, unS, nilS, aggS, eqLs, eqL, evT, evS, stripV, gOk, gAll, opsOf, boolV, apG, numd, prL, cellsV, isB, out1, fail, fillOb, fillL, replaceAt, rowsV, newV, boundV, intV, lcOf, lcA, scA, Va.bo, Va.i, Va.st, Ret, allOb, rvOut, convB, convBs, convC, convR, conv, unD, Nat.reduceAdd, Nat.reduceSub, Nat.reduceMul, Nat.reduceLeDiff, Nat.reduceEqDiff, Nat.reduceLT, Nat.reduceBEq, reduceIte, reduceCtorEq, Int.reduceToNat, fnV, argsV, touchO, evO, bareI, Nat.reduceShiftRight, Nat.reduceAnd, Nat.reduceBneDiff, Nat.reduceBNe, allT, allE, refsV, refsIn, refsC, Int.ofNat_zero, Int.natCast_zero]
  · intro ⟨i, hi, hinv⟩ ih
    unfold c20l7
    refine .seq (Rw.walk ?_)
    simp only [wk0, wk1, wk2, wk3, wk4, wk5, wk6, wk7, wk8, wk9, wk10, Rw_op, Rw_opg, RwD_op, RwD_opg, Bool.cond_true, Bool.cond_false, if_true, if_false, implies_true, forall_const, eq_self, ne_eq, forall_eq, forall_eq', forall_eq_or_imp, exists_eq', bne_self_eq_false, dchk, meets, touchS, touchI, quietI, allocI, isCall, idsV, ch0, Nat.testBit, semI, binS, unS, nilS, aggS, eqLs, eqL, evT, evS, stripV, gOk, gAll, opsOf, boolV, apG, numd, prL, cellsV, isB, out1, fail, fillOb, fillL, replaceAt, rowsV, newV, boundV, intV, lcOf, lcA, scA, Va.bo, Va.i, Va.st, Ret, allOb, rvOut, convB, convBs, convC, convR, conv, unD, Nat.reduceAdd, Nat.reduceSub, Nat.reduceMul, Nat.reduceLeDiff, Nat.reduceEqDiff, Nat.reduceLT, Nat.reduceBEq, reduceIte, reduceCtorEq, Int.reduceToNat, fnV, argsV, touchO, evO, bareI, Nat.reduceShiftRight, Nat.reduceAnd, Nat.reduceBneDiff, Nat.reduceBNe, c20r2]
    by_cases hlt : i < t.length
    · refine .seq (.cond rfl (fun h => ?_) (fun h => absurd h (by simp; omega)))
      refine .skip ?_
      refine .seq (.blk ?_)
      have hrow := getD_map encW t i (0, []) [] hlt
      have hd := drop_get t i (0, []) hlt
      revert hrow hd
      generalize t.getD i (0, []) = w
      intro hrow hd
      obtain ⟨wa, wd⟩ := w
      refine .seq (Rw.walk ?_)
      simp only [wk0, wk1, wk2, wk3, wk4, wk5, wk6, wk7, wk8, wk9, wk10, Rw_op, Rw_opg, RwD_op, RwD_opg, Bool.cond_true, Bool.cond_false, if_true, if_false, implies_true, forall_const, eq_self, ne_eq, forall_eq, forall_eq', forall_eq_or_imp, exists_eq', bne_self_eq_false, dchk, meets, touchS, touchI, quietI, allocI, isCall, idsV, ch0, Nat.testBit, semI, binS, unS, nilS, aggS, eqLs, eqL, evT, evS, stripV, gOk, gAll, opsOf, boolV, apG, numd, prL, cellsV, isB, out1, fail, fillOb, fillL, replaceAt, rowsV, newV, boundV, intV, lcOf, lcA, scA, Va.bo, Va.i, Va.st, Ret, allOb, rvOut, convB, convBs, convC, convR, conv, unD, Nat.reduceAdd, Nat.reduceSub, Nat.reduceMul, Nat.reduceLeDiff, Nat.reduceEqDiff, Nat.reduceLT, Nat.reduceBEq, reduceIte, reduceCtorEq, Int.reduceToNat, fnV, argsV, touchO, evO, bareI, Nat.reduceShiftRight, Nat.reduceAnd, Nat.reduceBneDiff, Nat.reduceBNe, c20r3, hrow, encW]
      refine ⟨⟨by omega, by omega, encW_len t⟩, ?_⟩
      refine .seq (Rw.walk ?_)
      simp only [wk0, wk1, wk2, wk3, wk4, wk5, wk6, wk7, wk8, wk9, wk10, Rw_op, Rw_opg, RwD_op, RwD_opg, Bool.cond_true, Bool.cond_false, if_true, if_false, implies_true, forall_const, eq_self, ne_eq, forall_eq, forall_eq', forall_eq_or_imp, exists_eq', bne_self_eq_false, dchk, meets, touchS, touchI, quietI, allocI, isCall, idsV, ch0, Nat.testBit, semI, binS, unS, nilS, aggS, eqLs, eqL, evT, evS, stripV, gOk, gAll, opsOf, boolV, apG, numd, prL, cellsV, isB, out1, fail, fillOb, fillL, replaceAt, rowsV, newV, boundV, intV, lcOf, lcA, scA, Va.bo, Va.i, Va.st, Ret, allOb, rvOut, convB, convBs, convC, convR, conv, unD, Nat.reduceAdd, Nat.reduceSub, Nat.reduceMul, Nat.reduceLeDiff, Nat.reduceEqDiff, Nat.reduceLT, Nat.reduceBEq, reduceIte, reduceCtorEq, Int.reduceToNat, fnV, argsV, touchO, evO, bareI, Nat.reduceShiftRight, Nat.reduceAnd, Nat.reduceBneDiff, Nat.reduceBNe, c20r4, len_ne]
      have hb : wellL n (t.drop i) = (!badWr n (wa, wd) && wellL n (t.drop (i + 1))) := by
        rw [hd, wellL, wellL, List.any_cons, Bool.not_or]
      refine .cond rfl (fun h => ?_) (fun h => ?_)
      · refine .seq (Rw.walk ?_)
        simp only [wk0, wk1, wk2, wk3, wk4, wk5, wk6, wk7, wk8, wk9, wk10, Rw_op, Rw_opg, RwD_op, RwD_opg, Bool.cond_true, Bool.cond_false, if_true, if_false, implies_true, forall_const, eq_self, ne_eq, forall_eq, forall_eq', forall_eq_or_imp, exists_eq', bne_self_eq_false, dchk, meets, touchS, touchI, quietI, allocI, isCall, idsV, ch0, Nat.testBit, semI, binS, unS, nilS, aggS, eqLs, eqL, evT, evS, stripV, gOk, gAll, opsOf, boolV, apG, numd, prL, cellsV, isB, out1, fail, fillOb, fillL, replaceAt, rowsV, newV, boundV, intV, lcOf, lcA, scA, Va.bo, Va.i, Va.st, Ret, allOb, rvOut, convB, convBs, convC, convR, conv, unD, Nat.reduceAdd, Nat.reduceSub, Nat.reduceMul, Nat.reduceLeDiff, Nat.reduceEqDiff, Nat.reduceLT, Nat.reduceBEq, reduceIte, reduceCtorEq, Int.reduceToNat, fnV, argsV, touchO, evO, bareI, Nat.reduceShiftRight, Nat.reduceAnd, Nat.reduceBneDiff, Nat.reduceBNe, c20r5]
        refine .ret ?_
        have : badWr n (wa, wd) = true := h
        rw [hinv, hb, this]
        simp only [wk0, wk1, wk2, wk3, wk4, wk5, wk6, wk7, wk8, wk9, wk10, Rw_op, Rw_opg, RwD_op, RwD_opg, Bool.cond_true, Bool.cond_false, if_true, if_false, implies_true, forall_const, eq_self, ne_eq, forall_eq, forall_eq', forall_eq_or_imp, exists_eq', bne_self_eq_false, dchk, meets, touchS, touchI, quietI, allocI, isCall, idsV, ch0, Nat.testBit, semI, binS, unS, nilS, aggS, eqLs, eqL, evT, evS, stripV, gOk, gAll, opsOf, boolV, apG, numd, prL, cellsV, isB, out1, fail, fillOb, fillL, replaceAt, rowsV, newV, boundV, intV, lcOf, lcA, scA, Va.bo, Va.i, Va.st, Ret, allOb, rvOut, convB, convBs, convC, convR, conv, unD, Nat.reduceAdd, Nat.reduceSub, Nat.reduceMul, Nat.reduceLeDiff, Nat.reduceEqDiff, Nat.reduceLT, Nat.reduceBEq, reduceIte, reduceCtorEq, Int.reduceToNat, fnV, argsV, touchO, evO, bareI, Nat.reduceShiftRight, Nat.reduceAnd, Nat.reduceBneDiff, Nat.reduceBNe, rv20]
      · refine .skip ?_
        refine .eblk ?_
        refine Rw.walk ?_
        simp only [wk0, wk1, wk2, wk3, wk4, wk5, wk6, wk7, wk8, wk9, wk10, Rw_op, Rw_opg, RwD_op, RwD_opg, Bool.cond_true, Bool.cond_false, if_true, if_false, implies_true, forall_const, eq_self, ne_eq, forall_eq, forall_eq', forall_eq_or_imp, exists_eq', bne_self_eq_false, dchk, meets, touchS, touchI, quietI, allocI, isCall, idsV, ch0, Nat.testBit, semI, binS, unS, nilS, aggS, eqLs, eqL, evT, evS, stripV, gOk, gAll, opsOf, boolV, apG, numd, prL, cellsV, isB, out1, fail, fillOb, fillL, replaceAt, rowsV, newV, boundV, intV, lcOf, lcA, scA, Va.bo, Va.i, Va.st, Ret, allOb, rvOut, convB, convBs, convC, convR, conv, unD, Nat.reduceAdd, Nat.reduceSub, Nat.reduceMul, Nat.reduceLeDiff, Nat.reduceEqDiff, Nat.reduceLT, Nat.reduceBEq, reduceIte, reduceCtorEq, Int.reduceToNat, fnV, argsV, touchO, evO, bareI, Nat.reduceShiftRight, Nat.reduceAnd, Nat.reduceBneDiff, Nat.reduceBNe, c20r6]
        have : badWr n (wa, wd) = false := h
        rw [hb, this] at hinv
        refine .weak ?_ (ih ⟨i + 1, by omega, hinv⟩ (by simp; omega))
        refine Imp.lk _ _ ?_ ?_ ?_ ?_
        all_goals
          simp only [wk0, wk1, wk2, wk3, wk4, wk5, wk6, wk7, wk8, wk9, wk10, Rw_op, Rw_opg, RwD_op, RwD_opg, Bool.cond_true, Bool.cond_false, if_true, if_false, implies_true, forall_const, eq_self, ne_eq, forall_eq, forall_eq', forall_eq_or_imp, exists_eq', bne_self_eq_false, dchk, meets, touchS, touchI, quietI, allocI, isCall, idsV, ch0, Nat.testBit, semI, binS, unS, nilS, aggS, eqLs, eqL, evT, evS, stripV, gOk, gAll, opsOf, boolV, apG, numd, prL, cellsV, isB, out1, fail, fillOb, fillL, replaceAt, rowsV, newV, boundV, intV, lcOf, lcA, scA, Va.bo, Va.i, Va.st, Ret, allOb, rvOut, convB, convBs, convC, convR, conv, unD, Nat.reduceAdd, Nat.reduceSub, Nat.reduceMul, Nat.reduceLeDiff, Nat.reduceEqDiff, Nat.reduceLT, Nat.reduceBEq, reduceIte, reduceCtorEq, Int.reduceToNat, fnV, argsV, touchO, evO, bareI, Nat.reduceShiftRight, Nat.reduceAnd, Nat.reduceBneDiff, Nat.reduceBNe, allT, allE, refsV, refsIn, refsC]
        rw [i64_in (by omega) (by omega)]
        rfl
    · refine .seq (.cond rfl (fun h => absurd h (by simp; omega)) (fun h => ?_))
      refine .exit rfl ?_
      refine .seq (Rw.walk ?_)
      simp only [wk0, wk1, wk2, wk3, wk4, wk5, wk6, wk7, wk8, wk9, wk10, Rw_op, Rw_opg, RwD_op, RwD_opg, Bool.cond_true, Bool.cond_false, if_true, if_false, implies_true, forall_const, eq_self, ne_eq, forall_eq, forall_eq', forall_eq_or_imp, exists_eq', bne_self_eq_false, dchk, meets, touchS, touchI, quietI, allocI, isCall, idsV, ch0, Nat.testBit, semI, binS, unS, nilS, aggS, eqLs, eqL, evT, evS, stripV, gOk, gAll, opsOf, boolV, apG, numd, prL, cellsV, isB, out1, fail, fillOb, fillL, replaceAt, rowsV, newV, boundV, intV, lcOf, lcA, scA, Va.bo, Va.i, Va.st, Ret, allOb, rvOut, convB, convBs, convC, convR, conv, unD, Nat.reduceAdd, Nat.reduceSub, Nat.reduceMul, Nat.reduceLeDiff, Nat.reduceEqDiff, Nat.reduceLT, Nat.reduceBEq, reduceIte, reduceCtorEq, Int.reduceToNat, fnV, argsV, touchO, evO, bareI, Nat.reduceShiftRight, Nat.reduceAnd, Nat.reduceBneDiff, Nat.reduceBNe, c20r7]
      refine .ret ?_
      rw [hinv, List.drop_of_length_le (by omega)]
      simp only [wk0, wk1, wk2, wk3, wk4, wk5, wk6, wk7, wk8, wk9, wk10, Rw_op, Rw_opg, RwD_op, RwD_opg, Bool.cond_true, Bool.cond_false, if_true, if_false, implies_true, forall_const, eq_self, ne_eq, forall_eq, forall_eq', forall_eq_or_imp, exists_eq', bne_self_eq_false, dchk, meets, touchS, touchI, quietI, allocI, isCall, idsV, ch0, Nat.testBit, semI, binS, unS, nilS, aggS, eqLs, eqL, evT, evS, stripV, gOk, gAll, opsOf, boolV, apG, numd, prL, cellsV, isB, out1, fail, fillOb, fillL, replaceAt, rowsV, newV, boundV, intV, lcOf, lcA, scA, Va.bo, Va.i, Va.st, Ret, allOb, rvOut, convB, convBs, convC, convR, conv, unD, Nat.reduceAdd, Nat.reduceSub, Nat.reduceMul, Nat.reduceLeDiff, Nat.reduceEqDiff, Nat.reduceLT, Nat.reduceBEq, reduceIte, reduceCtorEq, Int.reduceToNat, fnV, argsV, touchO, evO, bareI, Nat.reduceShiftRight, Nat.reduceAnd, Nat.reduceBneDiff, Nat.reduceBNe, rv20, wellL]
def all128 (s : List (List UInt8)) : Bool := !(s.any fun x => !decide (x.length = 128))
theorem ref_Right (s : List (List UInt8)) (t : List SWr) (hs : s.length ≤ 9223372036854775807) (ht : t.length ≤ 9223372036854775807) : Fun Try.prog gl0 8 [.b (aD s t)] (.bo (rightL s t)) := by
  have hR : rightL s t = (all128 s && (decide ((s.length : Int) ≥ 4) && decide ((s.length : Int) ≤ 64) && decide ((t.length : Int) ≤ 200) && wellL s.length t)) := by
    rw [show decide ((s.length : Int) ≥ 4) = decide (4 ≤ s.length) from decide_eq_decide.2 (by omega), show decide ((s.length : Int) ≤ 64) = decide (s.length ≤ 64) from decide_eq_decide.2 (by omega), show decide ((t.length : Int) ≤ 200) = decide (t.length ≤ 200) from decide_eq_decide.2 (by omega)]
    unfold rightL all128
    cases decide (4 ≤ s.length) <;> cases decide (s.length ≤ 64) <;> cases decide (t.length ≤ 200) <;> cases (s.any fun x => !decide (x.length = 128)) <;> cases wellL s.length t <;> rfl
  rw [hR]
  clear hR
  refine fun_walk [] Try.func8 Try.ntmps8 cc8 cr8 (by kernel_rfl) (by simp only [List.length_cons, List.length_nil]; decide) ?_
  simp only [wk0, wk1, wk2, wk3, wk4, wk5, wk6, wk7, wk8, wk9, wk10, Rw_op, Rw_opg, RwD_op, RwD_opg, Bool.cond_true, Bool.cond_false, if_true, if_false, implies_true, forall_const, eq_self, ne_eq, forall_eq, forall_eq', forall_eq_or_imp, exists_eq', bne_self_eq_false, dchk, meets, touchS, touchI, quietI, allocI, isCall, idsV, ch0, Nat.testBit, semI, binS, unS, nilS, aggS, eqLs, eqL, evT, evS, stripV, gOk, gAll, opsOf, boolV, apG, numd, prL, cellsV, isB, out1, fail, fillOb, fillL, replaceAt, rowsV, newV, boundV, intV, lcOf, lcA, scA, Va.bo, Va.i, Va.st, Ret, allOb, rvOut, convB, convBs, convC, convR, conv, unD, Nat.reduceAdd, Nat.reduceSub, Nat.reduceMul, Nat.reduceLeDiff, Nat.reduceEqDiff, Nat.reduceLT, Nat.reduceBEq, reduceIte, reduceCtorEq, Int.reduceToNat, fnV, argsV, touchO, evO, bareI, Nat.reduceShiftRight, Nat.reduceAnd, Nat.reduceBneDiff, Nat.reduceBNe, aD, encD]
  unfold c8
  refine .seq (Rw.walk ?_)
  simp only [wk0, wk1, wk2, wk3, wk4, wk5, wk6, wk7, wk8, wk9, wk10, Rw_op, Rw_opg, RwD_op, RwD_opg, Bool.cond_true, Bool.cond_false, if_true, if_false, implies_true, forall_const, eq_self, ne_eq, forall_eq, forall_eq', forall_eq_or_imp, exists_eq', bne_self_eq_false, dchk, meets, touchS, touchI, quietI, allocI, isCall, idsV, ch0, Nat.testBit, semI, binS, unS, nilS, aggS, eqLs, eqL, evT, evS, stripV, gOk, gAll, opsOf, boolV, apG, numd, prL, cellsV, isB, out1, fail, fillOb, fillL, replaceAt, rowsV, newV, boundV, intV, lcOf, lcA, scA, Va.bo, Va.i, Va.st, Ret, allOb, rvOut, convB, convBs, convC, convR, conv, unD, Nat.reduceAdd, Nat.reduceSub, Nat.reduceMul, Nat.reduceLeDiff, Nat.reduceEqDiff, Nat.reduceLT, Nat.reduceBEq, reduceIte, reduceCtorEq, Int.reduceToNat, fnV, argsV, touchO, evO, bareI, Nat.reduceShiftRight, Nat.reduceAnd, Nat.reduceBneDiff, Nat.reduceBNe, c8r0]
  refine .seq (.seq (Rw.walk ?_))
  simp only [wk0, wk1, wk2, wk3, wk4, wk5, wk6, wk7, wk8, wk9, wk10, Rw_op, Rw_opg, RwD_op, RwD_opg, Bool.cond_true, Bool.cond_false, if_true, if_false, implies_true, forall_const, eq_self, ne_eq, forall_eq, forall_eq', forall_eq_or_imp, exists_eq', bne_self_eq_false, dchk, meets, touchS, touchI, quietI, allocI, isCall, idsV, ch0, Nat.testBit, semI, binS, unS, nilS, aggS, eqLs, eqL, evT, evS, stripV, gOk, gAll, opsOf, boolV, apG, numd, prL, cellsV, isB, out1, fail, fillOb, fillL, replaceAt, rowsV, newV, boundV, intV, lcOf, lcA, scA, Va.bo, Va.i, Va.st, Ret, allOb, rvOut, convB, convBs, convC, convR, conv, unD, Nat.reduceAdd, Nat.reduceSub, Nat.reduceMul, Nat.reduceLeDiff, Nat.reduceEqDiff, Nat.reduceLT, Nat.reduceBEq, reduceIte, reduceCtorEq, Int.reduceToNat, fnV, argsV, touchO, evO, bareI, Nat.reduceShiftRight, Nat.reduceAnd, Nat.reduceBneDiff, Nat.reduceBNe, c8r1]
  refine .blk ?_
  refine W.loops (ι := { i : Nat // i ≤ s.length ∧ all128 s = all128 (s.drop i) }) (fun i => ⟨lkT [(1, .b (.s (.ptr 1 1 0 0))), (6, .b (.s (.d (.sl (s.map encS))))), (7, .i .i64 s.length), (8, .i .i64 i.val)], lkG [(1, ⟨2, [[.d (.sl (s.map encS)), .d (.sl (t.map encW))]], false⟩)]⟩) (fun i => s.length - i.val) ⟨0, by omega, rfl⟩ ?_ ?_
  · refine Imp.lk _ _ ?_ ?_ ?_ ?_
    all_goals
      simp only [wk0, wk1, wk2, wk3, wk4, wk5, wk6, wk7, wk8, wk9, wk10, Rw_op, Rw_opg, RwD_op, RwD_opg, Bool.cond_true, Bool.cond_false, if_true, if_false, implies_true, forall_const, eq_self, ne_eq, forall_eq, forall_eq', forall_eq_or_imp, exists_eq', bne_self_eq_false, dchk, meets, touchS, touchI, quietI, allocI, isCall, idsV, ch0, Nat.testBit, semI, binS, unS, nilS, aggS, eqLs, eqL, evT, evS, stripV, gOk, gAll, opsOf, boolV, apG, numd, prL, cellsV, isB, out1, fail, fillOb, fillL, replaceAt, rowsV, newV, boundV, intV, lcOf, lcA, scA, Va.bo, Va.i, Va.st, Ret, allOb, rvOut, convB, convBs, convC, convR, conv, unD, Nat.reduceAdd, Nat.reduceSub, Nat.reduceMul, Nat.reduceLeDiff, Nat.reduceEqDiff, Nat.reduceLT, Nat.reduceBEq, reduceIte, reduceCtorEq, Int.reduceToNat, fnV, argsV, touchO, evO, bareI, Nat.reduceShiftRight, Nat.reduceAnd, Nat.reduceBneDiff, Nat.reduceBNe, allT, allE, refsV, refsIn, refsC, Int.ofNat_zero, Int.natCast_zero]
  · intro ⟨i, hi, hinv⟩ ih
    unfold c8l7
    refine .seq (Rw.walk ?_)
    simp only [wk0, wk1, wk2, wk3, wk4, wk5, wk6, wk7, wk8, wk9, wk10, Rw_op, Rw_opg, RwD_op, RwD_opg, Bool.cond_true, Bool.cond_false, if_true, if_false, implies_true, forall_const, eq_self, ne_eq, forall_eq, forall_eq', forall_eq_or_imp, exists_eq', bne_self_eq_false, dchk, meets, touchS, touchI, quietI, allocI, isCall, idsV, ch0, Nat.testBit, semI, binS, unS, nilS, aggS, eqLs, eqL, evT, evS, stripV, gOk, gAll, opsOf, boolV, apG, numd, prL, cellsV, isB, out1, fail, fillOb, fillL, replaceAt, rowsV, newV, boundV, intV, lcOf, lcA, scA, Va.bo, Va.i, Va.st, Ret, allOb, rvOut, convB, convBs, convC, convR, conv, unD, Nat.reduceAdd, Nat.reduceSub, Nat.reduceMul, Nat.reduceLeDiff, Nat.reduceEqDiff, Nat.reduceLT, Nat.reduceBEq, reduceIte, reduceCtorEq, Int.reduceToNat, fnV, argsV, touchO, evO, bareI, Nat.reduceShiftRight, Nat.reduceAnd, Nat.reduceBneDiff, Nat.reduceBNe, c8r2]
    by_cases hlt : i < s.length
    · refine .seq (.cond rfl (fun h => ?_) (fun h => absurd h (by simp; omega)))
      refine .skip ?_
      refine .seq (.blk ?_)
      have hrow := getD_map encS s i [] [] hlt
      have hd := drop_get s i [] hlt
      revert hrow hd
      generalize s.getD i [] = x
      intro hrow hd
      refine .seq (Rw.walk ?_)
      simp only [wk0, wk1, wk2, wk3, wk4, wk5, wk6, wk7, wk8, wk9, wk10, Rw_op, Rw_opg, RwD_op, RwD_opg, Bool.cond_true, Bool.cond_false, if_true, if_false, implies_true, forall_const, eq_self, ne_eq, forall_eq, forall_eq', forall_eq_or_imp, exists_eq', bne_self_eq_false, dchk, meets, touchS, touchI, quietI, allocI, isCall, idsV, ch0, Nat.testBit, semI, binS, unS, nilS, aggS, eqLs, eqL, evT, evS, stripV, gOk, gAll, opsOf, boolV, apG, numd, prL, cellsV, isB, out1, fail, fillOb, fillL, replaceAt, rowsV, newV, boundV, intV, lcOf, lcA, scA, Va.bo, Va.i, Va.st, Ret, allOb, rvOut, convB, convBs, convC, convR, conv, unD, Nat.reduceAdd, Nat.reduceSub, Nat.reduceMul, Nat.reduceLeDiff, Nat.reduceEqDiff, Nat.reduceLT, Nat.reduceBEq, reduceIte, reduceCtorEq, Int.reduceToNat, fnV, argsV, touchO, evO, bareI, Nat.reduceShiftRight, Nat.reduceAnd, Nat.reduceBneDiff, Nat.reduceBNe, c8r3, hrow, encS]
      refine ⟨⟨by omega, by omega, encS_len s⟩, ?_⟩
      refine .seq (Rw.walk ?_)
      simp only [wk0, wk1, wk2, wk3, wk4, wk5, wk6, wk7, wk8, wk9, wk10, Rw_op, Rw_opg, RwD_op, RwD_opg, Bool.cond_true, Bool.cond_false, if_true, if_false, implies_true, forall_const, eq_self, ne_eq, forall_eq, forall_eq', forall_eq_or_imp, exists_eq', bne_self_eq_false, dchk, meets, touchS, touchI, quietI, allocI, isCall, idsV, ch0, Nat.testBit, semI, binS, unS, nilS, aggS, eqLs, eqL, evT, evS, stripV, gOk, gAll, opsOf, boolV, apG, numd, prL, cellsV, isB, out1, fail, fillOb, fillL, replaceAt, rowsV, newV, boundV, intV, lcOf, lcA, scA, Va.bo, Va.i, Va.st, Ret, allOb, rvOut, convB, convBs, convC, convR, conv, unD, Nat.reduceAdd, Nat.reduceSub, Nat.reduceMul, Nat.reduceLeDiff, Nat.reduceEqDiff, Nat.reduceLT, Nat.reduceBEq, reduceIte, reduceCtorEq, Int.reduceToNat, fnV, argsV, touchO, evO, bareI, Nat.reduceShiftRight, Nat.reduceAnd, Nat.reduceBneDiff, Nat.reduceBNe, c8r4, len_ne]
      have hb : all128 (s.drop i) = (decide (x.length = 128) && all128 (s.drop (i + 1))) := by
        rw [hd, all128, all128, List.any_cons, Bool.not_or, Bool.not_not]
      refine .cond rfl (fun h => ?_) (fun h => ?_)
      · refine .seq (Rw.walk ?_)
        simp only [wk0, wk1, wk2, wk3, wk4, wk5, wk6, wk7, wk8, wk9, wk10, Rw_op, Rw_opg, RwD_op, RwD_opg, Bool.cond_true, Bool.cond_false, if_true, if_false, implies_true, forall_const, eq_self, ne_eq, forall_eq, forall_eq', forall_eq_or_imp, exists_eq', bne_self_eq_false, dchk, meets, touchS, touchI, quietI, allocI, isCall, idsV, ch0, Nat.testBit, semI, binS, unS, nilS, aggS, eqLs, eqL, evT, evS, stripV, gOk, gAll, opsOf, boolV, apG, numd, prL, cellsV, isB, out1, fail, fillOb, fillL, replaceAt, rowsV, newV, boundV, intV, lcOf, lcA, scA, Va.bo, Va.i, Va.st, Ret, allOb, rvOut, convB, convBs, convC, convR, conv, unD, Nat.reduceAdd, Nat.reduceSub, Nat.reduceMul, Nat.reduceLeDiff, Nat.reduceEqDiff, Nat.reduceLT, Nat.reduceBEq, reduceIte, reduceCtorEq, Int.reduceToNat, fnV, argsV, touchO, evO, bareI, Nat.reduceShiftRight, Nat.reduceAnd, Nat.reduceBneDiff, Nat.reduceBNe, c8r5]
        refine .ret ?_
        rw [hinv, hb, show decide (x.length = 128) = false by simpa using h]
        simp only [wk0, wk1, wk2, wk3, wk4, wk5, wk6, wk7, wk8, wk9, wk10, Rw_op, Rw_opg, RwD_op, RwD_opg, Bool.cond_true, Bool.cond_false, if_true, if_false, implies_true, forall_const, eq_self, ne_eq, forall_eq, forall_eq', forall_eq_or_imp, exists_eq', bne_self_eq_false, dchk, meets, touchS, touchI, quietI, allocI, isCall, idsV, ch0, Nat.testBit, semI, binS, unS, nilS, aggS, eqLs, eqL, evT, evS, stripV, gOk, gAll, opsOf, boolV, apG, numd, prL, cellsV, isB, out1, fail, fillOb, fillL, replaceAt, rowsV, newV, boundV, intV, lcOf, lcA, scA, Va.bo, Va.i, Va.st, Ret, allOb, rvOut, convB, convBs, convC, convR, conv, unD, Nat.reduceAdd, Nat.reduceSub, Nat.reduceMul, Nat.reduceLeDiff, Nat.reduceEqDiff, Nat.reduceLT, Nat.reduceBEq, reduceIte, reduceCtorEq, Int.reduceToNat, fnV, argsV, touchO, evO, bareI, Nat.reduceShiftRight, Nat.reduceAnd, Nat.reduceBneDiff, Nat.reduceBNe, rv8]
      · refine .skip ?_
        refine .eblk ?_
        refine Rw.walk ?_
        simp only [wk0, wk1, wk2, wk3, wk4, wk5, wk6, wk7, wk8, wk9, wk10, Rw_op, Rw_opg, RwD_op, RwD_opg, Bool.cond_true, Bool.cond_false, if_true, if_false, implies_true, forall_const, eq_self, ne_eq, forall_eq, forall_eq', forall_eq_or_imp, exists_eq', bne_self_eq_false, dchk, meets, touchS, touchI, quietI, allocI, isCall, idsV, ch0, Nat.testBit, semI, binS, unS, nilS, aggS, eqLs, eqL, evT, evS, stripV, gOk, gAll, opsOf, boolV, apG, numd, prL, cellsV, isB, out1, fail, fillOb, fillL, replaceAt, rowsV, newV, boundV, intV, lcOf, lcA, scA, Va.bo, Va.i, Va.st, Ret, allOb, rvOut, convB, convBs, convC, convR, conv, unD, Nat.reduceAdd, Nat.reduceSub, Nat.reduceMul, Nat.reduceLeDiff, Nat.reduceEqDiff, Nat.reduceLT, Nat.reduceBEq, reduceIte, reduceCtorEq, Int.reduceToNat, fnV, argsV, touchO, evO, bareI, Nat.reduceShiftRight, Nat.reduceAnd, Nat.reduceBneDiff, Nat.reduceBNe, c8r6]
        rw [hb, show decide (x.length = 128) = true by simpa using h] at hinv
        refine .weak ?_ (ih ⟨i + 1, by omega, hinv⟩ (by simp; omega))
        refine Imp.lk _ _ ?_ ?_ ?_ ?_
        all_goals
          simp only [wk0, wk1, wk2, wk3, wk4, wk5, wk6, wk7, wk8, wk9, wk10, Rw_op, Rw_opg, RwD_op, RwD_opg, Bool.cond_true, Bool.cond_false, if_true, if_false, implies_true, forall_const, eq_self, ne_eq, forall_eq, forall_eq', forall_eq_or_imp, exists_eq', bne_self_eq_false, dchk, meets, touchS, touchI, quietI, allocI, isCall, idsV, ch0, Nat.testBit, semI, binS, unS, nilS, aggS, eqLs, eqL, evT, evS, stripV, gOk, gAll, opsOf, boolV, apG, numd, prL, cellsV, isB, out1, fail, fillOb, fillL, replaceAt, rowsV, newV, boundV, intV, lcOf, lcA, scA, Va.bo, Va.i, Va.st, Ret, allOb, rvOut, convB, convBs, convC, convR, conv, unD, Nat.reduceAdd, Nat.reduceSub, Nat.reduceMul, Nat.reduceLeDiff, Nat.reduceEqDiff, Nat.reduceLT, Nat.reduceBEq, reduceIte, reduceCtorEq, Int.reduceToNat, fnV, argsV, touchO, evO, bareI, Nat.reduceShiftRight, Nat.reduceAnd, Nat.reduceBneDiff, Nat.reduceBNe, allT, allE, refsV, refsIn, refsC]
        rw [i64_in (by omega) (by omega)]
        rfl
    · refine .seq (.cond rfl (fun h => absurd h (by simp; omega)) (fun h => ?_))
      refine .exit rfl ?_
      refine .seq (Rw.walk ?_)
      simp only [wk0, wk1, wk2, wk3, wk4, wk5, wk6, wk7, wk8, wk9, wk10, Rw_op, Rw_opg, RwD_op, RwD_opg, Bool.cond_true, Bool.cond_false, if_true, if_false, implies_true, forall_const, eq_self, ne_eq, forall_eq, forall_eq', forall_eq_or_imp, exists_eq', bne_self_eq_false, dchk, meets, touchS, touchI, quietI, allocI, isCall, idsV, ch0, Nat.testBit, semI, binS, unS, nilS, aggS, eqLs, eqL, evT, evS, stripV, gOk, gAll, opsOf, boolV, apG, numd, prL, cellsV, isB, out1, fail, fillOb, fillL, replaceAt, rowsV, newV, boundV, intV, lcOf, lcA, scA, Va.bo, Va.i, Va.st, Ret, allOb, rvOut, convB, convBs, convC, convR, conv, unD, Nat.reduceAdd, Nat.reduceSub, Nat.reduceMul, Nat.reduceLeDiff, Nat.reduceEqDiff, Nat.reduceLT, Nat.reduceBEq, reduceIte, reduceCtorEq, Int.reduceToNat, fnV, argsV, touchO, evO, bareI, Nat.reduceShiftRight, Nat.reduceAnd, Nat.reduceBneDiff, Nat.reduceBNe, c8r7]
      refine call_funG [] rfl ?_ rfl rfl (fun _ => ref_Well t s.length ht) rfl (by simp) ?_
      · simp only [wk0, wk1, wk2, wk3, wk4, wk5, wk6, wk7, wk8, wk9, wk10, Rw_op, Rw_opg, RwD_op, RwD_opg, Bool.cond_true, Bool.cond_false, if_true, if_false, implies_true, forall_const, eq_self, ne_eq, forall_eq, forall_eq', forall_eq_or_imp, exists_eq', bne_self_eq_false, dchk, meets, touchS, touchI, quietI, allocI, isCall, idsV, ch0, Nat.testBit, semI, binS, unS, nilS, aggS, eqLs, eqL, evT, evS, stripV, gOk, gAll, opsOf, boolV, apG, numd, prL, cellsV, isB, out1, fail, fillOb, fillL, replaceAt, rowsV, newV, boundV, intV, lcOf, lcA, scA, Va.bo, Va.i, Va.st, Ret, allOb, rvOut, convB, convBs, convC, convR, conv, unD, Nat.reduceAdd, Nat.reduceSub, Nat.reduceMul, Nat.reduceLeDiff, Nat.reduceEqDiff, Nat.reduceLT, Nat.reduceBEq, reduceIte, reduceCtorEq, Int.reduceToNat, fnV, argsV, touchO, evO, bareI, Nat.reduceShiftRight, Nat.reduceAnd, Nat.reduceBneDiff, Nat.reduceBNe]
      simp only [wk0, wk1, wk2, wk3, wk4, wk5, wk6, wk7, wk8, wk9, wk10, Rw_op, Rw_opg, RwD_op, RwD_opg, Bool.cond_true, Bool.cond_false, if_true, if_false, implies_true, forall_const, eq_self, ne_eq, forall_eq, forall_eq', forall_eq_or_imp, exists_eq', bne_self_eq_false, dchk, meets, touchS, touchI, quietI, allocI, isCall, idsV, ch0, Nat.testBit, semI, binS, unS, nilS, aggS, eqLs, eqL, evT, evS, stripV, gOk, gAll, opsOf, boolV, apG, numd, prL, cellsV, isB, out1, fail, fillOb, fillL, replaceAt, rowsV, newV, boundV, intV, lcOf, lcA, scA, Va.bo, Va.i, Va.st, Ret, allOb, rvOut, convB, convBs, convC, convR, conv, unD, Nat.reduceAdd, Nat.reduceSub, Nat.reduceMul, Nat.reduceLeDiff, Nat.reduceEqDiff, Nat.reduceLT, Nat.reduceBEq, reduceIte, reduceCtorEq, Int.reduceToNat, fnV, argsV, touchO, evO, bareI, Nat.reduceShiftRight, Nat.reduceAnd, Nat.reduceBneDiff, Nat.reduceBNe]
      refine .ret ?_
      rw [hinv, List.drop_of_length_le (by omega)]
      simp only [wk0, wk1, wk2, wk3, wk4, wk5, wk6, wk7, wk8, wk9, wk10, Rw_op, Rw_opg, RwD_op, RwD_opg, Bool.cond_true, Bool.cond_false, if_true, if_false, implies_true, forall_const, eq_self, ne_eq, forall_eq, forall_eq', forall_eq_or_imp, exists_eq', bne_self_eq_false, dchk, meets, touchS, touchI, quietI, allocI, isCall, idsV, ch0, Nat.testBit, semI, binS, unS, nilS, aggS, eqLs, eqL, evT, evS, stripV, gOk, gAll, opsOf, boolV, apG, numd, prL, cellsV, isB, out1, fail, fillOb, fillL, replaceAt, rowsV, newV, boundV, intV, lcOf, lcA, scA, Va.bo, Va.i, Va.st, Ret, allOb, rvOut, convB, convBs, convC, convR, conv, unD, Nat.reduceAdd, Nat.reduceSub, Nat.reduceMul, Nat.reduceLeDiff, Nat.reduceEqDiff, Nat.reduceLT, Nat.reduceBEq, reduceIte, reduceCtorEq, Int.reduceToNat, fnV, argsV, touchO, evO, bareI, Nat.reduceShiftRight, Nat.reduceAnd, Nat.reduceBneDiff, Nat.reduceBNe, rv8, all128]
end Go.Proofs.Ytjpomfbkfgkifaa.V
end

section
/- Arguments that are read as data are values in the manner of these texts; a law out of what is shown of its function. -/
namespace Go.Proofs.Ytjpomfbkfgkifaa.V
open Go Go.RowKit
set_option linter.unusedVariables false
set_option linter.unusedSimpArgs false
/-- Cells that say this. -/
def RepRow (w : World) (l : List Sc) (cs : List Value) : Prop := cs.length = l.length ∧ ∀ (j : Nat) sc, l[j]? = some sc → RepD w (fun k => k < w.heap.size) sc (cs.getD j undef)
theorem RepRow.append {w : World} {l l2 : List Sc} {cs : List Value} (n : Nat) (hn : l.length = n) (h : RepRow w l (cs.take n)) (h2 : RepRow w l2 (cs.drop n)) (hl : n ≤ cs.length) : RepRow w (l ++ l2) cs := by
  refine ⟨?_, fun j sc hj => ?_⟩
  · have := h2.1
    rw [List.length_drop] at this
    rw [List.length_append]
    omega
  · by_cases hjn : j < n
    · rw [List.getElem?_append_left (by omega)] at hj
      have := h.2 j sc hj
      simpa [List.getD, List.getElem?_take, hjn] using this
    · rw [List.getElem?_append_right (by omega), hn] at hj
      have := h2.2 (j - n) sc hj
      simpa [List.getD, List.getElem?_drop, show n + (j - n) = j by omega] using this
/-- What can be read as data of type t is one of a kind. -/
def OpS {α : Type} (P : Program) (t : TypeId) (n : Nat) (enc : α → List Sc) (W : α → Prop) : Prop :=
  ∀ (H : Type) (enc' : TypeId × Value → H) (w : World) (base fuel : Nat) (held : Bool) (cs : List Value) (x : DataW H × List MemPlace), DataW.trod enc' P w base (fun _ => true) held fuel t cs = some x → ∃ a, W a ∧ (enc a).length = n ∧ RepRow w (enc a) cs
theorem repRow_one {w : World} {x : Sc} {v : Value} (h : RepD w (fun k => k < w.heap.size) x v) : RepRow w [x] [v] := by
  refine ⟨rfl, fun j sc hj => ?_⟩
  cases j with
  | zero => cases hj; exact h
  | succ j => cases hj
abbrev ecI (k : IntKind) (n : Int) : List Sc := [.int k n]
abbrev ecB (b : Bool) : List Sc := [.bool b]
abbrev ecS (l : List UInt8) : List Sc := [.str l]
theorem ops_int {P : Program} {t : TypeId} {k : IntKind} (hu : P.underlying t = some (.int k)) : OpS P t 1 (ecI k) (fun n => (Lit.int k n).wf = true) := by
  intro H enc w base fuel held cs x h
  obtain ⟨n, rfl, _, hw⟩ := DataW.trod_int hu h
  exact ⟨n, hw, rfl, repRow_one (.int _ _)⟩
theorem ops_bool {P : Program} {t : TypeId} (hu : P.underlying t = some .bool) : OpS P t 1 ecB (fun _ => True) := by
  intro H enc w base fuel held cs x h
  obtain ⟨n, rfl, _⟩ := DataW.trod_bool hu h
  exact ⟨n, trivial, rfl, repRow_one (.bool _)⟩
theorem ops_str {P : Program} {t : TypeId} (hu : P.underlying t = some .string) : OpS P t 1 ecS (fun s => s.length ≤ 9223372036854775807) := by
  intro H enc w base fuel held cs x h
  obtain ⟨s, rfl, _, hw⟩ := DataW.trod_string hu h
  exact ⟨s.data.toList, by unfold maxLen at hw; exact hw, rfl, repRow_one (.str _)⟩
theorem cell?_lt {w : World} {a : Addr} {v : Value} (h : w.cell? a = some v) : a.block < w.heap.size := by
  unfold World.cell? at h
  cases hb : w.heap[a.block]? with
  | none => rw [hb] at h; cases h
  | some q => exact (Array.getElem?_eq_some_iff.1 hb).1
theorem rows_at {α : Type} {n : Nat} (h0 : 0 < n) : ∀ (rows : List (List α)), (∀ r, r ∈ rows → r.length = n) → ∀ (j : Nat) (x : α), rows.flatten[j]? = some x → ∃ row, rows[j / n]? = some row ∧ row[j % n]? = some x
  | [], _, j, x, hj => by simp at hj
  | r :: l, h, j, x, hj => by
    have hr := h r (List.mem_cons_self ..)
    rw [List.flatten_cons] at hj
    by_cases hlt : j < n
    · rw [List.getElem?_append_left (by omega)] at hj
      exact ⟨r, by rw [Nat.div_eq_of_lt hlt]; rfl, by rw [Nat.mod_eq_of_lt hlt]; exact hj⟩
    · rw [List.getElem?_append_right (by omega), hr] at hj
      obtain ⟨row, h1, h2⟩ := rows_at h0 l (fun q hq => h q (List.mem_cons_of_mem _ hq)) (j - n) x hj
      refine ⟨row, ?_, ?_⟩
      · rw [Nat.div_eq_sub_div h0 (by omega)]
        exact h1
      · rw [Nat.mod_eq_sub_mod (by omega)]
        exact h2
theorem ops_slice {α : Type} {P : Program} {t e : TypeId} {n : Nat} {encE : α → List Sc} {W : α → Prop} (hu : P.underlying t = some (.slice e)) (hc : P.cellsOf e = n) (h0 : 0 < n) (he : OpS P e n encE W) : OpS P t 1 (fun l : List α => [.sl (l.map encE)]) (fun l => l.length ≤ 9223372036854775807 ∧ ∀ x ∈ l, W x) := by
  intro H enc w base fuel held cs x h
  rcases DataW.trod_slice hu h with ⟨rfl, _⟩ | ⟨a, len, cap, elems, rest, m, _, rfl, _, _, hl, hm, hlen, hel, _⟩
  · exact ⟨[], ⟨by simp, by simp⟩, rfl, repRow_one (.sl [] none 0 0 0 0 (fun _ => undef) (Nat.le_refl _) (fun _ => rfl) (by simp) (fun h => absurd rfl h) (fun j sc hj => by simp at hj) (fun j sc hj => by simp at hj))⟩
  have each : ∀ i : Fin len, ∃ y : α, W y ∧ (encE y).length = n ∧ ∃ c : List Value, RepRow w (encE y) c ∧ ∀ j u, c[j]? = some u → w.cell? (a.add (i.val * n + j)) = some u := by
    intro i
    have h1 := hel i.val i.isLt
    rw [hc, List.getElem?_eq_getElem (by omega), Option.bind_eq_some_iff] at h1
    obtain ⟨cs', h2, h3⟩ := h1
    obtain ⟨y, hw, hn, hk⟩ := he H enc w base m held cs' _ h3
    obtain ⟨_, hl2, hc2⟩ := World.cells?_some h2
    refine ⟨y, hw, hn, cs', hk, fun j u hu => ?_⟩
    have hj : j < cs'.length := (List.getElem?_eq_some_iff.1 hu).1
    have h4 := hc2 j (by omega)
    rw [Addr.add_add] at h4
    rw [h4, hu]
  have hL : ((List.finRange len).map fun i => (each i).choose).length = len := by simp
  have hlen_rows : (((List.finRange len).map fun i => (each i).choose).map encE).length = len := by simp
  have hst : ∀ r, r ∈ ((List.finRange len).map fun i => (each i).choose).map encE → r.length = n := by
    intro r hr
    obtain ⟨y, hy, rfl⟩ := List.mem_map.1 hr
    obtain ⟨i, _, rfl⟩ := List.mem_map.1 hy
    exact (each i).choose_spec.2.1
  -- every cell
  have cell : ∀ j sc, (((List.finRange len).map fun i => (each i).choose).map encE).flatten[j]? = some sc → ∃ u, w.cell? (a.add j) = some u ∧ RepD w (fun k => k < w.heap.size) sc u := by
    intro j sc hj
    obtain ⟨row, h1, h2⟩ := rows_at h0 _ hst j sc hj
    rw [List.getElem?_map, Option.map_eq_some_iff] at h1
    obtain ⟨y, h3, rfl⟩ := h1
    rw [List.getElem?_map, Option.map_eq_some_iff] at h3
    obtain ⟨i, h4, rfl⟩ := h3
    obtain ⟨hlt, h5⟩ := List.getElem?_eq_some_iff.1 h4
    have hij : i.val = j / n := by rw [← h5]; simp
    obtain ⟨_, hn, c, hk, hcell⟩ := (each i).choose_spec
    have hjn : j % n < c.length := by rw [hk.1, hn]; exact Nat.mod_lt _ h0
    have h6 := hcell (j % n) c[j % n] (List.getElem?_eq_getElem hjn)
    rw [hij, show j / n * n + j % n = j by rw [Nat.mul_comm]; exact Nat.div_add_mod j n] at h6
    have h7 := hk.2 (j % n) sc h2
    rw [List.getD, List.getElem?_eq_getElem hjn] at h7
    exact ⟨_, h6, h7⟩
  refine ⟨(List.finRange len).map fun i => (each i).choose, ⟨by rw [hL]; unfold maxLen at hm; omega, fun y hy => ?_⟩, rfl, repRow_one ?_⟩
  · obtain ⟨i, _, rfl⟩ := List.mem_map.1 hy
    exact (each i).choose_spec.1
  · have hlen2 : (Value.slice (some a) len cap) = .slice (some a) (((List.finRange len).map fun i => (each i).choose).map encE).length cap := by rw [hlen_rows]
    rw [hlen2]
    generalize hR : (((List.finRange len).map fun i => (each i).choose).map encE) = rows at hst cell hlen_rows
    by_cases hne : rows = []
    · subst hne
      exact .sl [] (some a) cap n 0 0 (fun _ => undef) (Nat.zero_le _) (fun h => by cases h) hst (fun h => absurd rfl h) (fun j sc hj => by simp at hj) (fun j sc hj => by simp at hj)
    · have hf : ∃ sc, rows.flatten[0]? = some sc := by
        cases rows with
        | nil => exact absurd rfl hne
        | cons r l =>
          have := hst r (List.mem_cons_self ..)
          cases r with
          | nil => simp at this; omega
          | cons x r => exact ⟨x, rfl⟩
      obtain ⟨sc0, hf⟩ := hf
      obtain ⟨u0, hu0, _⟩ := cell 0 sc0 hf
      have hsp : a.spot = none := by
        rw [show a.add 0 = a from rfl] at hu0
        unfold World.cell? at hu0
        cases hs : a.spot with
        | none => rfl
        | some q => rw [hs] at hu0; simp at hu0; split at hu0 <;> cases hu0
      obtain ⟨b, o, q⟩ := a
      simp only at hsp
      subst hsp
      have hadd : ∀ j, (⟨b, o, none⟩ : Addr).add j = ⟨b, o + j, none⟩ := by
        intro j
        unfold Addr.add
        split
        · rename_i h; subst h; rfl
        · rfl
      refine .sl rows _ cap n b o (fun j => (w.cell? ⟨b, o + j, none⟩).getD undef) (by omega) (fun h => by cases h) hst (fun _ => ⟨rfl, (cell?_lt hu0)⟩) (fun j sc hj => ?_) (fun j sc hj => ?_)
      · obtain ⟨u, h1, _⟩ := cell j sc hj
        rw [hadd] at h1
        rw [h1]; rfl
      · obtain ⟨u, h1, h2⟩ := cell j sc hj
        rw [hadd] at h1
        simp only [h1, Option.getD_some]
        exact h2
/-- The fields from the i-th on, which begin at cell o. -/
def OpSF {α : Type} (P : Program) (fs : Array Field) (i o T : Nat) (enc : α → List Sc) (W : α → Prop) : Prop :=
  ∀ (H : Type) (enc' : TypeId × Value → H) (w : World) (base n : Nat) (held : Bool) (cs : List Value), cs.length = T →
    (∀ (j : Nat) (f : Field), fs[j]? = some f → ∃ y, DataW.trod enc' P w base (fun _ => true) held n f.type ((cs.drop f.offset).take (P.cellsOf f.type)) = some y) → ∃ a, W a ∧ (enc a).length + o = T ∧ RepRow w (enc a) (cs.drop o)
theorem OpSF.one {α : Type} {P : Program} {fs : Array Field} {i o T n : Nat} {f : Field} {enc : α → List Sc} {W : α → Prop} (hf : fs[i]? = some f) (ho : f.offset = o) (hc : P.cellsOf f.type = n) (hT : T = o + n) (h : OpS P f.type n enc W) : OpSF P fs i o T enc W := by
  intro H enc' w base m held cs hl hall
  obtain ⟨y, hy⟩ := hall i f hf
  rw [ho, hc, List.take_of_length_le (by rw [List.length_drop]; omega)] at hy
  obtain ⟨a, h1, h2, h3⟩ := h H enc' w base m held _ y hy
  exact ⟨a, h1, by omega, h3⟩
theorem OpSF.cons {α β : Type} {P : Program} {fs : Array Field} {i o T n : Nat} {f : Field} {enc : α → List Sc} {W : α → Prop} {enc2 : β → List Sc} {W2 : β → Prop} (hf : fs[i]? = some f) (ho : f.offset = o) (hc : P.cellsOf f.type = n) (h : OpS P f.type n enc W) (h2 : OpSF P fs (i + 1) (o + n) T enc2 W2) :
    OpSF P fs i o T (fun x : α × β => enc x.1 ++ enc2 x.2) (fun x => W x.1 ∧ W2 x.2) := by
  intro H enc' w base m held cs hl hall
  obtain ⟨y, hy⟩ := hall i f hf
  rw [ho, hc] at hy
  obtain ⟨a, hw, hn, hk⟩ := h H enc' w base m held _ y hy
  obtain ⟨b, hw2, hn2, hk2⟩ := h2 H enc' w base m held cs hl hall
  refine ⟨(a, b), ⟨hw, hw2⟩, by simp only [List.length_append]; omega, RepRow.append n hn hk ?_ ?_⟩
  · rw [List.drop_drop]
    exact hk2
  · rw [List.length_drop]
    omega
theorem ops_struct {α β : Type} {P : Program} {t : TypeId} {fs : Array Field} {T : Nat} {enc : α → List Sc} {W : α → Prop} {enc2 : β → List Sc} {W2 : β → Prop} (g : α → β) (hu : P.underlying t = some (.struct fs)) (hc : P.cellsOf t = T) (h : OpSF P fs 0 0 T enc W) (hg : ∀ a, enc a = enc2 (g a)) (hW : ∀ a, W a → W2 (g a)) : OpS P t T enc2 W2 := by
  intro H enc' w base fuel held cs x hx
  obtain ⟨xs, n, _, _, hl, hxl, hall⟩ := DataW.trod_struct hu hx
  obtain ⟨a, hw, hn, hk⟩ := h H enc' w base n held cs (by omega) (fun j fl hj => by
    have hj2 : j < xs.length := by rw [hxl]; exact (Array.getElem?_eq_some_iff.1 hj).1
    exact ⟨xs[j], by rw [hall j fl hj, List.getElem?_eq_getElem hj2]⟩)
  rw [List.drop_zero] at hk
  exact ⟨g a, hW a hw, by rw [← hg]; omega, by rw [← hg]; exact hk⟩
/-- A value that says this, in a world in which nobody changes what is there. -/
def At (w : World) (x : Vb) (v : Value) : Prop := RepB w (fun k => k < w.heap.size) (fun _ => none) (fun _ => none) x v
open Go.ChangeShapes Go.WideShapes in
theorem arg_slice {α : Type} {P : Program} {t e : TypeId} {enc : α → List Sc} {W : α → Prop} {H : Type} {enc' : TypeId × Value → H} {w : World} {base b0 : Nat} {held : Bool} {v : Value} {dd : DataW H} {ps : List MemPlace} (hu : P.underlying t = some (.slice e)) (ho : OpS P t 1 (fun l : List α => [.sl (l.map enc)]) (fun l => l.length ≤ 9223372036854775807 ∧ ∀ x ∈ l, W x)) (hok : Value.okWide P w .any b0 t v) (h : DataW.Trod enc' P w base (fun _ => true) held t v dd ps) : ∃ l : List α, At w (.s (.d (.sl (l.map enc)))) v ∧ l.length ≤ 9223372036854775807 ∧ ∀ x ∈ l, W x := by
  obtain ⟨a, len, cap, rfl⟩ := okWide_slice hu hok
  obtain ⟨fuel, hf⟩ := h
  obtain ⟨l, hw, hn, hk⟩ := ho H enc' w base fuel held _ _ hf
  exact ⟨l, .d _ _ (hk.2 0 _ rfl), hw⟩
open Go.ChangeShapes Go.WideShapes in
theorem arg_struct {α : Type} {P : Program} {t : TypeId} {fs : Array Field} {n : Nat} {enc : α → List Sc} {W : α → Prop} {H : Type} {enc' : TypeId × Value → H} {w : World} {base b0 : Nat} {held : Bool} {v : Value} {dd : DataW H} {ps : List MemPlace} (hu : P.underlying t = some (.struct fs)) (ho : OpS P t n enc W) (hok : Value.okWide P w .any b0 t v) (h : DataW.Trod enc' P w base (fun _ => true) held t v dd ps) : ∃ a, At w (.agg ((enc a).map Lc.d)) v ∧ W a := by
  have h2 : ∃ cs, v = .agg cs ∧ cs.size = P.cellsOf t ∧ Row.okWide P w .any b0 t cs := by
    unfold Value.okWide at hok
    rw [hu] at hok
    exact hok
  obtain ⟨cs, rfl, _⟩ := h2
  obtain ⟨fuel, hf⟩ := h
  obtain ⟨a, hw, hn, hk⟩ := ho H enc' w base fuel held _ _ hf
  refine ⟨a, ⟨cs, rfl, ?_, fun j lc hj => ?_⟩, hw⟩
  · have : cs.toList.length = (enc a).length := hk.1
    simpa using this
  · rw [List.getElem?_map, Option.map_eq_some_iff] at hj
    obtain ⟨sc, hj, rfl⟩ := hj
    have : RepD w _ sc (cs.toList.getD j undef) := hk.2 j sc hj
    refine .d _ _ ?_
    simpa [List.getD, Array.getD_eq_getD_getElem?] using this
open Go.ChangeShapes Go.WideShapes in
theorem arg_int {P : Program} {t : TypeId} {k : IntKind} {H : Type} {enc' : TypeId × Value → H} {w : World} {base b0 : Nat} {held : Bool} {v : Value} {dd : DataW H} {ps : List MemPlace} (hu : P.underlying t = some (.int k)) (hok : Value.okWide P w .any b0 t v) (h : DataW.Trod enc' P w base (fun _ => true) held t v dd ps) : ∃ n, At w (.s (.d (.int k n))) v ∧ (Lit.int k n).wf = true := by
  obtain ⟨n, rfl, _, _, hw⟩ := open_int hu hok h
  exact ⟨n, .d _ _ (.int _ _), hw⟩
open Go.ChangeShapes Go.WideShapes in
theorem arg_bool {P : Program} {t : TypeId} {H : Type} {enc' : TypeId × Value → H} {w : World} {base b0 : Nat} {held : Bool} {v : Value} {dd : DataW H} {ps : List MemPlace} (hu : P.underlying t = some .bool) (hok : Value.okWide P w .any b0 t v) (h : DataW.Trod enc' P w base (fun _ => true) held t v dd ps) : ∃ n, At w (.s (.d (.bool n))) v ∧ True := by
  obtain ⟨n, rfl, _, _⟩ := open_bool hu hok h
  exact ⟨n, .d _ _ (.bool _), trivial⟩
open Go.ChangeMaps in
theorem arg_str {P : Program} {t : TypeId} {H : Type} {enc' : TypeId × Value → H} {w : World} {base b0 : Nat} {held : Bool} {v : Value} {dd : DataW H} {ps : List MemPlace} (hu : P.underlying t = some .string) (hok : Value.okWide P w .any b0 t v) (h : DataW.Trod enc' P w base (fun _ => true) held t v dd ps) : ∃ s : List UInt8, At w (.s (.d (.str s))) v ∧ dd = .lit (.string s) ∧ s.length ≤ 9223372036854775807 := by
  obtain ⟨s, rfl, hd, _, hw⟩ := open_string hu hok h
  exact ⟨s.data.toList, .d _ _ (.str _), hd, by unfold maxLen at hw; exact hw⟩
def AtAll (w : World) : List Vb → List Value → Prop
  | [], [] => True
  | x :: l, v :: vs => At w x v ∧ AtAll w l vs
  | _, _ => False
theorem AtAll.get {w : World} : ∀ {xs : List Vb} {vs : List Value}, AtAll w xs vs → vs.length = xs.length ∧ ∀ (j : Nat) x, xs[j]? = some x → At w x (vs.getD j undef)
  | [], [], _ => ⟨rfl, fun j x hj => by cases hj⟩
  | [], _ :: _, h => h.elim
  | _ :: _, [], h => h.elim
  | x :: l, v :: vs, h => by
    obtain ⟨h1, h2⟩ := AtAll.get h.2
    refine ⟨by simp [h1], fun j y hj => ?_⟩
    cases j with
    | zero => cases hj; exact h.1
    | succ j => exact h2 j y hj
/-- A law, out of what is shown of its function. -/
theorem Fun.law {P : Program} {f : FuncId} {xs : List Vb} {b : Bool} {vs : List Value} {w : World} (h : Fun P (fun _ => none) f (xs.map Va.b) (.bo b)) (hx : AtAll w xs vs) : Calls P f vs.toArray w fun e w1 => e = .returned (.bool b) ∧ Below w.heap.size w w1 := by
  obtain ⟨hl, hg⟩ := hx.get
  refine (h.2 w (fun k => k < w.heap.size) vs.toArray (fun _ h => h) (fun g cs hg => by cases hg) ⟨by simpa using hl, fun j x hj => ?_⟩).mono fun e w1 => ?_
  · rw [List.getElem?_map, Option.map_eq_some_iff] at hj
    obtain ⟨y, hj, rfl⟩ := hj
    have := hg j y hj
    show At w y _
    simpa [Array.getD_eq_getD_getElem?, List.getD] using this
  · rintro ⟨u, S1, rfl, _, _, hr, hb⟩
    refine ⟨?_, hb⟩
    cases hr with
    | d _ _ h => cases h with | bool _ => rfl
section
variable {P : Program} {w : World} {S : Nat → Prop} {ρ : Nat → Option Nat} {G : Hf}
theorem repv_str {l : List UInt8} {v : Value} (h : RepV w S ρ G (.st l) v) : v = strV l := by
  cases h with
  | d _ _ h => cases h with | str _ => rfl
theorem repv_int {k : IntKind} {n : Int} {v : Value} (h : RepV w S ρ G (.i k n) v) : v = .int k n := by
  cases h with
  | d _ _ h => cases h with | int _ _ => rfl
theorem repv_bool {b : Bool} {v : Value} (h : RepV w S ρ G (.bo b) v) : v = .bool b := by
  cases h with
  | d _ _ h => cases h with | bool _ => rfl
theorem args0 {vs : Array Value} (h : RepA w S [] vs) : vs = #[] := by
  obtain ⟨h, _⟩ := h
  exact Array.eq_empty_of_size_eq_zero h
theorem args1 {x : Va} {vs : Array Value} (h : RepA w S [x] vs) : ∃ v, vs = #[v] ∧ RepV w S (fun _ => none) (fun _ => none) x v := by
  obtain ⟨vs⟩ := vs
  obtain ⟨hl, hr⟩ := h
  match vs, hl with
  | [v], _ => exact ⟨v, rfl, hr 0 x rfl⟩
theorem args2 {x y : Va} {vs : Array Value} (h : RepA w S [x, y] vs) : ∃ v u, vs = #[v, u] ∧ RepV w S (fun _ => none) (fun _ => none) x v ∧ RepV w S (fun _ => none) (fun _ => none) y u := by
  obtain ⟨vs⟩ := vs
  obtain ⟨hl, hr⟩ := h
  match vs, hl with
  | [v, u], _ => exact ⟨v, u, rfl, hr 0 x rfl, hr 1 y rfl⟩
theorem args3 {x y z : Va} {vs : Array Value} (h : RepA w S [x, y, z] vs) : ∃ v u t, vs = #[v, u, t] ∧ RepV w S (fun _ => none) (fun _ => none) x v ∧ RepV w S (fun _ => none) (fun _ => none) y u ∧ RepV w S (fun _ => none) (fun _ => none) z t := by
  obtain ⟨vs⟩ := vs
  obtain ⟨hl, hr⟩ := h
  match vs, hl with
  | [v, u, t], _ => exact ⟨v, u, t, rfl, hr 0 x rfl, hr 1 y rfl, hr 2 z rfl⟩
/-- A function whose answer is no row, of which it is known what it hands back. -/
theorem Fun.flat {gl : Gl} {f : FuncId} {xs : List Va} {y : Va} {v : Value} (hc : callable P f = true) (hy : ∀ w S, RepV w S (fun _ => none) (fun _ => none) y v) (h : ∀ w S vs, RepA w S xs vs → Calls P f vs w fun e w1 => e = .returned v ∧ Below w.heap.size w w1) : Fun P gl f xs y := by
  refine ⟨hc, fun w S vs hS hgl hA => (h w S vs hA).mono fun e w1 => ?_⟩
  rintro ⟨rfl, hb⟩
  exact ⟨v, S, rfl, fun _ h => h, fun k hk => ⟨.inl hk, Nat.lt_of_lt_of_le (hS k hk) hb.size⟩, hy _ _, hb⟩
theorem of_str (l : List UInt8) : ∀ w S, RepV w S (fun _ => none) (fun _ => none) (.st l) (strV l) := fun _ _ => .d _ _ (.str _)
theorem of_int (k : IntKind) (n : Int) : ∀ w S, RepV w S (fun _ => none) (fun _ => none) (.i k n) (.int k n) := fun _ _ => .d _ _ (.int _ _)
theorem of_bool (b : Bool) : ∀ w S, RepV w S (fun _ => none) (fun _ => none) (.bo b) (.bool b) := fun _ _ => .d _ _ (.bool _)
end
end Go.Proofs.Ytjpomfbkfgkifaa.V
end

section
/- Closed facts on the element types, and small words, for all hand-proved contracts of this seat. -/
namespace Go.Proofs
theorem Try.info_u8 : (Try.prog.info? 5).map (fun i => (i.zero, i.size, i.bytes)) = some (some (.int .u8 0), 1, 1) := by kernel_rfl
theorem Try.info_str : (Try.prog.info? 9).map (fun i => (i.zero, i.size, i.bytes)) = some (some (.string ⟨#[]⟩), 1, 16) := by kernel_rfl
theorem Try.info_int : (Try.prog.info? 3).map (fun i => (i.zero, i.size, i.bytes)) = some (some (.int .i64 0), 1, 8) := by kernel_rfl
end Go.Proofs
namespace Go.Proofs.Ytjpomfbkfgkifaa
open Go.RowKit
theorem hid {p : Prop} (h : p) : Hid p := h
theorem wf_u64_lo {n : Int} (h : (Lit.int .u64 n).wf = true) : 0 ≤ n := (bounds_u64 h).1
theorem wf_i64_lo {n : Int} (h : (Lit.int .i64 n).wf = true) : -9223372036854775808 ≤ n := (bounds_i64 h).1
theorem wf_i64_hi {n : Int} (h : (Lit.int .i64 n).wf = true) : n ≤ 9223372036854775807 := (bounds_i64 h).2
section
open Go.Proofs.YtjpomfbkfgkifaaW.PrintWords Go.Proofs.YtjpomfbkfgkifaaW.PrintLast Go.Proofs.YtjpomfbkfgkifaaW.PrintMore
variable {ops : Array Oper} {rest : List Oper} {o : Oper} {a : Act} {Q : Exit → Act → World → Prop}
/-- '[]byte{}' -/
theorem Try.none_u8 {w : World} (hgd : o.guard = none) {N : Tmp} (hd : o.dst = some N) (hrun : (execOp a.eval o).run Try.prog w = .ok (.value (.slice (some ⟨w.heap.size, 0, none⟩) 0 0)) (w.alloc (.cells #[] 5)))
    (h : ∀ v1 w1, (Kd.int .u8).R 5 w1 w.heap.size (fun _ => True) v1 [] → Below w.heap.size w w1 → wpList Try.prog ops Q rest (a.put o.dst v1) w1) : wpList Try.prog ops Q (o :: rest) a w :=
  Kd.R_lit (Kd.int .u8) _ 5 hgd hd (xs := ([] : List Int)) (inner := []) (ok := fun _ => True) (okp := fun _ => True) hrun (Reps.none _ _) (fun _ hk => hk) trivial (Below.refl _ _) (Nat.le_refl _) (by simp) (fun v1 w1 h1 h2 _ _ => h v1 w1 h1 h2)
/-- 'b = append(b, c)', b of the call's own. -/
theorem Try.app_u8 {base : Nat} {w W : World} (hgd : o.guard = none) (s x : Operand) (ho : o.op = .call { callee := .builtin .append, args := #[s, x], argTypes := #[26, 26] })
    (v : Value) (xs : List Int) (p : Int) (hs : a.eval s = v) (hx : a.eval x = .slice (some ⟨W.heap.size, 0, none⟩) 1 1) (HO : (Kd.int .u8).R 5 W base (fun _ => True) v xs) (HB : Below base w W) (hbase : base ≤ W.heap.size) (hl : xs.length + 1 ≤ 140737488355328)
    (h : ∀ v1 w1, (Kd.int .u8).R 5 w1 base (fun _ => True) v1 (xs ++ [p]) → Below base w w1 → wpList Try.prog ops Q rest (a.put o.dst v1) w1) : wpList Try.prog ops Q (o :: rest) a (W.alloc (.cells #[.int .u8 p] 5)) :=
  Kd.R_append (Kd.int .u8) (w0 := w) base hgd s x 26 5 (.int .u8 0) 1 ho Try.underlying26 Try.info_u8 rfl (by decide) (by omega) v xs p [.int .u8 p] (fun _ => True) (fun _ => False) hs hx rfl (fun _ hk => hk.elim) (fun _ _ => trivial) HO HB hbase (by omega) (fun v1 w1 h1 h2 _ _ => h v1 w1 h1 h2)
/-- .. and what else stands: another block g. -/
theorem Try.app_u8g {base g : Nat} {ob : Obj} {w W : World} (hgd : o.guard = none) (s x : Operand) (ho : o.op = .call { callee := .builtin .append, args := #[s, x], argTypes := #[26, 26] })
    (v : Value) (xs : List Int) (p : Int) (hs : a.eval s = v) (hx : a.eval x = .slice (some ⟨W.heap.size, 0, none⟩) 1 1) (HO : (Kd.int .u8).R 5 W base (fun k => k ≠ g) v xs) (HB : Below base w W) (hblk : W.heap[g]? = some ob) (hbase : base ≤ W.heap.size) (hl : xs.length + 1 ≤ 140737488355328)
    (h : ∀ v1 w1, (Kd.int .u8).R 5 w1 base (fun k => k ≠ g) v1 (xs ++ [p]) → Below base w w1 → w1.heap[g]? = some ob → wpList Try.prog ops Q rest (a.put o.dst v1) w1) : wpList Try.prog ops Q (o :: rest) a (W.alloc (.cells #[.int .u8 p] 5)) :=
  Kd.R_append (Kd.int .u8) (w0 := w) base hgd s x 26 5 (.int .u8 0) 1 ho Try.underlying26 Try.info_u8 rfl (by decide) (by omega) v xs p [.int .u8 p] (fun k => k ≠ g) (fun _ => False) hs hx rfl (fun _ hk => hk.elim) (fun k hk => by have := blk_lt hblk; omega) HO HB hbase (by omega)
    (fun v1 w1 h1 h2 h3 _ => h v1 w1 h1 h2 (blk_grown hblk h3 (fun e => HO.1 g e.symm rfl)))
/-- 'make([]byte, n)' -/
theorem Try.make_u8 {w W : World} (hgd : o.guard = none) {N : Tmp} (hd : o.dst = some N) (x y : Operand) (ho : o.op = .makeSlice 26 x y) (n : Int) (hx : a.eval x = .int .i64 n) (hy : a.eval y = .int .i64 n) (base : Nat) (m : Nat) (hm : n = m)
    (hl : m ≤ 281474976710656) (HB : Below base w W) (hbase : base ≤ W.heap.size)
    (h : ∀ A1 c1 w1, (Kd.int .u8).R 5 w1 base (fun _ => True) (.slice A1 m c1) (List.replicate m 0) → Below base w w1 → wpList Try.prog ops Q rest (a.put o.dst (.slice A1 m c1)) w1) : wpList Try.prog ops Q (o :: rest) a W := by
  subst hm
  refine Kd.R_make (Kd.int .u8) base 5 hgd hd 26 x y ho (m : Int) hx hy Try.underlying26 (.int .u8 0) 1 Try.info_u8 rfl (by decide) (by omega) 0 (ok := fun _ => True) (okp := fun _ => True) rfl (fun _ hk => hk) trivial (by omega) (by omega) HB hbase ?_
  intro v1 w1 h1 h2 _ _
  rw [Int.toNat_natCast] at h1
  obtain ⟨A1, c1, rfl⟩ := Kd.R_slice h1
  rw [List.length_replicate] at h1 ⊢
  exact h A1 c1 w1 h1 h2
/-- '[]string{}' -/
theorem Try.none_str {w : World} (hgd : o.guard = none) {N : Tmp} (hd : o.dst = some N) (hrun : (execOp a.eval o).run Try.prog w = .ok (.value (.slice (some ⟨w.heap.size, 0, none⟩) 0 0)) (w.alloc (.cells #[] 9)))
    (h : ∀ v1 w1, Kd.string.R 9 w1 w.heap.size (fun _ => True) v1 [] → Below w.heap.size w w1 → wpList Try.prog ops Q rest (a.put o.dst v1) w1) : wpList Try.prog ops Q (o :: rest) a w :=
  Kd.R_lit Kd.string _ 9 hgd hd (xs := ([] : List ByteArray)) (inner := []) (ok := fun _ => True) (okp := fun _ => True) hrun (Reps.none _ _) (fun _ hk => hk) trivial (Below.refl _ _) (Nat.le_refl _) (by simp) (fun v1 w1 h1 h2 _ _ => h v1 w1 h1 h2)
/-- 'l = append(l, m...)', l of the call's own, m read; texts. -/
theorem Try.app_strs {base : Nat} {w W : World} (hgd : o.guard = none) (s x : Operand) (ho : o.op = .call { callee := .builtin .append, args := #[s, x], argTypes := #[22, 22] })
    (v : Value) (xs ys : List ByteArray) (A : Option Addr) (m c : Nat) (hs : a.eval s = v) (hx : a.eval x = .slice A m c) (HO : Kd.string.R 9 W base (fun _ => True) v xs) (HR : Kd.string.C W A m ys) (HB : Below base w W) (hbase : base ≤ W.heap.size) (hl : (xs.length + m) * 16 ≤ 140737488355328)
    (h : ∀ A1 c1 w1, Kd.string.R 9 w1 base (fun _ => True) (.slice A1 (xs ++ ys).length c1) (xs ++ ys) → Below base w w1 → wpList Try.prog ops Q rest (a.put o.dst (.slice A1 (xs ++ ys).length c1)) w1) : wpList Try.prog ops Q (o :: rest) a W := by
  refine Kd.R_append_row Value.string ByteArray.empty (h1 := fun _ => rfl) (w0 := w) base hgd s x 22 9 (.string ⟨#[]⟩) 16 ho Try.underlying22 Try.info_str rfl (by decide) v xs ys A m c (fun _ => True) hs hx (fun _ _ => trivial) HO HR HB hbase hl ?_
  intro v1 w1 h1 h2 _ _
  obtain ⟨A1, c1, rfl⟩ := Kd.R_slice h1
  exact h A1 c1 w1 h1 h2
/-- 'l = append(l, s)', l of the call's own; texts. -/
theorem Try.app_str {base : Nat} {w W : World} (hgd : o.guard = none) (s x : Operand) (ho : o.op = .call { callee := .builtin .append, args := #[s, x], argTypes := #[22, 22] })
    (v : Value) (xs : List ByteArray) (p : ByteArray) (hs : a.eval s = v) (hx : a.eval x = .slice (some ⟨W.heap.size, 0, none⟩) 1 1) (HO : Kd.string.R 9 W base (fun _ => True) v xs) (HB : Below base w W) (hbase : base ≤ W.heap.size) (hl : (xs.length + 1) * 16 ≤ 140737488355328)
    (h : ∀ v1 w1, Kd.string.R 9 w1 base (fun _ => True) v1 (xs ++ [p]) → Below base w w1 → wpList Try.prog ops Q rest (a.put o.dst v1) w1) : wpList Try.prog ops Q (o :: rest) a (W.alloc (.cells #[.string p] 9)) :=
  Kd.R_append Kd.string (w0 := w) base hgd s x 22 9 (.string ⟨#[]⟩) 16 ho Try.underlying22 Try.info_str rfl (by decide) (by omega) v xs p [.string p] (fun _ => True) (fun _ => False) hs hx rfl (fun _ hk => hk.elim) (fun _ _ => trivial) HO HB hbase hl (fun v1 w1 h1 h2 _ _ => h v1 w1 h1 h2)
end
end Go.Proofs.Ytjpomfbkfgkifaa
end

section
/- The shelf contracts that this seat uses, in plain words. -/
namespace Go.Proofs
open Go.Shelf
def Try.lays170_ren : Go.Shelf.Ren := ⟨fun | 170 => 36 | n => n, fun | 70 => 63 | 3 => 3 | 0 => 0 | 72 => 65 | 37 => 26 | 5 => 5 | n => n, fun | n => n⟩
theorem Try.lays170 : Go.Proofs.Lays.n170 Try.prog Try.lays170_ren := {
  mixed := by kernel_rfl
  f170 := Try.func36.trans (congrArg some (by kernel_rfl))
  t0 := Try.underlying0
  a0 := Try.isAgg0
  z0 := Try.sizeOf0
  v0 := Try.zeroValue0
  t3 := Try.underlying3
  a3 := Try.isAgg3
  z3 := Try.sizeOf3
  v3 := Try.zeroValue3
  t37 := Try.underlying26
  a37 := Try.isAgg26
  z37 := Try.sizeOf26
  v37 := Try.zeroValue26
  t70 := Try.underlying63
  a70 := Try.isAgg63
  z70 := Try.sizeOf63
  v70 := Try.zeroValue63
  t72 := Try.underlying65
  a72 := Try.isAgg65
  z72 := Try.sizeOf65
  v72 := Try.zeroValue65 }
open Go.RowKit in
theorem Try.Builder_Len (B b : Nat) (bs : List Value) (w : World) (h : Lib.IsBuilder 65 5 B b bs w) :
    Calls Try.prog 36 #[.pointer (some ⟨b, 0, none⟩)] w fun e w' => e = .returned (.int .i64 bs.length) ∧ w' = w := Any.Builder_Len Try.lays170 B b bs w h
def Try.lays169_ren : Go.Shelf.Ren := ⟨fun | 169 => 37 | n => n, fun | 70 => 63 | 9 => 9 | 0 => 0 | 72 => 65 | 37 => 26 | 127 => 82 | 3 => 3 | 5 => 5 | n => n, fun | n => n⟩
theorem Try.lays169 : Go.Proofs.Lays.n169 Try.prog Try.lays169_ren := {
  mixed := by kernel_rfl
  f169 := Try.func37.trans (congrArg some (by kernel_rfl))
  t0 := Try.underlying0
  a0 := Try.isAgg0
  z0 := Try.sizeOf0
  v0 := Try.zeroValue0
  t3 := Try.underlying3
  a3 := Try.isAgg3
  z3 := Try.sizeOf3
  v3 := Try.zeroValue3
  t9 := Try.underlying9
  a9 := Try.isAgg9
  z9 := Try.sizeOf9
  v9 := Try.zeroValue9
  t37 := Try.underlying26
  a37 := Try.isAgg26
  z37 := Try.sizeOf26
  v37 := Try.zeroValue26
  t70 := Try.underlying63
  a70 := Try.isAgg63
  z70 := Try.sizeOf63
  v70 := Try.zeroValue63
  t72 := Try.underlying65
  a72 := Try.isAgg65
  z72 := Try.sizeOf65
  v72 := Try.zeroValue65
  t127 := Try.underlying82
  a127 := Try.isAgg82
  z127 := Try.sizeOf82
  v127 := Try.zeroValue82 }
theorem Try.Builder_Extra_169 : Builder.Extra Try.prog Try.lays169_ren := {
  sizeBuilder := by kernel_rfl
  liesBuilder := by kernel_rfl
  t5 := Try.underlying5
  a5 := Try.isAgg5
  z5 := Try.sizeOf5
  v5 := Try.zeroValue5
  infoByte := by kernel_rfl
  cellsByte := by kernel_rfl
  sizeByte := by kernel_rfl
  neB5 := by decide }
open Go.RowKit in
theorem Try.Builder_String (B b : Nat) (l : List UInt8) (w : World) (h : Lib.IsBuilder 65 5 B b (Lib.byteCells l) w) (h0 : l ≠ []) :
    Calls Try.prog 37 #[.pointer (some ⟨b, 0, none⟩)] w fun e w' => e = .returned (.string ⟨l.toArray⟩) ∧ Below B w w' := Any.Builder_String Try.lays169 Try.Builder_Extra_169 B b l w h h0
open Go.RowKit in
theorem Try.Builder_String_empty (B b : Nat) (w : World) (h : Lib.IsBuilder 65 5 B b [] w) (hBw : B ≤ w.heap.size) :
    Calls Try.prog 37 #[.pointer (some ⟨b, 0, none⟩)] w fun e w' => e = .returned (.string ⟨#[]⟩) ∧ Below B w w' := Any.Builder_String_empty Try.lays169 Try.Builder_Extra_169 B b w h hBw
open Go.RowKit in
theorem Try.Builder_String_any (B b : Nat) (l : List UInt8) (w : World) (h : Lib.IsBuilder 65 5 B b (Lib.byteCells l) w) (hBw : B ≤ w.heap.size) :
    Calls Try.prog 37 #[.pointer (some ⟨b, 0, none⟩)] w fun e w' => e = .returned (.string ⟨l.toArray⟩) ∧ Below B w w' := Any.Builder_String_any Try.lays169 Try.Builder_Extra_169 B b l w h hBw
def Try.lays241_ren : Go.Shelf.Ren := ⟨fun | 241 => 45 | 277 => 47 | n => n, fun | 70 => 63 | 3 => 3 | 0 => 0 | 72 => 65 | 37 => 26 | 5 => 5 | n => n, fun | n => n⟩
theorem Try.lays241 : Go.Proofs.Lays.n241 Try.prog Try.lays241_ren := {
  mixed := by kernel_rfl
  f241 := Try.func45.trans (congrArg some (by kernel_rfl))
  f277 := Try.func47.trans (congrArg some (by kernel_rfl))
  t0 := Try.underlying0
  a0 := Try.isAgg0
  z0 := Try.sizeOf0
  v0 := Try.zeroValue0
  t3 := Try.underlying3
  a3 := Try.isAgg3
  z3 := Try.sizeOf3
  v3 := Try.zeroValue3
  t37 := Try.underlying26
  a37 := Try.isAgg26
  z37 := Try.sizeOf26
  v37 := Try.zeroValue26
  t70 := Try.underlying63
  a70 := Try.isAgg63
  z70 := Try.sizeOf63
  v70 := Try.zeroValue63
  t72 := Try.underlying65
  a72 := Try.isAgg65
  z72 := Try.sizeOf65
  v72 := Try.zeroValue65 }
theorem Try.Builder_Extra_241 : Builder.Extra Try.prog Try.lays241_ren := {
  sizeBuilder := by kernel_rfl
  liesBuilder := by kernel_rfl
  t5 := Try.underlying5
  a5 := Try.isAgg5
  z5 := Try.sizeOf5
  v5 := Try.zeroValue5
  infoByte := by kernel_rfl
  cellsByte := by kernel_rfl
  sizeByte := by kernel_rfl
  neB5 := by decide }
open Go.RowKit in
theorem Try.Builder_grow_fresh (B b n : Nat) (w : World) (hB : B ≤ b) (hbk : w.heap[b]? = some (.cells #[.pointer (some ⟨b, 0, none⟩), .slice none 0 0] 65 (0, 0))) (hBw : B ≤ w.heap.size) (hn : n ≤ 281474976710656) :
    Calls Try.prog 45 #[.pointer (some ⟨b, 0, none⟩), .int .i64 n] w fun e w' => e = .returned (.tuple #[]) ∧ (Lib.BuilderAt 65 5 B b (.pointer (some ⟨b, 0, none⟩)) [] w' ∧ Below B w w') := Any.Builder_grow_fresh Try.lays241 Try.Builder_Extra_241 B b n w hB hbk hBw hn
def Try.lays165_ren : Go.Shelf.Ren := ⟨fun | 165 => 34 | 240 => 44 | 241 => 45 | 276 => 46 | 277 => 47 | n => n, fun | 70 => 63 | 3 => 3 | 0 => 0 | 4 => 4 | 9 => 9 | 20 => 20 | 72 => 65 | 37 => 26 | 164 => 83 | 5 => 5 | n => n, fun | n => n⟩
theorem Try.lays165 : Go.Proofs.Lays.n165 Try.prog Try.lays165_ren := {
  mixed := by kernel_rfl
  f165 := Try.func34.trans (congrArg some (by kernel_rfl))
  f240 := Try.func44.trans (congrArg some (by kernel_rfl))
  f241 := Try.func45.trans (congrArg some (by kernel_rfl))
  f276 := Try.func46.trans (congrArg some (by kernel_rfl))
  f277 := Try.func47.trans (congrArg some (by kernel_rfl))
  t0 := Try.underlying0
  a0 := Try.isAgg0
  z0 := Try.sizeOf0
  v0 := Try.zeroValue0
  t3 := Try.underlying3
  a3 := Try.isAgg3
  z3 := Try.sizeOf3
  v3 := Try.zeroValue3
  t4 := Try.underlying4
  a4 := Try.isAgg4
  z4 := Try.sizeOf4
  v4 := Try.zeroValue4
  t9 := Try.underlying9
  a9 := Try.isAgg9
  z9 := Try.sizeOf9
  v9 := Try.zeroValue9
  t20 := Try.underlying20
  a20 := Try.isAgg20
  z20 := Try.sizeOf20
  v20 := Try.zeroValue20
  t37 := Try.underlying26
  a37 := Try.isAgg26
  z37 := Try.sizeOf26
  v37 := Try.zeroValue26
  t70 := Try.underlying63
  a70 := Try.isAgg63
  z70 := Try.sizeOf63
  v70 := Try.zeroValue63
  t72 := Try.underlying65
  a72 := Try.isAgg65
  z72 := Try.sizeOf65
  v72 := Try.zeroValue65
  t164 := Try.underlying83
  a164 := Try.isAgg83
  z164 := Try.sizeOf83
  v164 := Try.zeroValue83 }
theorem Try.Builder_Extra_165 : Builder.Extra Try.prog Try.lays165_ren := {
  sizeBuilder := by kernel_rfl
  liesBuilder := by kernel_rfl
  t5 := Try.underlying5
  a5 := Try.isAgg5
  z5 := Try.sizeOf5
  v5 := Try.zeroValue5
  infoByte := by kernel_rfl
  cellsByte := by kernel_rfl
  sizeByte := by kernel_rfl
  neB5 := by decide }
open Go.RowKit in
theorem Try.Builder_Grow_fresh (B b n : Nat) (w : World) (hB : B ≤ b) (hbk : w.heap[b]? = some (.cells #[.pointer none, .slice none 0 0] 65 (0, 0))) (hBw : B ≤ w.heap.size) (hn : n ≤ 281474976710656) :
    Calls Try.prog 34 #[.pointer (some ⟨b, 0, none⟩), .int .i64 n] w fun e w' => e = .returned (.tuple #[]) ∧ (Lib.BuilderAt 65 5 B b (.pointer (some ⟨b, 0, none⟩)) [] w' ∧ Below B w w') := Any.Builder_Grow_fresh Try.lays165 Try.Builder_Extra_165 B b n w hB hbk hBw hn
open Go.RowKit in
theorem Try.Builder_Len_f (B b : Nat) (bs : List Value) (w : World) (h : Lib.IsBuilderF 65 5 B b bs w) :
    Calls Try.prog 36 #[.pointer (some ⟨b, 0, none⟩)] w fun e w' => e = .returned (.int .i64 bs.length) ∧ w' = w := Any.Builder_Len_f Try.lays170 B b bs w h
open Go.RowKit in
theorem Try.Builder_String_f (B b : Nat) (l : List UInt8) (w : World) (h : Lib.IsBuilderF 65 5 B b (Lib.byteCells l) w) (h0 : l ≠ []) :
    Calls Try.prog 37 #[.pointer (some ⟨b, 0, none⟩)] w fun e w' => e = .returned (.string ⟨l.toArray⟩) ∧ (Lib.IsBuilderF 65 5 B b (Lib.byteCells l) w' ∧ Below B w w') := Any.Builder_String_f Try.lays169 Try.Builder_Extra_169 B b l w h h0
open Go.RowKit in
theorem Try.Builder_String_empty_f (B b : Nat) (w : World) (h : Lib.IsBuilderF 65 5 B b [] w) (hBw : B ≤ w.heap.size) :
    Calls Try.prog 37 #[.pointer (some ⟨b, 0, none⟩)] w fun e w' => e = .returned (.string ⟨#[]⟩) ∧ (Lib.IsBuilderF 65 5 B b [] w' ∧ Below B w w') := Any.Builder_String_empty_f Try.lays169 Try.Builder_Extra_169 B b w h hBw
open Go.RowKit in
theorem Try.Builder_String_any_f (B b : Nat) (l : List UInt8) (w : World) (h : Lib.IsBuilderF 65 5 B b (Lib.byteCells l) w) (hBw : B ≤ w.heap.size) :
    Calls Try.prog 37 #[.pointer (some ⟨b, 0, none⟩)] w fun e w' => e = .returned (.string ⟨l.toArray⟩) ∧ (Lib.IsBuilderF 65 5 B b (Lib.byteCells l) w' ∧ Below B w w') := Any.Builder_String_any_f Try.lays169 Try.Builder_Extra_169 B b l w h hBw
open Go.RowKit in
theorem Try.Builder_String_k (B b : Nat) (l : List UInt8) (w : World) (h : Lib.IsBuilderF 65 5 B b (Lib.byteCells l) w) (h0 : l ≠ []) :
    Calls Try.prog 37 #[.pointer (some ⟨b, 0, none⟩)] w fun e w' => e = .returned (.string ⟨l.toArray⟩) ∧ (Lib.IsBuilderF 65 5 B b (Lib.byteCells l) w' ∧ Below B w w' ∧ Lib.OthersKept 5 (some b) w w') := Any.Builder_String_k Try.lays169 Try.Builder_Extra_169 B b l w h h0
open Go.RowKit in
theorem Try.Builder_String_empty_k (B b : Nat) (w : World) (h : Lib.IsBuilderF 65 5 B b [] w) (hBw : B ≤ w.heap.size) :
    Calls Try.prog 37 #[.pointer (some ⟨b, 0, none⟩)] w fun e w' => e = .returned (.string ⟨#[]⟩) ∧ (Lib.IsBuilderF 65 5 B b [] w' ∧ Below B w w' ∧ Lib.OthersKept 5 (some b) w w') := Any.Builder_String_empty_k Try.lays169 Try.Builder_Extra_169 B b w h hBw
open Go.RowKit in
theorem Try.Builder_String_any_k (B b : Nat) (l : List UInt8) (w : World) (h : Lib.IsBuilderF 65 5 B b (Lib.byteCells l) w) (hBw : B ≤ w.heap.size) :
    Calls Try.prog 37 #[.pointer (some ⟨b, 0, none⟩)] w fun e w' => e = .returned (.string ⟨l.toArray⟩) ∧ (Lib.IsBuilderF 65 5 B b (Lib.byteCells l) w' ∧ Below B w w' ∧ Lib.OthersKept 5 (some b) w w') := Any.Builder_String_any_k Try.lays169 Try.Builder_Extra_169 B b l w h hBw
open Go.RowKit in
theorem Try.Builder_grow_fresh_cap (B b n : Nat) (w : World) (hB : B ≤ b) (hbk : w.heap[b]? = some (.cells #[.pointer (some ⟨b, 0, none⟩), .slice none 0 0] 65 (0, 0))) (hBw : B ≤ w.heap.size) (hn : n ≤ 281474976710656) :
    Calls Try.prog 45 #[.pointer (some ⟨b, 0, none⟩), .int .i64 n] w fun e w' => e = .returned (.tuple #[]) ∧ (Lib.BuilderAt 65 5 B b (.pointer (some ⟨b, 0, none⟩)) [] w' ∧ Below B w w') ∧ ∃ p cap, w'.cell? ⟨b, 1, none⟩ = some (.slice p 0 cap) ∧ n ≤ cap := Any.Builder_grow_fresh_cap Try.lays241 Try.Builder_Extra_241 B b n w hB hbk hBw hn
open Go.RowKit in
theorem Try.Builder_Grow_fresh_cap (B b n : Nat) (w : World) (hB : B ≤ b) (hbk : w.heap[b]? = some (.cells #[.pointer none, .slice none 0 0] 65 (0, 0))) (hBw : B ≤ w.heap.size) (hn : n ≤ 281474976710656) :
    Calls Try.prog 34 #[.pointer (some ⟨b, 0, none⟩), .int .i64 n] w fun e w' => e = .returned (.tuple #[]) ∧ (Lib.BuilderAt 65 5 B b (.pointer (some ⟨b, 0, none⟩)) [] w' ∧ Below B w w') ∧ ∃ p cap, w'.cell? ⟨b, 1, none⟩ = some (.slice p 0 cap) ∧ n ≤ cap := Any.Builder_Grow_fresh_cap Try.lays165 Try.Builder_Extra_165 B b n w hB hbk hBw hn
def Try.lays206_ren : Go.Shelf.Ren := ⟨fun | 206 => 43 | n => n, fun | 9 => 9 | 4 => 4 | 3 => 3 | n => n, fun | n => n⟩
theorem Try.lays206 : Go.Proofs.Lays.n206 Try.prog Try.lays206_ren := {
  mixed := by kernel_rfl
  f206 := Try.func43.trans (congrArg some (by kernel_rfl))
  t3 := Try.underlying3
  a3 := Try.isAgg3
  z3 := Try.sizeOf3
  v3 := Try.zeroValue3
  t4 := Try.underlying4
  a4 := Try.isAgg4
  z4 := Try.sizeOf4
  v4 := Try.zeroValue4
  t9 := Try.underlying9
  a9 := Try.isAgg9
  z9 := Try.sizeOf9
  v9 := Try.zeroValue9 }
open Go.RowKit Go.Lib in
theorem Try.stringslite_HasPrefix (s p : ByteArray) (w : World) :
    Calls Try.prog 43 #[.string s, .string p] w fun e w' => e = .returned (.bool (Lib.hasPrefix s.data.toList p.data.toList)) ∧ w' = w := Any.stringslite_HasPrefix Try.lays206 s p w
def Try.lays99_ren : Go.Shelf.Ren := ⟨fun | 99 => 33 | 206 => 43 | n => n, fun | 9 => 9 | 4 => 4 | 3 => 3 | n => n, fun | n => n⟩
theorem Try.lays99 : Go.Proofs.Lays.n99 Try.prog Try.lays99_ren := {
  mixed := by kernel_rfl
  f99 := Try.func33.trans (congrArg some (by kernel_rfl))
  f206 := Try.func43.trans (congrArg some (by kernel_rfl))
  t3 := Try.underlying3
  a3 := Try.isAgg3
  z3 := Try.sizeOf3
  v3 := Try.zeroValue3
  t4 := Try.underlying4
  a4 := Try.isAgg4
  z4 := Try.sizeOf4
  v4 := Try.zeroValue4
  t9 := Try.underlying9
  a9 := Try.isAgg9
  z9 := Try.sizeOf9
  v9 := Try.zeroValue9 }
open Go.RowKit Go.Lib in
theorem Try.strings_HasPrefix (s p : ByteArray) (w : World) :
    Calls Try.prog 33 #[.string s, .string p] w fun e w' => e = .returned (.bool (Lib.hasPrefix s.data.toList p.data.toList)) ∧ w' = w := Any.strings_HasPrefix Try.lays99 s p w
def Try.lays264_ren : Go.Shelf.Ren := ⟨fun | 264 => 42 | n => n, fun | 53 => 79 | 46 => 59 | n => n, fun | n => n⟩
theorem Try.lays264 : Go.Proofs.Lays.n264 Try.prog Try.lays264_ren := {
  mixed := by kernel_rfl
  f264 := Try.func42.trans (congrArg some (by kernel_rfl))
  t46 := Try.underlying59
  a46 := Try.isAgg59
  z46 := Try.sizeOf59
  v46 := Try.zeroValue59
  t53 := Try.underlying79
  a53 := Try.isAgg79
  z53 := Try.sizeOf79
  v53 := Try.zeroValue79 }
open Go.RowKit Go.Lib in
theorem Try.bits_Mul64 (x y : Nat) (hx : x < 18446744073709551616) (hy : y < 18446744073709551616) (w : World) :
    Calls Try.prog 42 #[.int .u64 x, .int .u64 y] w fun e w' => e = .returned (.tuple #[.int .u64 ((x * y / 18446744073709551616 : Nat) : Int), .int .u64 ((x * y % 18446744073709551616 : Nat) : Int)]) ∧ w' = w := Any.bits_Mul64 Try.lays264 x y hx hy w
def Try.lays212_ren : Go.Shelf.Ren := ⟨fun | 212 => 32 | 263 => 41 | 264 => 42 | n => n, fun | 46 => 59 | 51 => 76 | 146 => 77 | 53 => 79 | 148 => 80 | n => n, fun | n => n⟩
theorem Try.lays212 : Go.Proofs.Lays.n212 Try.prog Try.lays212_ren := {
  mixed := by kernel_rfl
  f212 := Try.func32.trans (congrArg some (by kernel_rfl))
  f263 := Try.func41.trans (congrArg some (by kernel_rfl))
  f264 := Try.func42.trans (congrArg some (by kernel_rfl))
  t46 := Try.underlying59
  a46 := Try.isAgg59
  z46 := Try.sizeOf59
  v46 := Try.zeroValue59
  t51 := Try.underlying76
  a51 := Try.isAgg76
  z51 := Try.sizeOf76
  v51 := Try.zeroValue76
  t53 := Try.underlying79
  a53 := Try.isAgg79
  z53 := Try.sizeOf79
  v53 := Try.zeroValue79
  t146 := Try.underlying77
  a146 := Try.isAgg77
  z146 := Try.sizeOf77
  v146 := Try.zeroValue77
  t148 := Try.underlying80
  a148 := Try.isAgg80
  z148 := Try.sizeOf80
  v148 := Try.zeroValue80 }
open Go.RowKit Go.Lib in
theorem Try.bits_Mul (x y : Nat) (hx : x < 18446744073709551616) (hy : y < 18446744073709551616) (w : World) :
    Calls Try.prog 32 #[.int .u64 x, .int .u64 y] w fun e w' => e = .returned (.tuple #[.int .u64 ((x * y / 18446744073709551616 : Nat) : Int), .int .u64 ((x * y % 18446744073709551616 : Nat) : Int)]) ∧ w' = w := Any.bits_Mul Try.lays212 x y hx hy w
def Try.lays105_ren : Go.Shelf.Ren := ⟨fun | 105 => 23 | 212 => 32 | 99 => 33 | 165 => 34 | 166 => 35 | 170 => 36 | 169 => 37 | 263 => 41 | 264 => 42 | 206 => 43 | 240 => 44 | 241 => 45 | 276 => 46 | 277 => 47 | n => n, fun | 9 => 9 | 3 => 3 | 4 => 4 | 20 => 20 | 0 => 0 | 46 => 59 | 109 => 60 | 5 => 5 | 72 => 65 | 76 => 69 | 51 => 76 | 146 => 77 | 53 => 79 | 148 => 80 | 70 => 63 | 37 => 26 | 75 => 68 | 127 => 82 | 164 => 83 | 80 => 72 | n => n, fun | n => n⟩
theorem Try.lays105 : Go.Proofs.Lays.n105 Try.prog Try.lays105_ren := {
  mixed := by kernel_rfl
  f99 := Try.func33.trans (congrArg some (by kernel_rfl))
  f105 := Try.func23.trans (congrArg some (by kernel_rfl))
  f165 := Try.func34.trans (congrArg some (by kernel_rfl))
  f166 := Try.func35.trans (congrArg some (by kernel_rfl))
  f169 := Try.func37.trans (congrArg some (by kernel_rfl))
  f170 := Try.func36.trans (congrArg some (by kernel_rfl))
  f206 := Try.func43.trans (congrArg some (by kernel_rfl))
  f212 := Try.func32.trans (congrArg some (by kernel_rfl))
  f240 := Try.func44.trans (congrArg some (by kernel_rfl))
  f241 := Try.func45.trans (congrArg some (by kernel_rfl))
  f263 := Try.func41.trans (congrArg some (by kernel_rfl))
  f264 := Try.func42.trans (congrArg some (by kernel_rfl))
  f276 := Try.func46.trans (congrArg some (by kernel_rfl))
  f277 := Try.func47.trans (congrArg some (by kernel_rfl))
  t0 := Try.underlying0
  a0 := Try.isAgg0
  z0 := Try.sizeOf0
  v0 := Try.zeroValue0
  t3 := Try.underlying3
  a3 := Try.isAgg3
  z3 := Try.sizeOf3
  v3 := Try.zeroValue3
  t4 := Try.underlying4
  a4 := Try.isAgg4
  z4 := Try.sizeOf4
  v4 := Try.zeroValue4
  t5 := Try.underlying5
  a5 := Try.isAgg5
  z5 := Try.sizeOf5
  v5 := Try.zeroValue5
  t9 := Try.underlying9
  a9 := Try.isAgg9
  z9 := Try.sizeOf9
  v9 := Try.zeroValue9
  t20 := Try.underlying20
  a20 := Try.isAgg20
  z20 := Try.sizeOf20
  v20 := Try.zeroValue20
  t37 := Try.underlying26
  a37 := Try.isAgg26
  z37 := Try.sizeOf26
  v37 := Try.zeroValue26
  t46 := Try.underlying59
  a46 := Try.isAgg59
  z46 := Try.sizeOf59
  v46 := Try.zeroValue59
  t51 := Try.underlying76
  a51 := Try.isAgg76
  z51 := Try.sizeOf76
  v51 := Try.zeroValue76
  t53 := Try.underlying79
  a53 := Try.isAgg79
  z53 := Try.sizeOf79
  v53 := Try.zeroValue79
  t70 := Try.underlying63
  a70 := Try.isAgg63
  z70 := Try.sizeOf63
  v70 := Try.zeroValue63
  t72 := Try.underlying65
  a72 := Try.isAgg65
  z72 := Try.sizeOf65
  v72 := Try.zeroValue65
  t75 := Try.underlying68
  a75 := Try.isAgg68
  z75 := Try.sizeOf68
  v75 := Try.zeroValue68
  t76 := Try.underlying69
  a76 := Try.isAgg69
  z76 := Try.sizeOf69
  v76 := Try.zeroValue69
  t109 := Try.underlying60
  a109 := Try.isAgg60
  z109 := Try.sizeOf60
  v109 := Try.zeroValue60
  t127 := Try.underlying82
  a127 := Try.isAgg82
  z127 := Try.sizeOf82
  v127 := Try.zeroValue82
  t146 := Try.underlying77
  a146 := Try.isAgg77
  z146 := Try.sizeOf77
  v146 := Try.zeroValue77
  t148 := Try.underlying80
  a148 := Try.isAgg80
  z148 := Try.sizeOf80
  v148 := Try.zeroValue80
  t164 := Try.underlying83
  a164 := Try.isAgg83
  z164 := Try.sizeOf83
  v164 := Try.zeroValue83 }
theorem Try.Builder_Extra_105 : Builder.Extra Try.prog Try.lays105_ren := {
  sizeBuilder := by kernel_rfl
  liesBuilder := by kernel_rfl
  t5 := Try.underlying5
  a5 := Try.isAgg5
  z5 := Try.sizeOf5
  v5 := Try.zeroValue5
  infoByte := by kernel_rfl
  cellsByte := by kernel_rfl
  sizeByte := by kernel_rfl
  neB5 := by decide }
open Go.RowKit Go.Lib in
theorem Try.strings_Repeat_main (s : ByteArray) (c : Nat) (w : World) (hc2 : 2 ≤ c) (hc : c ≤ 9223372036854775807) (hlen : s.size * c ≤ 140737488355328) (h0 : 0 < s.size) :
    Calls Try.prog 23 #[.string s, .int .i64 c] w fun e w' => e = .returned (.string ⟨(Lib.repeatL s.data.toList c).toArray⟩) ∧ Below w.heap.size w w' := Any.strings_Repeat_main Try.lays105 Try.Builder_Extra_105 s c w hc2 hc hlen h0
open Go.RowKit Go.Lib in
theorem Try.strings_Repeat_zero (s : ByteArray) (w : World) :
    Calls Try.prog 23 #[.string s, .int .i64 0] w fun e w' => e = .returned (.string ⟨#[]⟩) ∧ w' = w := Any.strings_Repeat_zero Try.lays105 s w
open Go.RowKit Go.Lib in
theorem Try.strings_Repeat_one (s : ByteArray) (w : World) :
    Calls Try.prog 23 #[.string s, .int .i64 1] w fun e w' => e = .returned (.string s) ∧ w' = w := Any.strings_Repeat_one Try.lays105 s w
open Go.RowKit Go.Lib in
theorem Try.strings_Repeat_empty (s : ByteArray) (c : Nat) (w : World) (hc2 : 2 ≤ c) (hc : c ≤ 9223372036854775807) (h0 : s.size = 0) :
    Calls Try.prog 23 #[.string s, .int .i64 c] w fun e w' => e = .returned (.string ⟨#[]⟩) ∧ w' = w := Any.strings_Repeat_empty Try.lays105 s c w hc2 hc h0
open Go.RowKit Go.Lib in
theorem Try.strings_Repeat_negative (s : ByteArray) (c : Int) (w : World) (hc : c < 0) :
    Calls Try.prog 23 #[.string s, .int .i64 c] w fun e w' => e = .panicked [{ v := repeatPanic Try.lays105_ren "strings: negative Repeat count", recovered := false }] ∧ w' = w := Any.strings_Repeat_negative Try.lays105 s c w hc
open Go.RowKit Go.Lib in
theorem Try.strings_Repeat_overflow (s : ByteArray) (c : Nat) (w : World) (hc : c ≤ 9223372036854775807) (hs : s.size ≤ 9223372036854775807) (hbig : 9223372036854775807 < s.size * c) :
    Calls Try.prog 23 #[.string s, .int .i64 c] w fun e w' => e = .panicked [{ v := repeatPanic Try.lays105_ren "strings: Repeat output length overflow", recovered := false }] ∧ w' = w := Any.strings_Repeat_overflow Try.lays105 s c w hc hs hbig
open Go.RowKit Go.Lib in
theorem Try.strings_Repeat (s : ByteArray) (c : Nat) (w : World) (hc : c ≤ 9223372036854775807) (hlen : s.size * c ≤ 140737488355328) :
    Calls Try.prog 23 #[.string s, .int .i64 c] w fun e w' => e = .returned (.string ⟨(Lib.repeatL s.data.toList c).toArray⟩) ∧ Below w.heap.size w w' := Any.strings_Repeat Try.lays105 Try.Builder_Extra_105 s c w hc hlen
end Go.Proofs
end

section
/- Plain lemmas of layer 1 (octet): digits, numbers in bytes; no program in sight. -/
namespace Go.Proofs.Ytjpomfbkfgkifaa
set_option linter.unusedVariables false
set_option linter.unusedSimpArgs false
/-- The sixteen digits. -/
def digs : List UInt8 := [48, 49, 50, 51, 52, 53, 54, 55, 56, 57, 97, 98, 99, 100, 101, 102]
def dig (n : Nat) : UInt8 := digs.getD n 0
def hex2 (c : UInt8) : List UInt8 := [dig (c.toNat / 16), dig (c.toNat % 16)]
def hexl (l : List UInt8) : List UInt8 := l.flatMap hex2
theorem hexl_nil : hexl [] = [] := rfl
theorem hexl_append (a b : List UInt8) : hexl (a ++ b) = hexl a ++ hexl b := by simp [hexl]
theorem hexl_length (l : List UInt8) : (hexl l).length = 2 * l.length := by
  induction l with
  | nil => rfl
  | cons c l ih => simp only [hexl, List.flatMap_cons, List.length_append, List.length_cons] at *; simp only [hex2, List.length_cons, List.length_nil]; omega
theorem take_snoc (s : ByteArray) (k : Nat) (h : k < s.size) : s.data.toList.take (k + 1) = s.data.toList.take k ++ [s[k]] := by
  rw [List.take_succ_eq_append_getElem (by simpa using h)]; rfl
theorem hexl_snoc (s : ByteArray) (k : Nat) (h : k < s.size) : hexl (s.data.toList.take (k + 1)) = hexl (s.data.toList.take k) ++ [dig (s[k].toNat / 16)] ++ [dig (s[k].toNat % 16)] := by
  rw [take_snoc s k h, hexl_append]; simp [hexl, hex2]
theorem dig_get (n : Nat) (h : n < (ByteArray.mk #[48, 49, 50, 51, 52, 53, 54, 55, 56, 57, 97, 98, 99, 100, 101, 102]).size) : ((ByteArray.mk #[48, 49, 50, 51, 52, 53, 54, 55, 56, 57, 97, 98, 99, 100, 101, 102])[n].toNat : Int) = ((dig n).toNat : Int) := by
  have h' : n < 16 := h
  rcases n with _ | _ | _ | _ | _ | _ | _ | _ | _ | _ | _ | _ | _ | _ | _ | _ | n
  all_goals first | rfl | omega
/-- A number's bytes, the lowest one first. -/
def wideL (n : Int) (m : Nat) : List Int := (List.range m).map fun i => n / 2 ^ (8 * i) % 256
/-- Its error: 1 for a size that may not be, 2 for a number that does not fit. -/
def wideE (n size : Int) : Int := if size < 0 ∨ 8 < size then 1 else if size < 8 ∧ n / 2 ^ (8 * size.toNat) ≠ 0 then 2 else 0
def wideS (n size : Int) : ByteArray := if wideE n size = 0 then strOfNums (wideL n size.toNat) else ⟨#[]⟩
theorem wideL_length (n : Int) (m : Nat) : (wideL n m).length = m := by simp [wideL]
theorem wideL_succ (n : Int) (m : Nat) : wideL n (m + 1) = wideL n m ++ [n / 2 ^ (8 * m) % 256] := by simp [wideL, List.range_succ]
theorem wideL_set (n : Int) (k m : Nat) (h : k < m) : (wideL n k ++ List.replicate (m - k) (0 : Int)).set k (n / 2 ^ (8 * k) % 256) = wideL n (k + 1) ++ List.replicate (m - (k + 1)) 0 := by
  obtain ⟨j, hj⟩ : ∃ j, m - k = j + 1 := ⟨m - k - 1, by omega⟩
  rw [hj, show m - (k + 1) = j by omega, wideL_succ, List.set_append_right _ _ (by rw [wideL_length]; omega), wideL_length, Nat.sub_self, List.replicate_succ, List.set_cons_zero, List.append_assoc, List.singleton_append]
theorem wideE_arg {n size : Int} (h : size < 0 ∨ 8 < size) : wideE n size = 1 := by unfold wideE; rw [if_pos h]
theorem wideE_long {n : Int} {m : Nat} (h : m < 8 ∧ n / 2 ^ (8 * m) ≠ 0) : wideE n m = 2 := by
  unfold wideE; rw [if_neg (by omega), Int.toNat_natCast, if_pos ⟨by omega, h.2⟩]
theorem wideE_ok {n : Int} {m : Nat} (hm : m ≤ 8) (hf : m < 8 → n / 2 ^ (8 * m) = 0) : wideE n m = 0 := by
  unfold wideE; rw [if_neg (by omega), Int.toNat_natCast, if_neg (fun h => h.2 (hf (by omega)))]
theorem wideS_err {n size : Int} (h : wideE n size ≠ 0) : wideS n size = ⟨#[]⟩ := by unfold wideS; rw [if_neg h]
theorem wideS_ok {n : Int} {m : Nat} (hm : m ≤ 8) (hf : m < 8 → n / 2 ^ (8 * m) = 0) : wideS n m = strOfNums (wideL n m) := by
  unfold wideS; rw [if_pos (wideE_ok hm hf), Int.toNat_natCast]
theorem cut_size (s : ByteArray) (m : Nat) : (s.extract 0 (if (m : Int) < (s.size : Int) then (m : Int) else (s.size : Int)).toNat).size ≤ m := by
  rw [ByteArray.size_extract]; split <;> omega
theorem tmod8_lo (n : Int) : -7 ≤ n.tmod 8 := by have := Int.lt_tmod_of_pos n (b := 8) (by decide); omega
theorem tmod8_hi (n : Int) : n.tmod 8 ≤ 7 := by have := Int.tmod_lt_of_pos n (b := 8) (by decide); omega
/-- A text's digits. -/
def hexS (s : ByteArray) : ByteArray := ⟨(hexl s.data.toList).toArray⟩
theorem hexS_size (s : ByteArray) : (hexS s).size = 2 * s.size := by
  show (hexl s.data.toList).toArray.size = _
  rw [List.size_toArray, hexl_length, Array.length_toList]; rfl
theorem hexS_append (a b : ByteArray) : hexS (a ++ b) = hexS a ++ hexS b := by
  unfold hexS
  apply ByteArray.ext
  rw [ByteArray.data_append, ByteArray.data_append, Array.toList_append, hexl_append, List.append_toArray]
theorem wideE_zero {n : Int} {m : Nat} (hm : m ≤ 7) (h : wideE n m = 0) : n / 2 ^ (8 * m) = 0 := by
  unfold wideE at h
  rw [if_neg (by omega), Int.toNat_natCast] at h
  refine Decidable.not_not.1 fun hn => ?_
  rw [if_pos ⟨by omega, hn⟩] at h
  exact absurd h (by decide)
theorem div_pow_zero {n : Int} {a b : Nat} (h : n / 2 ^ a = 0) : n / 2 ^ (a + b) = 0 := by
  rw [Int.pow_add, ← Int.ediv_ediv_of_nonneg (Int.pow_nonneg (by decide)), h, Int.zero_ediv]
theorem wideE_moreN {n : Int} {m : Nat} (hm : m ≤ 7) (h : wideE n m = 0) : wideE n (↑m + 1) = 0 := by
  have h0 := wideE_zero hm h
  rw [show (m : Int) + 1 = ((m + 1 : Nat) : Int) by omega]
  exact wideE_ok (by omega) fun _ => by rw [Nat.mul_add]; exact div_pow_zero h0
theorem wideS_sizeN {n : Int} {m : Nat} (hm : m ≤ 7) (h : wideE n m = 0) : (wideS n m).size = m := by
  unfold wideS; rw [if_pos h, strOfNums_size, wideL_length, Int.toNat_natCast]
theorem strOfNums_append (xs ys : List Int) : strOfNums (xs ++ ys) = strOfNums xs ++ strOfNums ys := by
  apply ByteArray.ext
  rw [ByteArray.data_append]
  simp only [strOfNums, List.map_append, List.append_toArray]
theorem wideS_moreN {n : Int} {m : Nat} (hm : m ≤ 7) (h : wideE n m = 0) : wideS n (↑m + 1) = wideS n m ++ ⟨#[0]⟩ := by
  have h0 := wideE_zero hm h
  have h1 := wideE_moreN hm h
  unfold wideS
  rw [if_pos h, if_pos h1, show (m : Int) + 1 = ((m + 1 : Nat) : Int) by omega, Int.toNat_natCast, Int.toNat_natCast, wideL_succ, strOfNums_append, h0]
  rfl
theorem wideE_more {n q : Int} (h0 : 0 ≤ q) (h7 : q ≤ 7) (h : wideE n q = 0) : wideE n (q + 1) = 0 := by
  obtain ⟨m, rfl⟩ := Int.eq_ofNat_of_zero_le h0; exact wideE_moreN (by omega) h
theorem wideS_size {n q : Int} (h0 : 0 ≤ q) (h7 : q ≤ 7) (h : wideE n q = 0) : (wideS n q).size ≤ 8 := by
  obtain ⟨m, rfl⟩ := Int.eq_ofNat_of_zero_le h0; rw [wideS_sizeN (by omega) h]; omega
theorem wideS_more {n q : Int} (h0 : 0 ≤ q) (h7 : q ≤ 7) (h : wideE n q = 0) : wideS n (q + 1) = wideS n q ++ ⟨#[0]⟩ := by
  obtain ⟨m, rfl⟩ := Int.eq_ofNat_of_zero_le h0; exact wideS_moreN (by omega) h
/-- Byte k of a text, as a number; 0 behind its end. -/
def bN (s : ByteArray) (k : Nat) : Nat := (s.data.toList.getD k 0).toNat
theorem bN_at (s : ByteArray) : ∀ (n : Nat) (h : n < s.size), (s[n]'h).toNat = bN s n := fun n h => by
  unfold bN
  rw [List.getD_eq_getElem?_getD, List.getElem?_eq_getElem (by rw [Array.length_toList]; exact h)]
  rfl
theorem bN_lt (s : ByteArray) (k : Nat) : bN s k < 256 := UInt8.toNat_lt _
/-- A digit's number; 16: it is none. -/
def hv (c : Nat) : Nat := if 48 ≤ c ∧ c ≤ 57 then c - 48 else if 97 ≤ c ∧ c ≤ 102 then c - 87 else 16
theorem hv_le (c : Nat) : hv c ≤ 16 := by unfold hv; split <;> (try split) <;> omega
/-- Are texts digits, of whole bytes? -/
def hexOk (s : ByteArray) : Prop := s.size % 2 = 0 ∧ ∀ j, j < s.size → hv (bN s j) < 16
def hexAt (s : ByteArray) (j : Nat) : Int := hv (bN s (2 * j)) * 16 + hv (bN s (2 * j + 1))
def hexTo (s : ByteArray) (k : Nat) : List Int := (List.range k).map (hexAt s)
def unhexS (s : ByteArray) : ByteArray := strOfNums (hexTo s (s.size / 2))
theorem hexTo_length (s : ByteArray) (k : Nat) : (hexTo s k).length = k := by simp [hexTo]
theorem hexTo_succ (s : ByteArray) (k : Nat) : hexTo s (k + 1) = hexTo s k ++ [hexAt s k] := by simp [hexTo, List.range_succ]
theorem hexTo_set (s : ByteArray) (k m : Nat) (h : k < m) : (hexTo s k ++ List.replicate (m - k) (0 : Int)).set k (hexAt s k) = hexTo s (k + 1) ++ List.replicate (m - (k + 1)) 0 := by
  obtain ⟨j, hj⟩ : ∃ j, m - k = j + 1 := ⟨m - k - 1, by omega⟩
  rw [hj, show m - (k + 1) = j by omega, hexTo_succ, List.set_append_right _ _ (by rw [hexTo_length]; omega), hexTo_length, Nat.sub_self, List.replicate_succ, List.set_cons_zero, List.append_assoc, List.singleton_append]
/-- A number of bytes, the lowest one first. -/
def leN : List UInt8 → Nat
  | [] => 0
  | c :: l => c.toNat + 256 * leN l
theorem leN_append (a b : List UInt8) : leN (a ++ b) = leN a + 256 ^ a.length * leN b := by
  induction a with
  | nil => simp [leN]
  | cons c a ih => simp only [List.cons_append, leN, ih, List.length_cons, Nat.pow_succ, Nat.mul_add, Nat.mul_comm, Nat.mul_assoc, Nat.mul_left_comm]; omega
theorem leN_lt (l : List UInt8) : leN l < 256 ^ l.length := by
  induction l with
  | nil => simp [leN]
  | cons c l ih => have := c.toNat_lt; simp only [leN, List.length_cons, Nat.pow_succ]; omega
def wholeN (s : ByteArray) : Nat := leN s.data.toList
theorem take_all (s : ByteArray) : s.data.toList.take s.size = s.data.toList := List.take_of_length_le (by rw [Array.length_toList]; exact Nat.le_refl _)
/-- A half's digit, as the reference writes it. -/
theorem dig_low (n : Nat) (h : n < 10) : ((dig n).toNat : Int) = 48 + n := by
  have : ∀ n : Fin 10, ((dig n.val).toNat : Int) = 48 + n.val := by decide
  exact this ⟨n, h⟩
theorem dig_high (n : Nat) (h : n < 16) (h1 : ¬ n < 10) : ((dig n).toNat : Int) = 97 + n - 10 := by
  have : ∀ n : Fin 16, ¬ n.val < 10 → ((dig n.val).toNat : Int) = 97 + n.val - 10 := by decide
  exact this ⟨n, h⟩ h1
def numsOf (l : List UInt8) : List Int := l.map fun c => (c.toNat : Int)
theorem numsOf_append (a b : List UInt8) : numsOf (a ++ b) = numsOf a ++ numsOf b := by simp [numsOf]
theorem numsOf_length (a : List UInt8) : (numsOf a).length = a.length := by simp [numsOf]
theorem str_numsOf (l : List UInt8) : strOfNums (numsOf l) = ⟨l.toArray⟩ := by
  unfold strOfNums numsOf
  congr 2
  rw [List.map_map]
  conv => rhs; rw [← List.map_id l]
  apply List.map_congr_left
  intro c _
  simp
def numsHex (c : Nat) : List Int := [((dig (c / 16)).toNat : Int), ((dig (c % 16)).toNat : Int)]
theorem hexl_snocN (s : ByteArray) (k : Nat) (h : k < s.size) : numsOf (hexl (s.data.toList.take (k + 1))) = numsOf (hexl (s.data.toList.take k)) ++ numsHex (bN s k) := by
  rw [hexl_snoc s k h, numsOf_append, numsOf_append, bN_at s k h, List.append_assoc]; rfl
theorem nh0 (A : List Int) (c : Nat) (x : Int) (h : ((dig (c / 16)).toNat : Int) = x) : A ++ (numsHex c).take 0 ++ [x] = A ++ (numsHex c).take 1 := by simp [numsHex, h]
theorem nh1 (A : List Int) (c : Nat) (x : Int) (h : ((dig (c % 16)).toNat : Int) = x) : A ++ (numsHex c).take 1 ++ [x] = A ++ (numsHex c).take 2 := by simp [numsHex, h]
theorem imod_mul (n : Int) (hn : 0 ≤ n) (a b : Nat) : n % ((a : Int) * b) = n % a + a * (n / a % b) := by
  obtain ⟨N, rfl⟩ := Int.eq_ofNat_of_zero_le hn
  exact_mod_cast (Nat.mod_mul (x := N) (a := a) (b := b))
theorem leN_wide (n : Int) (hn : 0 ≤ n) (m : Nat) : (leN ((wideL n m).map fun x => UInt8.ofNat x.toNat) : Int) = n % 2 ^ (8 * m) := by
  induction m with
  | zero => simp [wideL, leN, Int.emod_one]
  | succ m ih =>
    rw [wideL_succ, List.map_append, leN_append, List.length_map, wideL_length, Int.natCast_add, ih]
    have h0 : 0 ≤ n / 2 ^ (8 * m) := Int.ediv_nonneg hn (Int.pow_nonneg (by decide))
    have h1 : 0 ≤ n / 2 ^ (8 * m) % 256 := Int.emod_nonneg _ (by decide)
    have h2 : n / 2 ^ (8 * m) % 256 < 256 := Int.emod_lt_of_pos _ (by decide)
    have h3 : leN ([n / 2 ^ (8 * m) % 256].map fun x => UInt8.ofNat x.toNat) = (n / 2 ^ (8 * m) % 256).toNat := by
      simp only [List.map_cons, List.map_nil, leN, UInt8.toNat_ofNat']
      omega
    have e : (256 : Int) ^ m = 2 ^ (8 * m) := by rw [Int.pow_mul]; rfl
    rw [h3, Int.natCast_mul, Int.natCast_pow, Int.toNat_of_nonneg h1, show ((256 : Nat) : Int) = 256 from rfl, e, Nat.mul_add, Int.pow_add, show (2 : Int) ^ (8 * 1) = 256 from rfl]
    exact (imod_mul n hn (2 ^ (8 * m)) 256).symm
theorem wholeN_wide (n : Int) (hn : 0 ≤ n) (m : Nat) : (wholeN (strOfNums (wideL n m)) : Int) = n % 2 ^ (8 * m) := leN_wide n hn m
/-- What the laws of layer 1 speak of: so many texts, cut. -/
def fewL (xs : List ByteArray) : List ByteArray := (xs.take 66).map fun s => s.extract 0 (min s.size 4100)
/-- Texts that may be bound, and what they are bound to. -/
def mayBind (xs : List ByteArray) : Prop := xs.length ≤ 64 ∧ ∀ x ∈ xs, x.size ≤ 4096
def bind1 (x : ByteArray) : List UInt8 := (wideS x.size 2).data.toList ++ x.data.toList
def bindL (xs : List ByteArray) : List UInt8 := xs.flatMap bind1
def bindS (xs : List ByteArray) : ByteArray := ⟨(bindL xs).toArray⟩
theorem getD_at {α : Type} (xs : List α) (k : Nat) (d : α) (h : k < xs.length) : xs.getD k d = xs[k] := by rw [List.getD_eq_getElem?_getD, List.getElem?_eq_getElem h]; rfl
theorem take_next (xs : List ByteArray) (k : Nat) (h : k < xs.length) : xs.take (k + 1) = xs.take k ++ [xs.getD k ByteArray.empty] := by
  rw [List.take_succ_eq_append_getElem h, getD_at _ _ _ h]
theorem bindL_take (xs : List ByteArray) (k : Nat) (h : k < xs.length) : bindL (xs.take (k + 1)) = bindL (xs.take k) ++ (wideS (xs.getD k ByteArray.empty).size 2).data.toList ++ (xs.getD k ByteArray.empty).data.toList := by
  rw [take_next xs k h]; simp [bindL, bind1]
theorem all_take {p : ByteArray → Prop} (xs : List ByteArray) (k : Nat) (h : k < xs.length) (ha : ∀ x ∈ xs.take k, p x) : p (xs.getD k ByteArray.empty) → ∀ x ∈ xs.take (k + 1), p x := fun hp x hx => by
  rw [take_next xs k h, List.mem_append, List.mem_singleton] at hx
  rcases hx with hx | rfl
  · exact ha x hx
  · exact hp
theorem no_take (xs : List ByteArray) (k : Nat) (h : k < xs.length) : 4096 < (xs.getD k ByteArray.empty).size → ¬ mayBind xs := fun h4 hm => by
  have := hm.2 (xs.getD k ByteArray.empty) (by rw [getD_at _ _ _ h]; exact List.getElem_mem h)
  omega
theorem wide2_size (n : Nat) (h : n ≤ 4096) : (wideS n 2).size = 2 := by
  have hf : (2 : Nat) < 8 → (n : Int) / 2 ^ (8 * 2) = 0 := fun _ => by omega
  rw [show (2 : Int) = ((2 : Nat) : Int) from rfl, wideS_ok (by omega) hf, strOfNums_size, wideL_length]
theorem wide2_err (n : Nat) (h : n ≤ 4096) : wideE n 2 = 0 := by
  have hf : (2 : Nat) < 8 → (n : Int) / 2 ^ (8 * 2) = 0 := fun _ => by omega
  exact wideE_ok (m := 2) (by omega) hf
theorem bind1_length (x : ByteArray) (h : x.size ≤ 4096) : (bind1 x).length = 2 + x.size := by
  rw [bind1, List.length_append, Array.length_toList, Array.length_toList]
  show (wideS x.size 2).size + x.size = _
  rw [wide2_size _ h]
theorem bindL_le (l : List ByteArray) (ha : ∀ x ∈ l, x.size ≤ 4096) : (bindL l).length ≤ 4098 * l.length := by
  induction l with
  | nil => simp [bindL]
  | cons x l ih =>
    have h1 := bind1_length x (ha x List.mem_cons_self)
    have h2 := ih fun y hy => ha y (List.mem_cons_of_mem _ hy)
    have h3 := ha x List.mem_cons_self
    simp only [bindL, List.flatMap_cons, List.length_append, List.length_cons] at *
    omega
theorem bindL_length (xs : List ByteArray) (k : Nat) (h : k ≤ xs.length) (ha : ∀ x ∈ xs.take k, x.size ≤ 4096) : (bindL (xs.take k)).length ≤ 4098 * k := by
  have := bindL_le _ ha
  rwa [List.length_take, Nat.min_eq_left h] at this
theorem bindL_append (a b : List ByteArray) : bindL (a ++ b) = bindL a ++ bindL b := by simp [bindL]
theorem bindS_append (a b : List ByteArray) : bindS (a ++ b) = bindS a ++ bindS b := by
  apply ByteArray.ext
  rw [ByteArray.data_append]
  simp only [bindS, bindL_append, List.append_toArray]
theorem mayBind_one {s : ByteArray} (h : s.size ≤ 4096) : mayBind [s] := ⟨by simp, fun x hx => by rw [List.mem_singleton] at hx; rw [hx]; exact h⟩
theorem mayBind_snoc {l : List ByteArray} {s : ByteArray} (hl : mayBind l) (h : s.size ≤ 4096) : mayBind (l ++ [s]) ↔ l.length ≠ 64 := by
  have h1 := hl.1
  constructor
  · intro hm; have := hm.1; rw [List.length_append] at this; simp at this; omega
  · intro hn
    refine ⟨by rw [List.length_append]; simp; omega, fun x hx => ?_⟩
    rw [List.mem_append, List.mem_singleton] at hx
    rcases hx with hx | rfl
    · exact hl.2 x hx
    · exact h
theorem wide2_inj {a b : Nat} (ha : a ≤ 4096) (hb : b ≤ 4096) (h : wideS a 2 = wideS b 2) : a = b := by
  have fa : (2 : Nat) < 8 → (a : Int) / 2 ^ (8 * 2) = 0 := fun _ => by omega
  have fb : (2 : Nat) < 8 → (b : Int) / 2 ^ (8 * 2) = 0 := fun _ => by omega
  rw [show (2 : Int) = ((2 : Nat) : Int) from rfl, wideS_ok (by omega) fa, wideS_ok (by omega) fb] at h
  have h1 := wholeN_wide a (by omega) 2
  have h2 := wholeN_wide b (by omega) 2
  rw [h, h2] at h1
  omega
theorem bindL_inj : ∀ (l m : List ByteArray), (∀ x ∈ l, x.size ≤ 4096) → (∀ x ∈ m, x.size ≤ 4096) → bindL l = bindL m → l = m
  | [], [], _, _, _ => rfl
  | [], y :: m, _, hm, h => by
    have := bind1_length y (hm y List.mem_cons_self)
    have h2 := congrArg List.length h
    simp only [bindL, List.flatMap_nil, List.flatMap_cons, List.length_append, List.length_nil] at h2
    omega
  | x :: l, [], hl, _, h => by
    have := bind1_length x (hl x List.mem_cons_self)
    have h2 := congrArg List.length h
    simp only [bindL, List.flatMap_nil, List.flatMap_cons, List.length_append, List.length_nil] at h2
    omega
  | x :: l, y :: m, hl, hm, h => by
    have hx := hl x List.mem_cons_self
    have hy := hm y List.mem_cons_self
    simp only [bindL, List.flatMap_cons, bind1, List.append_assoc] at h
    have sx := wide2_size x.size hx
    have sy := wide2_size y.size hy
    obtain ⟨e1, e2⟩ := List.append_inj h (by rw [Array.length_toList, Array.length_toList]; exact sx.trans sy.symm)
    have e3 := wide2_inj hx hy (ByteArray.ext (Array.toList_inj.1 e1))
    obtain ⟨e4, e5⟩ := List.append_inj e2 (by rw [Array.length_toList, Array.length_toList]; exact e3)
    rw [ByteArray.ext (Array.toList_inj.1 e4), bindL_inj l m (fun z hz => hl z (List.mem_cons_of_mem _ hz)) (fun z hz => hm z (List.mem_cons_of_mem _ hz)) e5]
theorem bindS_inj {l m : List ByteArray} (hl : mayBind l) (hm : mayBind m) : bindS l = bindS m ↔ l = m :=
  ⟨fun h => bindL_inj l m hl.2 hm.2 (by have := congrArg ByteArray.data h; simpa [bindS] using this), fun h => by rw [h]⟩
theorem bindS_size {l : List ByteArray} (hl : mayBind l) : (bindS l).size ≤ 262272 := by
  have h1 := bindL_le l hl.2
  have h2 := hl.1
  show (bindL l).toArray.size ≤ _
  rw [List.size_toArray]; omega
end Go.Proofs.Ytjpomfbkfgkifaa
end

section
/- What is read stays so while private blocks are written: contracts hand on facts that hold in every later world that keeps all but these. -/
namespace Go.Proofs.Ytjpomfbkfgkifaa
open Go.RowKit Go.Proofs.YtjpomfbkfgkifaaW.PrintWords Go.Proofs.YtjpomfbkfgkifaaW.PrintLast Go.Proofs.YtjpomfbkfgkifaaW.PrintMore
attribute [local go_sem] max2_int min2_int max_two min_two max_three min_three max_four min_four
set_option linter.unusedVariables false
set_option linter.unusedSimpArgs false
/-- All blocks that were there are as they were, but private ones. -/
structure Keep (S : Nat → Prop) (w w1 : World) : Prop where
  os : w1.os = w.os
  tape : w1.tape = w.tape
  output : w1.output = w.output
  size : w.heap.size ≤ w1.heap.size
  block : ∀ k, k < w.heap.size → ¬ S k → w1.heap[k]? = w.heap[k]?
namespace Keep
variable {S : Nat → Prop} {w W w1 : World}
theorem refl (S : Nat → Prop) (w : World) : Keep S w w := ⟨rfl, rfl, rfl, Nat.le_refl _, fun _ _ _ => rfl⟩
theorem trans (h : Keep S w W) (k : Keep S W w1) : Keep S w w1 := ⟨k.os.trans h.os, k.tape.trans h.tape, k.output.trans h.output, Nat.le_trans h.size k.size, fun i hi hs => (k.block i (Nat.lt_of_lt_of_le hi h.size) hs).trans (h.block i hi hs)⟩
theorem of_below (h : Below w.heap.size w w1) : Keep S w w1 := ⟨h.os, h.tape, h.output, h.size, fun k hk _ => h.block k hk⟩
theorem step (h : Keep S w W) (k : Below W.heap.size W w1) : Keep S w w1 := h.trans (of_below k)
theorem alloc (h : Keep S w W) (o : Obj) : Keep S w (W.alloc o) := h.step (below_alloc (Below.refl _ _) o)
theorem drew (h : Keep S w W) : Keep S w W.drew := h.step (below_drew (Below.refl _ _))
theorem drewN (h : Keep S w W) (n : Nat) : Keep S w (W.drewN n) := h.step (pw_below_drewN (Below.refl _ _) n)
theorem set (h : Keep S w W) {p : Addr} (hp : S p.block ∨ w.heap.size ≤ p.block) (v : Value) : Keep S w (W.setCell p v) :=
  ⟨h.os, h.tape, h.output, by simp only [World.setCell, Array.size_modify]; exact h.size, fun k hk hs => by
    rw [Below.heap_setCell]
    · exact h.block k hk hs
    · rintro rfl
      rcases hp with hp | hp
      · exact hs hp
      · omega⟩
theorem grown (h : Keep S w W) {row : Option Nat} (hg : W.grownBy w1 row) (hr : ∀ k, row = some k → S k ∨ w.heap.size ≤ k) : Keep S w w1 :=
  ⟨hg.os.trans h.os, hg.tape.trans h.tape, hg.output.trans h.output, Nat.le_trans h.size hg.size, fun k hk hs => (hg.block k (Nat.lt_of_lt_of_le hk h.size) (fun e => by
    rcases hr k e.symm with h1 | h1
    · exact hs h1
    · omega)).trans (h.block k hk hs)⟩
theorem below (h : Keep (fun _ => False) w w1) : Below w.heap.size w w1 := ⟨h.os, h.tape, h.output, h.size, fun k hk => h.block k hk (fun h => h)⟩
end Keep
/-- So it is, in every later world that keeps all but private blocks. -/
def St (S : Nat → Prop) (w : World) (P : World → Prop) : Prop := ∀ w1, Keep S w w1 → P w1
namespace St
variable {S S' : Nat → Prop} {w w1 : World} {P Q : World → Prop}
theorem now (h : St S w P) : P w := h w (Keep.refl _ _)
theorem keep (h : St S w P) (k : Keep S w w1) : St S w1 P := fun _ k2 => h _ (k.trans k2)
theorem at_ (h : St S w P) (k : Keep S w w1) : P w1 := h _ k
theorem sub (h : St S w P) (hS : ∀ k, S' k → S k) : St S' w P := fun _ k => h _ ⟨k.os, k.tape, k.output, k.size, fun i hi hs => k.block i hi (fun h' => hs (hS i h'))⟩
theorem wide (h : St S w P) (hS : ∀ k, k < w.heap.size → S' k → S k) : St S' w P := fun _ k => h _ ⟨k.os, k.tape, k.output, k.size, fun i hi hs => k.block i hi (fun h' => hs (hS i hi h'))⟩
theorem imp (h : St S w P) (hi : ∀ w1, P w1 → Q w1) : St S w Q := fun w1 k => hi w1 (h w1 k)
theorem and (h : St S w P) (k : St S w Q) : St S w (fun w => P w ∧ Q w) := fun w1 q => ⟨h w1 q, k w1 q⟩
theorem triv {p : Prop} (h : p) : St S w (fun _ => p) := fun _ _ => h
end St
/-- A fact that holds as far as all goes below, with no private block. -/
theorem St.start {w : World} {P : World → Prop} (hP : ∀ w1, Below w.heap.size w w1 → P w1) : St (fun _ => False) w P := fun w1 k => hP w1 k.below
/-- A row of the call's own, that no private block is of. -/
theorem St.ofR {α : Type} {d : Kd α} {e base : Nat} {w : World} {ok : Nat → Prop} {v : Value} {xs : List α} {S : Nat → Prop} (h : d.R e w base ok v xs) (hS : ∀ k, S k → k < base) : St S w (fun w => d.R e w base ok v xs) := fun w1 k =>
  Kd.R_mono (Kd.R_step (Kd.R_bound h) (fun i hi hlt => k.block i hlt (fun h' => by have := hS i h'; have := hi.2.1; omega))) (fun _ hk => hk.1)
/-- A slice's value that reads as a row. -/
def SlV {α : Type} (d : Kd α) (w : World) (v : Value) (xs : List α) : Prop := ∃ A c, v = .slice A xs.length c ∧ xs.length ≤ c ∧ d.C w A xs.length xs
theorem SlV.nil {α : Type} (d : Kd α) (w : World) : SlV d w (.slice none 0 0) [] := ⟨none, 0, rfl, Nat.le_refl _, Kd.C_nil _ _⟩
theorem SlV.ofR {α : Type} {d : Kd α} {e base : Nat} {w : World} {ok : Nat → Prop} {v : Value} {xs : List α} (h : d.R e w base ok v xs) : SlV d w v xs := by
  obtain ⟨A, c, rfl, hl, hr⟩ := Kd.R_reads h
  exact ⟨A, c, rfl, hl, hr⟩
theorem SlV.below {α : Type} {d : Kd α} {w w1 : World} {v : Value} {xs : List α} (h : SlV d w v xs) (hb : Below w.heap.size w w1) : SlV d w1 v xs := by
  obtain ⟨A, c, h1, h2, h3⟩ := h
  exact ⟨A, c, h1, h2, Kd.C_below h3 hb⟩
theorem SlV.open {α : Type} {d : Kd α} {S : Nat → Prop} {w : World} {v : Value} {xs : List α} (h : St S w (fun w => SlV d w v xs)) : ∃ A c, v = .slice A xs.length c ∧ xs.length ≤ c ∧ xs.length ≤ 9223372036854775807 ∧ St S w (fun w => d.C w A xs.length xs) := by
  obtain ⟨A, c, h1, h2, h3⟩ := h.now
  refine ⟨A, c, h1, h2, Kd.C_max h3, fun w1 k => ?_⟩
  obtain ⟨A', c', h1', _, h3'⟩ := h w1 k
  rw [h1] at h1'
  injection h1' with e1 _ _
  rw [e1]
  exact h3'
theorem SlV.mk_ {α : Type} {d : Kd α} {S : Nat → Prop} {w : World} {A : Option Addr} {c : Nat} {xs : List α} (h2 : xs.length ≤ c) (h : St S w (fun w => d.C w A xs.length xs)) : St S w (fun w => SlV d w (.slice A xs.length c) xs) := h.imp fun _ h => ⟨A, c, rfl, h2, h⟩
/-- Behind a contract: old cells and marks read as before. -/
theorem bcell {W w1 : World} (hb : Below W.heap.size W w1) : (∀ b o, b < W.heap.size → w1.cell? ⟨b, o, none⟩ = W.cell? ⟨b, o, none⟩) ∧ (∀ b o, b < W.heap.size → w1.frozen? ⟨b, o, none⟩ = W.frozen? ⟨b, o, none⟩) :=
  ⟨fun b o h => hb.cell (p := ⟨b, o, none⟩) h, fun b o h => hb.frozen (p := ⟨b, o, none⟩) h⟩
/-- A call's private blocks: its caller's, and the first n of its own. -/
structure Priv (S S1 : Nat → Prop) (w : World) (n : Nat) : Prop where
  up : ∀ k, S k → S1 k
  own : ∀ k, w.heap.size ≤ k → k < w.heap.size + n → S1 k
  lt : ∀ k, S1 k → k < w.heap.size + n
  down : ∀ k, k < w.heap.size → S1 k → S k
theorem priv {S : Nat → Prop} (w : World) (hS : ∀ k, S k → k < w.heap.size) (n : Nat) : ∃ S1, Priv S S1 w n :=
  ⟨fun k => S k ∨ (w.heap.size ≤ k ∧ k < w.heap.size + n), fun k h => .inl h, fun k h1 h2 => .inr ⟨h1, h2⟩, fun k h => by
    rcases h with h | h
    · have := hS k h; omega
    · exact h.2, fun k hk h => by
    rcases h with h | h
    · exact h
    · omega⟩
theorem Priv.lts {S S1 : Nat → Prop} {w : World} {n : Nat} (h : Priv S S1 w n) {m : Nat} (hm : w.heap.size + n ≤ m) : ∀ k, S1 k → k < m := fun k hk => Nat.lt_of_lt_of_le (h.lt k hk) hm
/-- A row of flat elements, in no private block. -/
theorem St.ofC {α : Type} {d : Kd α} (hflat : ∀ w w1 x cs, d.K w x cs → d.K w1 x cs) {S : Nat → Prop} {w : World} {A : Option Addr} {n : Nat} {xs : List α} (h : d.C w A n xs) (hne : ∀ ad, A = some ad → 0 < n → ¬ S ad.block) : St S w (fun w => d.C w A n xs) := fun w1 k => ⟨h.1, h.2.1, fun hn => by
  obtain ⟨ad, e, hc⟩ := h.2.2 hn
  refine ⟨ad, e, fun j q hj => ?_⟩
  obtain ⟨c, hs, hr, hcell⟩ := hc j q hj
  refine ⟨c, hs, hflat _ _ _ _ hr, fun i u hu => ?_⟩
  have h1 := hcell i u hu
  have h2 := World.block_lt_of_cell? w _ h1
  refine (World.cell?_of_block (w := w) (k.block _ h2 ?_)).trans h1
  have := hne ad e hn
  unfold Addr.add
  split <;> exact this⟩
theorem size_drewN (w : World) (n : Nat) : (w.drewN n).heap.size = w.heap.size := rfl
/-- append to a row without room behind it: what comes of it reads as both, whatever becomes of private blocks. -/
theorem St.append {α : Type} {d : Kd α} (hflat : ∀ w w1 x cs, d.K w x cs → d.K w1 x cs) {S : Nat → Prop} {W w1 : World} {A A1 : Option Addr} {xs ys : List α} (hS : ∀ k, S k → k < W.heap.size) (h : St S W (fun w => d.C w A xs.length xs)) (hb : Below W.heap.size W w1) (hc : d.C w1 A1 (xs ++ ys).length (xs ++ ys))
    (hf : A1 = A ∧ ys = [] ∨ ∀ ad, A1 = some ad → W.heap.size ≤ ad.block) : St S w1 (fun w => d.C w A1 (xs ++ ys).length (xs ++ ys)) := by
  rcases hf with ⟨rfl, rfl⟩ | hf
  · rw [List.append_nil] at hc ⊢
    exact h.keep (Keep.of_below hb)
  · exact St.ofC hflat hc (fun ad e _ hs => by have := hf ad e; have := hS _ hs; omega)
/-- A guard for a step of a region that draws: at this builtin, and at no other operation. -/
theorem gate_step {P : Program} {ops : Array Oper} {o : Oper} {a : Act} {w : World} {K : Act → World → Prop} {Q : Exit → Act → World → Prop} {E : Prop} {b : Builtin} {xs : Array Operand} {ts : Array TypeId} (_ho : o.op = .call { callee := .builtin b, args := xs, argTypes := ts })
    (h : if Region.wanted o (yielded ops a.tmps) = true then Oper.wp P o a w K Q else E) : if Region.wanted o (yielded ops a.tmps) = true then Oper.wp P o a w K Q else E := h
theorem cell_al {w : World} {ob : Obj} {b o : Nat} (h : b < w.heap.size) : (w.alloc ob).cell? ⟨b, o, none⟩ = w.cell? ⟨b, o, none⟩ := (below_alloc (Below.refl w.heap.size w) ob).cell (p := ⟨b, o, none⟩) h
theorem frozen_al {w : World} {ob : Obj} {b o : Nat} (h : b < w.heap.size) : (w.alloc ob).frozen? ⟨b, o, none⟩ = w.frozen? ⟨b, o, none⟩ := (below_alloc (Below.refl w.heap.size w) ob).frozen (p := ⟨b, o, none⟩) h
/-- A cell of the call's own: it holds this, and may be written. -/
structure Cl (w : World) (a : Addr) (v : Value) : Prop where
  cell : w.cell? a = some v
  free : w.frozen? a = false
namespace Cl
variable {w w1 : World} {a : Addr} {v : Value}
theorem lt (h : Cl w a v) : a.block < w.heap.size := World.block_lt_of_cell? w a h.cell
theorem below (hb : Below w.heap.size w w1) (h : Cl w a v) : Cl w1 a v := ⟨(hb.cell h.lt).trans h.cell, (hb.frozen h.lt).trans h.free⟩
theorem al (h : Cl w a v) {o : Obj} : Cl (w.alloc o) a v := h.below (below_alloc (Below.refl _ _) o)
theorem dr (h : Cl w a v) : Cl w.drew a v := h.below (below_drew (Below.refl _ _))
theorem drN (h : Cl w a v) {n : Nat} : Cl (w.drewN n) a v := h.below (pw_below_drewN (Below.refl _ _) n)
theorem far (h : Cl w a v) {p : Addr} (hne : a.block ≠ p.block) {u : Value} : Cl (w.setCell p u) a v := by
  have hk := Below.heap_setCell w p u a.block hne
  exact ⟨(World.cell?_of_block (w := w) hk).trans h.cell, (World.frozen?_of_block (w := w) hk).trans h.free⟩
theorem new {w : World} {cs : Array Value} {T : TypeId} {j : Nat} {v : Value} (h : cs[j]? = some v) : Cl (w.alloc (.cells cs T)) ⟨w.heap.size, j, none⟩ v :=
  ⟨(blk_cell (heap_alloc_new _ _) j).trans h, blk_frozen (heap_alloc_new _ _) j⟩
theorem set {g j : Nat} {cs : Array Value} {T : TypeId} (h : w.heap[g]? = some (.cells cs T (0, 0))) (hj : j < cs.size) {u : Value} : Cl (w.setCell ⟨g, j, none⟩ u) ⟨g, j, none⟩ u :=
  ⟨by rw [blk_cell (blk_set h j u) j]; simp [hj], blk_frozen (blk_set h j u) j⟩
theorem same {g j : Nat} (h : Cl w ⟨g, j, none⟩ v) {u : Value} : Cl (w.setCell ⟨g, j, none⟩ u) ⟨g, j, none⟩ u := by
  refine ⟨World.cell?_setCell_same w _ _ h.cell, ?_⟩
  have h1 := h.free
  unfold World.frozen? at h1 ⊢
  simp only [World.setCell, Array.getElem?_modify, if_true]
  revert h1
  cases w.heap[g]? with
  | none => intro h1; rfl
  | some o => cases o <;> intro h1 <;> first | exact h1 | rfl
theorem beside {g i j : Nat} (h : Cl w ⟨g, j, none⟩ v) (hne : j ≠ i) {u : Value} : Cl (w.setCell ⟨g, i, none⟩ u) ⟨g, j, none⟩ v := by
  refine ⟨(World.cell?_setCell_other w _ _ _ (by intro e; injection e with _ e; exact hne e.symm)).trans h.cell, ?_⟩
  have h1 := h.free
  unfold World.frozen? at h1 ⊢
  simp only [World.setCell, Array.getElem?_modify, if_true]
  revert h1
  cases w.heap[g]? with
  | none => intro h1; rfl
  | some o => cases o <;> intro h1 <;> first | exact h1 | rfl
end Cl
/-- A row of one element, just laid. -/
theorem C_one {α : Type} {d : Kd α} {W : World} {T : TypeId} {x : α} {cs : List Value} (hk : ∀ w, d.K w x cs) : d.C (W.alloc (.cells cs.toArray T)) (some ⟨W.heap.size, 0, none⟩) [x].length [x] :=
  ⟨rfl, by simp, fun _ => ⟨_, rfl, fun j q hj => by
    obtain rfl : j = 0 := by
      rcases Nat.eq_zero_or_pos j with h | h
      · exact h
      · rw [List.getElem?_eq_none (by simp; omega)] at hj; cases hj
    simp at hj
    subst hj
    refine ⟨cs, d.K_len (hk W), hk _, fun i u hu => ?_⟩
    rw [Nat.zero_mul, Nat.zero_add, add_plain, blk_cell (heap_alloc_new _ _) i]
    simpa using hu⟩⟩
theorem SlV.one {α : Type} {d : Kd α} (hflat : ∀ w w1 x cs, d.K w x cs → d.K w1 x cs) {S : Nat → Prop} {W : World} {T : TypeId} {x : α} {cs : List Value} (hk : ∀ w, d.K w x cs) (hS : ¬ S W.heap.size) : St S (W.alloc (.cells cs.toArray T)) (fun w => SlV d w (.slice (some ⟨W.heap.size, 0, none⟩) 1 1) [x]) :=
  SlV.mk_ (xs := [x]) (c := 1) (Nat.le_refl _) (St.ofC hflat (C_one hk) (fun ad e _ hs => by cases e; exact hS hs))
theorem Cl.pair {w : World} {g : Nat} {a b : Value} (h0 : Cl w ⟨g, 0, none⟩ a) (h1 : Cl w ⟨g, 1, none⟩ b) (x y : Value) : Cl ((w.setCell ⟨g, 0, none⟩ x).setCell ⟨g, 1, none⟩ y) ⟨g, 0, none⟩ x ∧ Cl ((w.setCell ⟨g, 0, none⟩ x).setCell ⟨g, 1, none⟩ y) ⟨g, 1, none⟩ y :=
  ⟨h0.same.beside (by decide), (h1.beside (by decide)).same⟩
end Go.Proofs.Ytjpomfbkfgkifaa
end

section
/- An argument that can be read as data of a type reads as one of its kind. -/
namespace Go.Proofs.Ytjpomfbkfgkifaa
open Go.RowKit Go.Proofs.YtjpomfbkfgkifaaW.PrintWords Go.Proofs.YtjpomfbkfgkifaaW.PrintLast Go.Proofs.YtjpomfbkfgkifaaW.PrintMore
attribute [local go_sem] max2_int min2_int max_two min_two max_three min_three max_four min_four
set_option linter.unusedVariables false
set_option linter.unusedSimpArgs false
/-- What can be read as data of type t is one of this kind, of which W holds. -/
def Opens {α : Type} (P : Program) (d : Kd α) (t : TypeId) (W : α → Prop) : Prop :=
  ∀ (H : Type) (enc : TypeId × Value → H) (w : World) (base fuel : Nat) (held : Bool) (cs : List Value) (x : DataW H × List MemPlace), DataW.trod enc P w base (fun _ => true) held fuel t cs = some x → ∃ a, d.K w a cs ∧ W a
theorem opens_int {P : Program} {t : TypeId} {k : IntKind} (hu : P.underlying t = some (.int k)) : Opens P (Kd.int k) t (fun n => (Lit.int k n).wf = true) := by
  intro H enc w base fuel held cs x h
  obtain ⟨n, rfl, _, hw⟩ := DataW.trod_int hu h
  exact ⟨n, rfl, hw⟩
theorem opens_bool {P : Program} {t : TypeId} (hu : P.underlying t = some .bool) : Opens P Kd.bool t (fun _ => True) := by
  intro H enc w base fuel held cs x h
  obtain ⟨n, rfl, _⟩ := DataW.trod_bool hu h
  exact ⟨n, rfl, trivial⟩
theorem opens_str {P : Program} {t : TypeId} (hu : P.underlying t = some .string) : Opens P Kd.string t (fun s => s.size ≤ 9223372036854775807) := by
  intro H enc w base fuel held cs x h
  obtain ⟨s, rfl, _, hw⟩ := DataW.trod_string hu h
  exact ⟨s, rfl, by unfold maxLen at hw; exact hw⟩
theorem opens_slice {α : Type} {P : Program} {d : Kd α} {t e : TypeId} {W : α → Prop} (hu : P.underlying t = some (.slice e)) (hc : P.cellsOf e = d.sz) (h0 : 0 < d.sz) (he : Opens P d e W) : Opens P (Kd.slice e d) t (fun l => ∀ x ∈ l, W x) := by
  intro H enc w base fuel held cs x h
  rcases DataW.trod_slice hu h with ⟨rfl, _⟩ | ⟨a, len, cap, elems, rest, n, _, rfl, _, _, hl, hm, hlen, hel, _⟩
  · exact ⟨[], ⟨none, 0, rfl, Nat.le_refl _, Kd.C_nil _ _⟩, by simp⟩
  have each : ∀ i : Fin len, ∃ y : α, W y ∧ ∃ c : List Value, c.length = d.sz ∧ d.K w y c ∧ ∀ j u, c[j]? = some u → w.cell? (a.add (i.val * d.sz + j)) = some u := by
    intro i
    have h1 := hel i.val i.isLt
    rw [hc, List.getElem?_eq_getElem (by omega), Option.bind_eq_some_iff] at h1
    obtain ⟨cs', h2, h3⟩ := h1
    obtain ⟨y, hk, hw⟩ := he H enc w base n held cs' _ h3
    obtain ⟨_, hl2, hc2⟩ := World.cells?_some h2
    refine ⟨y, hw, cs', d.K_len hk, hk, fun j u hu => ?_⟩
    have hj : j < cs'.length := (List.getElem?_eq_some_iff.1 hu).1
    have h4 := hc2 j (by omega)
    rw [add_add] at h4
    rw [h4, hu]
  refine ⟨(List.finRange len).map fun i => (each i).choose, ?_, ?_⟩
  · have hL : ((List.finRange len).map fun i => (each i).choose).length = len := by simp
    refine ⟨some a, cap, by rw [hL], by rw [hL]; exact hl, ?_⟩
    rw [hL]
    refine ⟨hL, by unfold maxLen at hm; omega, fun _ => ⟨a, rfl, fun j q hj => ?_⟩⟩
    rw [List.getElem?_map, Option.map_eq_some_iff] at hj
    obtain ⟨i, hi, rfl⟩ := hj
    have hi2 := List.getElem?_eq_some_iff.1 hi
    obtain ⟨hlt, hi3⟩ := hi2
    have hij : i.val = j := by rw [← hi3]; simp
    obtain ⟨_, c, h5, h6, h7⟩ := (each i).choose_spec
    exact ⟨c, h5, h6, by rw [← hij]; exact h7⟩
  · intro y hy
    obtain ⟨i, _, rfl⟩ := List.mem_map.1 hy
    exact (each i).choose_spec.1
/-- The fields from the i-th on, which begin at cell o. -/
def OpF {α : Type} (P : Program) (d : Kd α) (fs : Array Field) (i o T : Nat) (W : α → Prop) : Prop :=
  ∀ (H : Type) (enc : TypeId × Value → H) (w : World) (base n : Nat) (held : Bool) (cs : List Value), cs.length = T →
    (∀ (j : Nat) (f : Field), fs[j]? = some f → ∃ y, DataW.trod enc P w base (fun _ => true) held n f.type ((cs.drop f.offset).take (P.cellsOf f.type)) = some y) → ∃ a, d.K w a (cs.drop o) ∧ W a
theorem OpF.one {α : Type} {P : Program} {d : Kd α} {fs : Array Field} {i o T : Nat} {f : Field} {W : α → Prop} (hf : fs[i]? = some f) (ho : f.offset = o) (hc : P.cellsOf f.type = d.sz) (hT : T = o + d.sz) (h : Opens P d f.type W) : OpF P d fs i o T W := by
  intro H enc w base n held cs hl hall
  obtain ⟨y, hy⟩ := hall i f hf
  rw [ho, hc, List.take_of_length_le (by rw [List.length_drop]; omega)] at hy
  exact h H enc w base n held _ y hy
theorem OpF.cons {α β : Type} {P : Program} {d : Kd α} {d2 : Kd β} {fs : Array Field} {i o T : Nat} {f : Field} {W : α → Prop} {W2 : β → Prop} (hf : fs[i]? = some f) (ho : f.offset = o) (hc : P.cellsOf f.type = d.sz) (h : Opens P d f.type W) (h2 : OpF P d2 fs (i + 1) (o + d.sz) T W2) :
    OpF P (Kd.pair d d2) fs i o T (fun x => W x.1 ∧ W2 x.2) := by
  intro H enc w base n held cs hl hall
  obtain ⟨y, hy⟩ := hall i f hf
  rw [ho, hc] at hy
  obtain ⟨a, hk, hw⟩ := h H enc w base n held _ y hy
  obtain ⟨b, hk2, hw2⟩ := h2 H enc w base n held cs hl hall
  refine ⟨(a, b), ⟨_, _, ?_, hk, hk2⟩, hw, hw2⟩
  rw [← List.drop_drop, List.take_append_drop]
theorem opens_struct {α β : Type} {P : Program} {d : Kd α} {t : TypeId} {fs : Array Field} {T : Nat} {W : α → Prop} (hu : P.underlying t = some (.struct fs)) (hc : P.cellsOf t = T) (h : OpF P d fs 0 0 T W) {f : β → α} {g : α → β} (hg : ∀ a, f (g a) = a) : Opens P (Kd.iso d f) t (fun x => W (f x)) := by
  intro H enc w base fuel held cs x hx
  obtain ⟨xs, n, _, _, hl, hxl, hall⟩ := DataW.trod_struct hu hx
  obtain ⟨a, hk, hw⟩ := h H enc w base n held cs (by omega) (fun j fl hj => by
    have hj2 : j < xs.length := by rw [hxl]; exact (Array.getElem?_eq_some_iff.1 hj).1
    exact ⟨xs[j], by rw [hall j fl hj, List.getElem?_eq_getElem hj2]⟩)
  rw [List.drop_zero] at hk
  exact ⟨g a, by show d.K w (f (g a)) cs; rw [hg]; exact hk, by show W (f (g a)); rw [hg]; exact hw⟩
open Go.ChangeShapes Go.WideShapes in
/-- A parameter: a slice. -/
theorem param_slice {α : Type} {P : Program} {d : Kd α} {t e : TypeId} {W : List α → Prop} {H : Type} {enc : TypeId × Value → H} {w : World} {base b0 : Nat} {held : Bool} {v : Value} {dd : DataW H} {ps : List MemPlace} (hu : P.underlying t = some (.slice e)) (ho : Opens P (Kd.slice e d) t W) (hok : Value.okWide P w .any b0 t v) (h : DataW.Trod enc P w base (fun _ => true) held t v dd ps) : ∃ l, SlV d w v l ∧ W l := by
  obtain ⟨a, len, cap, rfl⟩ := okWide_slice hu hok
  obtain ⟨fuel, hf⟩ := h
  obtain ⟨l, ⟨A, c, he, hl, hc⟩, hw⟩ := ho H enc w base fuel held _ _ hf
  have he : [Value.slice a len cap] = [Value.slice A l.length c] := he
  injection he with he
  exact ⟨l, ⟨A, c, he, hl, hc⟩, hw⟩
/-- A parameter: a struct. -/
theorem param_struct {α : Type} {P : Program} {d : Kd α} {t : TypeId} {fs : Array Field} {W : α → Prop} {H : Type} {enc : TypeId × Value → H} {w : World} {base b0 : Nat} {held : Bool} {v : Value} {dd : DataW H} {ps : List MemPlace} (hu : P.underlying t = some (.struct fs)) (ho : Opens P d t W) (hok : Value.okWide P w .any b0 t v) (h : DataW.Trod enc P w base (fun _ => true) held t v dd ps) : ∃ x cs, v = .agg cs.toArray ∧ d.K w x cs ∧ W x := by
  have h2 : ∃ cs, v = .agg cs ∧ cs.size = P.cellsOf t ∧ Row.okWide P w .any b0 t cs := by
    unfold Value.okWide at hok
    rw [hu] at hok
    exact hok
  obtain ⟨cs, rfl, _⟩ := h2
  obtain ⟨fuel, hf⟩ := h
  obtain ⟨x, hk, hw⟩ := ho H enc w base fuel held _ _ hf
  exact ⟨x, cs.toList, by simp, hk, hw⟩
end Go.Proofs.Ytjpomfbkfgkifaa
end

section
/- The kinds of this program's structs (made by the kit's kinds.py), and what reads as one. -/
namespace Go.Proofs.Ytjpomfbkfgkifaa
open Go.RowKit Go.Proofs.YtjpomfbkfgkifaaW.PrintWords Go.Proofs.YtjpomfbkfgkifaaW.PrintLast Go.Proofs.YtjpomfbkfgkifaaW.PrintMore
attribute [local go_sem] max2_int min2_int max_two min_two max_three min_three max_four min_four
set_option linter.unusedVariables false
set_option linter.unusedSimpArgs false
open Kd
/-! #### struct type 36 -/
structure S36 where
  f0 : Int
  f1 : ByteArray
def z36 : S36 := ⟨(0 : Int), (⟨#[]⟩ : ByteArray)⟩
def k36 : Kd S36 := Kd.iso (Kd.pair (Kd.int .i64) Kd.string) (fun x : S36 => (x.f0, x.f1))
theorem k36_open {w : World} {x : S36} {cs : List Value} (h : k36.K w x cs) : cs = [.int .i64 x.f0, .string x.f1] := by
  obtain ⟨_, _, rfl, rfl, rfl⟩ := h
  exact rfl
theorem k36_openM {w : World} {base : Nat} {ok : Nat → Prop} {x : S36} {cs : List Value} (h : k36.M w base ok x cs) : cs = [.int .i64 x.f0, .string x.f1] := by
  obtain ⟨_, _, rfl, rfl, rfl⟩ := h
  exact rfl
theorem k36_mk (w : World) (x : S36)  : k36.K w x [.int .i64 x.f0, .string x.f1] := ⟨[.int .i64 x.f0], [.string x.f1], rfl, rfl, rfl⟩
theorem k36_mkM (w : World) (base : Nat) (ok : Nat → Prop) (x : S36)  : k36.M w base ok x [.int .i64 x.f0, .string x.f1] := ⟨[.int .i64 x.f0], [.string x.f1], rfl, rfl, rfl⟩
def rd_T36 (xs : List S36) (i : Int) : S36 := xs.getD i.toNat z36
theorem at_T36 {w : World} {A : Option Addr} {n : Nat} {xs : List S36} (h : Kd.C k36 w A n xs) (i : Int) (h0 : 0 ≤ i) (h1 : i < n) : ∃ ad , A = some ad ∧ w.cell? (ad.add (i.toNat * 2)) = some (.int .i64 (rd_T36 xs i).f0) ∧ w.cell? ⟨(ad.add (i.toNat * 2)).block, (ad.add (i.toNat * 2)).off + 1, none⟩ = some (.string (rd_T36 xs i).f1) := by
  obtain ⟨ad, c, e, _, hK, hc0⟩ := Kd.C_get h z36 i h0 h1
  have hc : ∀ j u, c[j]? = some u → w.cell? (ad.add (i.toNat * 2 + j)) = some u := hc0
  obtain rfl := k36_open hK
  exact ⟨ad, e, hc 0 _ rfl, by rw [← add_field _ _ 1 (by omega)]; exact hc 1 _ rfl⟩

def rd_L3 (xs : List (List ByteArray)) (i : Int) : (List ByteArray) := xs.getD i.toNat ([] : List ByteArray)
theorem at_L3 {w : World} {A : Option Addr} {n : Nat} {xs : List (List ByteArray)} (h : Kd.C (Kd.slice 9 Kd.string) w A n xs) (i : Int) (h0 : 0 ≤ i) (h1 : i < n) : ∃ ad A0 c0, A = some ad ∧ w.cell? (ad.add i.toNat) = some (.slice A0 (rd_L3 xs i).length c0) ∧ (rd_L3 xs i).length ≤ c0 ∧ Kd.string.C w A0 (rd_L3 xs i).length (rd_L3 xs i) := by
  obtain ⟨ad, c, e, _, hK, hc0⟩ := Kd.C_get h ([] : List ByteArray) i h0 h1
  have hc : ∀ j u, c[j]? = some u → w.cell? (ad.add (i.toNat * 1 + j)) = some u := hc0
  obtain ⟨A0, c0, rfl, l0, g0⟩ := hK
  exact ⟨ad, A0, c0, e, by have hq := hc 0 _ rfl; rwa [Nat.mul_one, Nat.add_zero] at hq, l0, g0⟩

def rd_L4 (xs : List (List S36)) (i : Int) : (List S36) := xs.getD i.toNat ([] : List S36)
theorem at_L4 {w : World} {A : Option Addr} {n : Nat} {xs : List (List S36)} (h : Kd.C (Kd.slice 36 k36) w A n xs) (i : Int) (h0 : 0 ≤ i) (h1 : i < n) : ∃ ad A0 c0, A = some ad ∧ w.cell? (ad.add i.toNat) = some (.slice A0 (rd_L4 xs i).length c0) ∧ (rd_L4 xs i).length ≤ c0 ∧ k36.C w A0 (rd_L4 xs i).length (rd_L4 xs i) := by
  obtain ⟨ad, c, e, _, hK, hc0⟩ := Kd.C_get h ([] : List S36) i h0 h1
  have hc : ∀ j u, c[j]? = some u → w.cell? (ad.add (i.toNat * 1 + j)) = some u := hc0
  obtain ⟨A0, c0, rfl, l0, g0⟩ := hK
  exact ⟨ad, A0, c0, e, by have hq := hc 0 _ rfl; rwa [Nat.mul_one, Nat.add_zero] at hq, l0, g0⟩

/-! #### struct type 25 -/
structure S25 where
  f0 : (List ByteArray)
  f1 : (List S36)
def z25 : S25 := ⟨([] : List ByteArray), ([] : List S36)⟩
def k25 : Kd S25 := Kd.iso (Kd.pair (Kd.slice 9 Kd.string) (Kd.slice 36 k36)) (fun x : S25 => (x.f0, x.f1))
theorem k25_open {w : World} {x : S25} {cs : List Value} (h : k25.K w x cs) : ∃ A0 c0 A1 c1, cs = [.slice A0 x.f0.length c0, .slice A1 x.f1.length c1] ∧ x.f0.length ≤ c0 ∧ Kd.string.C w A0 x.f0.length x.f0 ∧ x.f1.length ≤ c1 ∧ k36.C w A1 x.f1.length x.f1 := by
  obtain ⟨_, _, rfl, ⟨A0, c0, rfl, l0, g0⟩, ⟨A1, c1, rfl, l1, g1⟩⟩ := h
  exact ⟨A0, c0, A1, c1, rfl, l0, g0, l1, g1⟩
theorem k25_openM {w : World} {base : Nat} {ok : Nat → Prop} {x : S25} {cs : List Value} (h : k25.M w base ok x cs) : ∃ v0 v1, cs = [v0, v1] ∧ Kd.string.R 9 w base ok v0 x.f0 ∧ k36.R 36 w base ok v1 x.f1 := by
  obtain ⟨_, _, rfl, ⟨v0, rfl, g0⟩, ⟨v1, rfl, g1⟩⟩ := h
  exact ⟨v0, v1, rfl, g0, g1⟩
theorem k25_mk (w : World) (x : S25) {A0 : Option Addr} {c0 : Nat} (l0 : x.f0.length ≤ c0) (g0 : Kd.string.C w A0 x.f0.length x.f0) {A1 : Option Addr} {c1 : Nat} (l1 : x.f1.length ≤ c1) (g1 : k36.C w A1 x.f1.length x.f1) : k25.K w x [.slice A0 x.f0.length c0, .slice A1 x.f1.length c1] := ⟨[.slice A0 x.f0.length c0], [.slice A1 x.f1.length c1], rfl, ⟨A0, c0, rfl, l0, g0⟩, ⟨A1, c1, rfl, l1, g1⟩⟩
theorem k25_mkM (w : World) (base : Nat) (ok : Nat → Prop) (x : S25) {v0 : Value} (g0 : Kd.string.R 9 w base ok v0 x.f0) {v1 : Value} (g1 : k36.R 36 w base ok v1 x.f1) : k25.M w base ok x [v0, v1] := ⟨[v0], [v1], rfl, ⟨v0, rfl, g0⟩, ⟨v1, rfl, g1⟩⟩
def rd_T25 (xs : List S25) (i : Int) : S25 := xs.getD i.toNat z25
theorem at_T25 {w : World} {A : Option Addr} {n : Nat} {xs : List S25} (h : Kd.C k25 w A n xs) (i : Int) (h0 : 0 ≤ i) (h1 : i < n) : ∃ ad A0 c0 A1 c1, A = some ad ∧ w.cell? (ad.add (i.toNat * 2)) = some (.slice A0 (rd_T25 xs i).f0.length c0) ∧ w.cell? ⟨(ad.add (i.toNat * 2)).block, (ad.add (i.toNat * 2)).off + 1, none⟩ = some (.slice A1 (rd_T25 xs i).f1.length c1) ∧ (rd_T25 xs i).f0.length ≤ c0 ∧ Kd.string.C w A0 (rd_T25 xs i).f0.length (rd_T25 xs i).f0 ∧ (rd_T25 xs i).f1.length ≤ c1 ∧ k36.C w A1 (rd_T25 xs i).f1.length (rd_T25 xs i).f1 := by
  obtain ⟨ad, c, e, _, hK, hc0⟩ := Kd.C_get h z25 i h0 h1
  have hc : ∀ j u, c[j]? = some u → w.cell? (ad.add (i.toNat * 2 + j)) = some u := hc0
  obtain ⟨A0, c0, A1, c1, rfl, l0, g0, l1, g1⟩ := k25_open hK
  exact ⟨ad, A0, c0, A1, c1, e, hc 0 _ rfl, by rw [← add_field _ _ 1 (by omega)]; exact hc 1 _ rfl, l0, g0, l1, g1⟩

def rd_L6 (xs : List (List S25)) (i : Int) : (List S25) := xs.getD i.toNat ([] : List S25)
theorem at_L6 {w : World} {A : Option Addr} {n : Nat} {xs : List (List S25)} (h : Kd.C (Kd.slice 25 k25) w A n xs) (i : Int) (h0 : 0 ≤ i) (h1 : i < n) : ∃ ad A0 c0, A = some ad ∧ w.cell? (ad.add i.toNat) = some (.slice A0 (rd_L6 xs i).length c0) ∧ (rd_L6 xs i).length ≤ c0 ∧ k25.C w A0 (rd_L6 xs i).length (rd_L6 xs i) := by
  obtain ⟨ad, c, e, _, hK, hc0⟩ := Kd.C_get h ([] : List S25) i h0 h1
  have hc : ∀ j u, c[j]? = some u → w.cell? (ad.add (i.toNat * 1 + j)) = some u := hc0
  obtain ⟨A0, c0, rfl, l0, g0⟩ := hK
  exact ⟨ad, A0, c0, e, by have hq := hc 0 _ rfl; rwa [Nat.mul_one, Nat.add_zero] at hq, l0, g0⟩

/-- consignor/api.Write -/
abbrev SWrite := S36
abbrev kWrite : Kd SWrite := k36
/-- consignor/api.Disk -/
abbrev SDisk := S25
abbrev kDisk : Kd SDisk := k25
/-! #### Write -/
abbrev vWrite (x : SWrite) : Value := .agg #[.int .i64 x.f0, .string x.f1]
theorem kWrite_flat : ∀ w w1 x cs, kWrite.K w x cs → kWrite.K w1 x cs := by
  intro w w1 x cs h
  rw [k36_open h]
  exact k36_mk w1 x
def WWrite (x : SWrite) : Prop := ((Lit.int .i64 x.f0).wf = true) ∧ (x.f1.size ≤ 9223372036854775807)
theorem opens_Write : Opens Try.prog kWrite 36 WWrite :=
  opens_struct (g := fun a => ⟨a.1, a.2⟩) Try.underlying36 (by kernel_rfl) (OpF.cons rfl rfl (by kernel_rfl) (opens_int (by kernel_rfl)) (OpF.one rfl rfl (by kernel_rfl) rfl (opens_str (by kernel_rfl)))) (fun _ => rfl)
/-! #### Disk -/
def VDisk (w : World) (v : Value) (x : SDisk) : Prop := ∃ cs, v = .agg cs.toArray ∧ kDisk.K w x cs
theorem VDisk.below {w w1 : World} {v : Value} {x : SDisk} (h : VDisk w v x) (hb : Below w.heap.size w w1) : VDisk w1 v x := by
  obtain ⟨cs, e, hk⟩ := h
  exact ⟨cs, e, kDisk.K_below hb hk⟩
theorem VDisk.open {S : Nat → Prop} {w : World} {v : Value} {x : SDisk} (h : St S w (fun w => VDisk w v x)) : ∃ A0 c0 A1 c1, v = .agg #[.slice A0 x.f0.length c0, .slice A1 x.f1.length c1] ∧ x.f0.length ≤ c0 ∧ x.f0.length ≤ 9223372036854775807 ∧ St S w (fun w => Kd.string.C w A0 x.f0.length x.f0) ∧ x.f1.length ≤ c1 ∧ x.f1.length ≤ 9223372036854775807 ∧ St S w (fun w => kWrite.C w A1 x.f1.length x.f1) := by
  obtain ⟨cs, rfl, hk⟩ := h.now
  obtain ⟨A0, c0, A1, c1, rfl, l0, g0, l1, g1⟩ := k25_open hk
  have hh : ∀ w1, Keep S w w1 → kDisk.K w1 x [.slice A0 x.f0.length c0, .slice A1 x.f1.length c1] := fun w1 k => by
    obtain ⟨cs, e, hk1⟩ := h w1 k
    injection e with e
    have e1 := congrArg Array.toList e
    simp only at e1
    rw [e1]
    exact hk1
  refine ⟨A0, c0, A1, c1, rfl, l0, Kd.C_max g0, fun w1 k => ?_, l1, Kd.C_max g1, fun w1 k => ?_⟩
  · obtain ⟨A0', c0', A1', c1', e, l0', g0', l1', g1'⟩ := k25_open (hh w1 k)
    have e1 := congrArg (fun l : List Value => l[0]?) e
    simp only [List.getElem?_cons_succ, List.getElem?_cons_zero, Option.some.injEq, Value.slice.injEq] at e1
    rw [e1.1]
    exact g0'
  · obtain ⟨A0', c0', A1', c1', e, l0', g0', l1', g1'⟩ := k25_open (hh w1 k)
    have e1 := congrArg (fun l : List Value => l[1]?) e
    simp only [List.getElem?_cons_succ, List.getElem?_cons_zero, Option.some.injEq, Value.slice.injEq] at e1
    rw [e1.1]
    exact g1'
theorem VDisk.mk_ {S : Nat → Prop} {w : World} {x : SDisk} {A0 : Option Addr} {c0 : Nat} (l0 : x.f0.length ≤ c0) (g0 : St S w (fun w => Kd.string.C w A0 x.f0.length x.f0)) {A1 : Option Addr} {c1 : Nat} (l1 : x.f1.length ≤ c1) (g1 : St S w (fun w => kWrite.C w A1 x.f1.length x.f1)) : St S w (fun w => VDisk w (.agg #[.slice A0 x.f0.length c0, .slice A1 x.f1.length c1]) x) := fun w1 k => ⟨_, rfl, k25_mk w1 x l0 (g0 w1 k) l1 (g1 w1 k)⟩
theorem VDisk.mkn {S : Nat → Prop} {w : World} {x : SDisk} {n0 : Nat} {n1 : Nat} {A0 : Option Addr} {c0 : Nat} (e0 : n0 = x.f0.length) (l0 : n0 ≤ c0) (g0 : St S w (fun w => Kd.string.C w A0 x.f0.length x.f0)) {A1 : Option Addr} {c1 : Nat} (e1 : n1 = x.f1.length) (l1 : n1 ≤ c1) (g1 : St S w (fun w => kWrite.C w A1 x.f1.length x.f1)) : St S w (fun w => VDisk w (.agg #[.slice A0 n0 c0, .slice A1 n1 c1]) x) := by
  subst e0
  subst e1
  exact VDisk.mk_ l0 g0 l1 g1
theorem VDisk.zero (S : Nat → Prop) (w : World) : St S w (fun w => VDisk w (.agg #[.slice none 0 0, .slice none 0 0]) z25) := VDisk.mk_ (x := z25) (Nat.le_refl _) (fun w _ => Kd.C_nil _ w) (Nat.le_refl _) (fun w _ => Kd.C_nil _ w)
def WDisk (x : SDisk) : Prop := (∀ y ∈ x.f0, y.size ≤ 9223372036854775807) ∧ (∀ y ∈ x.f1, WWrite y)
theorem opens_Disk : Opens Try.prog kDisk 25 WDisk :=
  opens_struct (g := fun a => ⟨a.1, a.2⟩) Try.underlying25 (by kernel_rfl) (OpF.cons rfl rfl (by kernel_rfl) (opens_slice (d := Kd.string) (by kernel_rfl) (by kernel_rfl) (by decide) (opens_str (by kernel_rfl))) (OpF.one rfl rfl (by kernel_rfl) rfl (opens_slice (d := kWrite) (by kernel_rfl) (by kernel_rfl) (by decide) opens_Write))) (fun _ => rfl)
end Go.Proofs.Ytjpomfbkfgkifaa
end

section
/- What slices.IndexFunc and ContainsFunc come to. -/
namespace Go.Proofs.Ytjpomfbkfgkifaa
open Go.RowKit Go.Proofs.YtjpomfbkfgkifaaW.PrintWords Go.Proofs.YtjpomfbkfgkifaaW.PrintLast Go.Proofs.YtjpomfbkfgkifaaW.PrintMore
attribute [local go_sem] max2_int min2_int max_two min_two max_three min_three max_four min_four
set_option linter.unusedVariables false
set_option linter.unusedSimpArgs false
theorem anyTo_succ {α : Type} (p : α → Bool) (l : List α) (d : α) (k : Nat) (h : k < l.length) : (l.take (k + 1)).any p = ((l.take k).any p || p (l.getD k d)) := by
  rw [List.take_succ_eq_append_getElem h, List.any_append]
  simp [List.getD_eq_getElem?_getD, List.getElem?_eq_getElem h]
theorem any_of_take {α : Type} {p : α → Bool} {l : List α} {k : Nat} (h : (l.take k).any p = true) : l.any p = true := by
  rw [List.any_eq_true] at h ⊢
  obtain ⟨x, hx, hp⟩ := h
  exact ⟨x, List.mem_of_mem_take hx, hp⟩
/-- The first place where a thing stands that is so; -1: there is none. -/
def IndexIs {α : Type} (p : α → Bool) (l : List α) (i : Int) : Prop :=
  (i = -1 ∧ l.any p = false) ∨ ∃ k : Nat, i = k ∧ ∃ h : k < l.length, p l[k] = true ∧ (l.take k).any p = false
theorem IndexIs.none {α : Type} {p : α → Bool} {l : List α} (h : l.any p = false) : IndexIs p l (-1) := .inl ⟨rfl, h⟩
theorem IndexIs.at {α : Type} {p : α → Bool} {l : List α} {d : α} {k : Nat} (h : k < l.length) (h0 : (l.take k).any p = false) (h1 : p (l.getD k d) = true) : IndexIs p l k :=
  .inr ⟨k, rfl, h, by rw [List.getD_eq_getElem?_getD, List.getElem?_eq_getElem h] at h1; exact h1, h0⟩
theorem IndexIs.found {α : Type} {p : α → Bool} {l : List α} {i : Int} (h : IndexIs p l i) : decide (i ≥ 0) = l.any p := by
  rcases h with ⟨rfl, h⟩ | ⟨k, rfl, hk, h1, _⟩
  · rw [h]; rfl
  · rw [List.any_eq_true.2 ⟨_, List.getElem_mem hk, h1⟩]
    exact decide_eq_true (by omega)
theorem two_blocks (w : World) (o1 o2 : Obj) : ((w.alloc o1).alloc o2).heap[w.heap.size]? = some o1 ∧ ((w.alloc o1).alloc o2).heap[w.heap.size + 1]? = some o2 := by
  have h1 : (w.alloc o1).heap[w.heap.size]? = some o1 := heap_alloc_new _ _
  refine ⟨((below_alloc (Below.refl (w.alloc o1).heap.size (w.alloc o1)) o2).block _ (blk_lt h1)).trans h1, ?_⟩
  have := heap_alloc_new (w.alloc o1) o2
  simpa using this
theorem blk_below {w w1 : World} {g : Nat} {o : Obj} (h : w.heap[g]? = some o) (hb : Below w.heap.size w w1) : w1.heap[g]? = some o := (hb.block g (blk_lt h)).trans h
/-- A struct's result of two cells, behind its store. -/
theorem ret2_cells {w : World} {g T : Nat} {a b : Value} (t1 : w.heap[g]? = some (.cells #[a, b] T (0, 0))) (x y : Value) :
    (w.setCell ⟨g, 0, none⟩ x).cell? ⟨g, 0, none⟩ = some x ∧ (w.setCell ⟨g, 0, none⟩ x).cell? ⟨g, 1, none⟩ = some b ∧ ((w.setCell ⟨g, 0, none⟩ x).setCell ⟨g, 1, none⟩ y).cell? ⟨g, 1, none⟩ = some y ∧ ((w.setCell ⟨g, 0, none⟩ x).setCell ⟨g, 1, none⟩ y).cell? ⟨g, 0, none⟩ = some x := by
  have h1 := blk_set t1 0 x
  have h2 := blk_set h1 1 y
  refine ⟨?_, ?_, ?_, ?_⟩
  · rw [blk_cell h1 0]; rfl
  · rw [blk_cell h1 1]; rfl
  · rw [blk_cell h2 1]; rfl
  · rw [blk_cell h2 0]; rfl
theorem cell_far (w : World) (p q : Addr) (v : Value) (h : q.block ≠ p.block) : (w.setCell p v).cell? q = w.cell? q := by
  have := Below.heap_setCell w p v q.block h
  unfold World.cell?
  rw [this]
/-- A row of flat elements stays what it is while another block is written. -/
theorem C_set {α : Type} (d : Kd α) (hflat : ∀ w w1 x cs, d.K w x cs → d.K w1 x cs) {w : World} {A : Option Addr} {n : Nat} {xs : List α} (h : d.C w A n xs) (p : Addr) (v : Value) (hne : ∀ ad, A = some ad → 0 < n → ad.block ≠ p.block) : d.C (w.setCell p v) A n xs :=
  ⟨h.1, h.2.1, fun hn => by
    obtain ⟨ad, e, hc⟩ := h.2.2 hn
    refine ⟨ad, e, fun j q hj => ?_⟩
    obtain ⟨c, hs, hr, hcell⟩ := hc j q hj
    refine ⟨c, hs, hflat _ _ _ _ hr, fun i u hu => ?_⟩
    rw [cell_far]
    · exact hcell i u hu
    · have := hne ad e hn
      unfold Addr.add
      split <;> exact this⟩
end Go.Proofs.Ytjpomfbkfgkifaa
end

section
/- disk.well and its closure: which writes may be. -/
namespace Go.Proofs.Ytjpomfbkfgkifaa
open Go.RowKit Go.Proofs.YtjpomfbkfgkifaaW.PrintWords Go.Proofs.YtjpomfbkfgkifaaW.PrintLast Go.Proofs.YtjpomfbkfgkifaaW.PrintMore
attribute [local go_sem] max2_int min2_int max_two min_two max_three min_three max_four min_four
set_option linter.unusedVariables false
set_option linter.unusedSimpArgs false
/-- A write that may not be, on so many sectors. -/
def badW (n : Int) (x : S36) : Bool := x.f0 < 0 || n ≤ x.f0 || (x.f1.size : Int) != 128
def wellW (n : Int) (l : List S36) : Bool := !(l.any (badW n))
set_option maxHeartbeats 1000000 in
set_option maxRecDepth 100000 in
theorem disk_well1 (x : S36) (n : Int) (p : Addr) (w : World) (hp : w.cell? p = some (.int .i64 n)) :
    Calls Try.prog 31 #[.agg #[.int .i64 x.f0, .string x.f1], .pointer (some p)] w fun e w' => e = .returned (.bool (badW n x)) ∧ Below w.heap.size w w' := by
  obtain ⟨a, s⟩ := x
  obtain ⟨r, hr0⟩ : ∃ r, r = badW n ⟨a, s⟩ := ⟨_, rfl⟩
  rw [← hr0]
  have hr : Hid (r = badW n ⟨a, s⟩) := hr0
  clear hr0
  have hpc : ∀ o, (w.alloc o).cell? p = some (.int .i64 n) := fun o => pw_cell_below (below_alloc (Below.refl _ _) o) hp
  by_cases h0 : a < 0
  · have hr1 : r = true := by rw [hr.out]; simp [badW, h0]
    subst hr1
    go_enter Try.func31, Try.ntmps31
    go_wp2
    go_ret
    exact ⟨rfl, (Below.refl _ _).alloc (Nat.le_refl _) _⟩
  · by_cases h1 : n ≤ a
    · have hr1 : r = true := by rw [hr.out]; simp [badW, h1]
      subst hr1
      go_enter Try.func31, Try.ntmps31
      go_wp2
      go_ret
      exact ⟨rfl, (Below.refl _ _).alloc (Nat.le_refl _) _⟩
    · have hr1 : r = ((s.size : Int) != 128) := by rw [hr.out]; simp [badW, h0, h1]
      rw [hr1]
      clear hr1 hr
      go_enter Try.func31, Try.ntmps31
      go_wp2
      go_ret
      exact ⟨rfl, (Below.refl _ _).alloc (Nat.le_refl _) _⟩
theorem disk_well1' (n : Int) (x : S36) (p : Addr) (w : World) (hp : w.cell? p = some (.int .i64 n)) :
    Calls Try.prog 31 #[.agg #[.int .i64 x.f0, .string x.f1], .pointer (some p)] w fun e w' => e = .returned (.bool (badW n x)) ∧ Below w.heap.size w w' := disk_well1 x n p w hp
set_option maxHeartbeats 2000000 in
set_option maxRecDepth 100000 in
theorem well_index (A : Option Addr) (c : Nat) (l : List S36) (n : Int) (p : Addr) (w : World) (hp : w.cell? p = some (.int .i64 n)) (ha : Kd.C k36 w A l.length l) (hc : l.length ≤ c) :
    Calls Try.prog 40 #[.slice A l.length c, .func (Fn.func 31) #[] #[.pointer (some p)]] w fun e w' => (∃ i : Int, e = .returned (.int .i64 i) ∧ IndexIs (badW n) l i) ∧ Below w.heap.size w w' := by
  have ma := Kd.C_max ha
  go_enter Try.func40, Try.ntmps40
  go_wp2
  go_loopw [8] (fun i wr => ∃ k : Nat, k ≤ l.length ∧ i = .int .i64 k ∧ Hid ((l.take k).any (badW n) = false) ∧ Below w.heap.size w wr) (fun i _ => l.length - (intOf i).toNat)
  case atStart => exact ⟨0, Nat.zero_le _, rfl, rfl, Below.refl _ _⟩
  case round =>
    obtain ⟨k, hk, rfl, hN, hb⟩ := hrel
    by_cases hlt : k < l.length
    · have HS := hid (anyTo_succ (badW n) l z36 k hlt)
      have HI := fun (h0 : (l.take k).any (badW n) = false) (h1 : (badW n) (l.getD k z36) = true) => hid (IndexIs.at hlt h0 h1)
      obtain ⟨ad, rfl, hcells⟩ := at_T36 (Kd.C_below ha hb) (k : Int) (by omega) (by omega)
      rw [Int.toNat_natCast] at hcells
      have hx : rd_T36 l (k : Int) = l.getD k z36 := by rw [rd_T36, Int.toNat_natCast]
      rw [hx] at hcells
      obtain ⟨h1, h2⟩ := hcells
      clear hx
      generalize l.getD k z36 = x at *
      go_wp2_with fail
      refine (disk_well1' n x p wr (pw_cell_below hb hp)).mono ?_
      rintro e w1 ⟨rfl, b1⟩
      by_cases hB : (badW n) x = true
      · rw [hB]
        have hE := HI hN.out hB
        clear hB HI HS
        go_wp2
        go_ret
        exact ⟨⟨_, rfl, hE.out⟩, below_step hb b1⟩
      · rw [Bool.eq_false_iff.mpr hB]
        have hE := hid (show (l.take (k + 1)).any (badW n) = false by rw [HS.out, hN.out, Bool.eq_false_iff.mpr hB]; rfl)
        clear hB HI HS
        go_wp2
        go_roundw
        case rel => exact ⟨k + 1, by omega, by go_num, hE, below_step hb b1⟩
        case measure => simp [intOf]; omega
    · obtain rfl : k = l.length := by omega
      have hE := hid (show l.any (badW n) = false by have := hN.out; rwa [List.take_length] at this)
      go_wp2
      go_ret
      exact ⟨⟨_, rfl, IndexIs.none hE.out⟩, hb⟩
set_option maxHeartbeats 1000000 in
set_option maxRecDepth 100000 in
theorem well_contains (A : Option Addr) (c : Nat) (l : List S36) (n : Int) (p : Addr) (w : World) (hp : w.cell? p = some (.int .i64 n)) (ha : Kd.C k36 w A l.length l) (hc : l.length ≤ c) :
    Calls Try.prog 30 #[.slice A l.length c, .func (Fn.func 31) #[] #[.pointer (some p)]] w fun e w' => e = .returned (.bool (l.any (badW n))) ∧ Below w.heap.size w w' := by
  obtain ⟨r, hr0⟩ : ∃ r, r = l.any (badW n) := ⟨_, rfl⟩
  rw [← hr0]
  have hr : Hid (r = l.any (badW n)) := hr0
  clear hr0
  go_enter Try.func30, Try.ntmps30
  go_wp2_with fail
  refine (well_index A c l n p w hp ha hc).mono ?_
  rintro e w1 ⟨⟨i, rfl, hi⟩, b1⟩
  have hi : Hid (IndexIs (badW n) l i) := hi
  go_wp2
  go_ret
  exact ⟨by rw [hr.out, ← IndexIs.found hi.out]; rfl, b1⟩
set_option maxHeartbeats 1000000 in
set_option maxRecDepth 100000 in
theorem disk_well (A : Option Addr) (c : Nat) (l : List S36) (n : Int) (w : World) (ha : Kd.C k36 w A l.length l) (hc : l.length ≤ c) :
    Calls Try.prog 21 #[.slice A l.length c, .int .i64 n] w fun e w' => e = .returned (.bool (wellW n l)) ∧ Below w.heap.size w w' := by
  obtain ⟨r, hr⟩ : ∃ r, r = l.any (badW n) := ⟨_, rfl⟩
  have hr2 : wellW n l = !r := by rw [hr]; rfl
  rw [hr2]
  go_enter Try.func21, Try.ntmps21
  go_wp2_with fail
  refine (well_contains A c l n _ _ (World.cell?_alloc_new _ _ _ _) (Kd.C_alloc ha _) hc).mono ?_
  rintro e w1 ⟨rfl, b1⟩
  rw [← hr]
  clear hr hr2
  go_wp2
  go_ret
  exact ⟨rfl, below_then ((Below.refl _ _).alloc (Nat.le_refl _) _) (by simp) b1⟩
def badS (x : ByteArray) : Bool := (x.size : Int) != 128
theorem right1 (x : ByteArray) (w : World) : Calls Try.prog 28 #[.string x] w fun e w' => e = .returned (.bool (badS x)) ∧ Below w.heap.size w w' := by
  go_enter Try.func28, Try.ntmps28
  go_wp2
  go_ret
  exact ⟨rfl, Below.refl _ _⟩
set_option maxHeartbeats 2000000 in
set_option maxRecDepth 100000 in
theorem right_index (A : Option Addr) (c : Nat) (l : List ByteArray) (w : World) (ha : Kd.C Kd.string w A l.length l) (hc : l.length ≤ c) :
    Calls Try.prog 39 #[.slice A l.length c, .func (Fn.func 28) #[] #[]] w fun e w' => (∃ i : Int, e = .returned (.int .i64 i) ∧ IndexIs (badS) l i) ∧ Below w.heap.size w w' := by
  have ma := Kd.C_max ha
  go_enter Try.func39, Try.ntmps39
  go_wp2
  go_loopw [8] (fun i wr => ∃ k : Nat, k ≤ l.length ∧ i = .int .i64 k ∧ Hid ((l.take k).any (badS) = false) ∧ Below w.heap.size w wr) (fun i _ => l.length - (intOf i).toNat)
  case atStart => exact ⟨0, Nat.zero_le _, rfl, rfl, Below.refl _ _⟩
  case round =>
    obtain ⟨k, hk, rfl, hN, hb⟩ := hrel
    by_cases hlt : k < l.length
    · have HS := hid (anyTo_succ (badS) l ByteArray.empty k hlt)
      have HI := fun (h0 : (l.take k).any (badS) = false) (h1 : (badS) (l.getD k ByteArray.empty) = true) => hid (IndexIs.at hlt h0 h1)
      obtain ⟨ad, rfl, h1⟩ := Kd.at_string (Kd.C_below ha hb) (k : Int) (by omega) (by omega)
      rw [Int.toNat_natCast] at h1
      have hx : rdOf ByteArray.empty l (k : Int) = l.getD k ByteArray.empty := by rw [rdOf, Int.toNat_natCast]
      rw [hx] at h1
      clear hx
      generalize l.getD k ByteArray.empty = x at *
      go_wp2_with fail
      refine (right1  x  wr ).mono ?_
      rintro e w1 ⟨rfl, b1⟩
      by_cases hB : (badS) x = true
      · rw [hB]
        have hE := HI hN.out hB
        clear hB HI HS
        go_wp2
        go_ret
        exact ⟨⟨_, rfl, hE.out⟩, below_step hb b1⟩
      · rw [Bool.eq_false_iff.mpr hB]
        have hE := hid (show (l.take (k + 1)).any (badS) = false by rw [HS.out, hN.out, Bool.eq_false_iff.mpr hB]; rfl)
        clear hB HI HS
        go_wp2
        go_roundw
        case rel => exact ⟨k + 1, by omega, by go_num, hE, below_step hb b1⟩
        case measure => simp [intOf]; omega
    · obtain rfl : k = l.length := by omega
      have hE := hid (show l.any (badS) = false by have := hN.out; rwa [List.take_length] at this)
      go_wp2
      go_ret
      exact ⟨⟨_, rfl, IndexIs.none hE.out⟩, hb⟩
set_option maxHeartbeats 1000000 in
set_option maxRecDepth 100000 in
theorem right_contains (A : Option Addr) (c : Nat) (l : List ByteArray) (w : World) (ha : Kd.C Kd.string w A l.length l) (hc : l.length ≤ c) :
    Calls Try.prog 29 #[.slice A l.length c, .func (Fn.func 28) #[] #[]] w fun e w' => e = .returned (.bool (l.any (badS))) ∧ Below w.heap.size w w' := by
  obtain ⟨r, hr0⟩ : ∃ r, r = l.any (badS) := ⟨_, rfl⟩
  rw [← hr0]
  have hr : Hid (r = l.any (badS)) := hr0
  clear hr0
  go_enter Try.func29, Try.ntmps29
  go_wp2_with fail
  refine (right_index A c l   w  ha hc).mono ?_
  rintro e w1 ⟨⟨i, rfl, hi⟩, b1⟩
  have hi : Hid (IndexIs (badS) l i) := hi
  go_wp2
  go_ret
  exact ⟨by rw [hr.out, ← IndexIs.found hi.out]; rfl, b1⟩
end Go.Proofs.Ytjpomfbkfgkifaa
end

section
/- disk.Right, disk.Load: which disks may be; a sector as it stands. -/
namespace Go.Proofs.Ytjpomfbkfgkifaa
open Go.RowKit Go.Proofs.YtjpomfbkfgkifaaW.PrintWords Go.Proofs.YtjpomfbkfgkifaaW.PrintLast Go.Proofs.YtjpomfbkfgkifaaW.PrintMore
attribute [local go_sem] max2_int min2_int max_two min_two max_three min_three max_four min_four
set_option linter.unusedVariables false
set_option linter.unusedSimpArgs false
abbrev SD := S25
abbrev SW := S36
def rightD (d : SD) : Bool := decide (4 ≤ d.f0.length) && (decide (d.f0.length ≤ 64) && (decide (d.f1.length ≤ 200) && (!(d.f0.any badS) && wellW d.f0.length d.f1)))
set_option maxHeartbeats 2000000 in
set_option maxRecDepth 100000 in
theorem disk_Right (A0 : Option Addr) (c0 : Nat) (A1 : Option Addr) (c1 : Nat) (d : SD) (w : World) (h0 : Kd.string.C w A0 d.f0.length d.f0) (l0 : d.f0.length ≤ c0) (h1 : Kd.C k36 w A1 d.f1.length d.f1) (l1 : d.f1.length ≤ c1) :
    Calls Try.prog 17 #[.agg #[.slice A0 d.f0.length c0, .slice A1 d.f1.length c1]] w fun e w' => e = .returned (.bool (rightD d)) ∧ Below w.heap.size w w' := by
  obtain ⟨s, t⟩ := d
  obtain ⟨r, hr0⟩ : ∃ r, r = rightD ⟨s, t⟩ := ⟨_, rfl⟩
  rw [← hr0]
  have hr : Hid (r = rightD ⟨s, t⟩) := hr0
  clear hr0
  have m0 := Kd.C_max h0
  have m1 := Kd.C_max h1
  simp only at h0 l0 h1 l1 m0 m1 ⊢
  by_cases q1 : 4 ≤ s.length
  · by_cases q2 : s.length ≤ 64
    · by_cases q3 : t.length ≤ 200
      · go_enter Try.func17, Try.ntmps17
        go_wp2_with fail
        refine (right_contains A0 c0 s _ (Kd.C_alloc h0 _) l0).mono ?_
        rintro e w1 ⟨rfl, b1⟩
        have b1' := below_then (below_alloc (Below.refl _ w) _) (by simp) b1
        by_cases q4 : s.any badS = true
        · have hr1 : r = false := by rw [hr.out]; simp [rightD, q1, q2, q3, q4]
          subst hr1
          rw [q4]
          clear q4 hr
          go_wp2
          go_ret
          exact ⟨rfl, b1'⟩
        · have q4 := Bool.eq_false_iff.mpr q4
          rw [q4]
          have hr1 : r = wellW s.length t := by rw [hr.out]; simp [rightD, q1, q2, q3, q4]
          subst hr1
          clear q4 hr
          have hc := pw_cell_below b1 (World.cell?_alloc_new w #[.slice A0 s.length c0, .slice A1 t.length c1] 25 1)
          go_wp2_with fail
          refine (disk_well A1 c1 t s.length _ (Kd.C_below (Kd.C_alloc h1 _) b1) l1).mono ?_
          rintro e w2 ⟨rfl, b2⟩
          go_wp2
          go_ret
          exact ⟨rfl, below_step b1' b2⟩
      · have hr1 : r = false := by rw [hr.out]; simp [rightD, q3]
        subst hr1
        clear hr
        go_enter Try.func17, Try.ntmps17
        go_wp2
        go_ret
        exact ⟨rfl, below_alloc (Below.refl _ w) _⟩
    · have hr1 : r = false := by rw [hr.out]; simp [rightD, q2]
      subst hr1
      clear hr
      go_enter Try.func17, Try.ntmps17
      go_wp2
      go_ret
      exact ⟨rfl, below_alloc (Below.refl _ w) _⟩
  · have hr1 : r = false := by rw [hr.out]; simp [rightD, q1]
    subst hr1
    clear hr
    go_enter Try.func17, Try.ntmps17
    go_wp2
    go_ret
    exact ⟨rfl, below_alloc (Below.refl _ w) _⟩
/-- A sector as it stands. -/
def standsD (d : SD) (k : Nat) : ByteArray := d.f1.foldl (fun (s : ByteArray) (x : SW) => if x.f0 = (k : Int) then x.f1 else s) (d.f0.getD k ByteArray.empty)
def standsTo (d : SD) (k j : Nat) : ByteArray := (d.f1.take j).foldl (fun (s : ByteArray) (x : SW) => if x.f0 = (k : Int) then x.f1 else s) (d.f0.getD k ByteArray.empty)
theorem standsTo_succ (d : SD) (k j : Nat) (h : j < d.f1.length) : standsTo d k (j + 1) = if (d.f1.getD j z36).f0 = (k : Int) then (d.f1.getD j z36).f1 else standsTo d k j := by
  unfold standsTo
  rw [List.take_succ_eq_append_getElem h, List.foldl_append]
  simp [List.getD_eq_getElem?_getD, List.getElem?_eq_getElem h]
set_option maxHeartbeats 2000000 in
set_option maxRecDepth 100000 in
theorem disk_Load_bad (A0 : Option Addr) (c0 : Nat) (A1 : Option Addr) (c1 : Nat) (d : SD) (at_ : Int) (w : World) (h0 : Kd.string.C w A0 d.f0.length d.f0) (l0 : d.f0.length ≤ c0) (h1 : Kd.C k36 w A1 d.f1.length d.f1) (l1 : d.f1.length ≤ c1) (hbad : rightD d = false ∨ at_ < 0 ∨ (d.f0.length : Int) ≤ at_) :
    Calls Try.prog 12 #[.agg #[.slice A0 d.f0.length c0, .slice A1 d.f1.length c1], .int .i64 at_] w fun e w' => e = .returned (.tuple #[.string ⟨#[]⟩, .int .i64 1]) ∧ Below w.heap.size w w' := by
  have m0 := Kd.C_max h0
  go_enter Try.func12, Try.ntmps12
  go_wp2_with fail
  refine (disk_Right A0 c0 A1 c1 d _ (Kd.C_alloc h0 _) l0 (Kd.C_alloc h1 _) l1).mono ?_
  rintro e w1 ⟨rfl, b1⟩
  have b1' := below_then (below_alloc (Below.refl _ w) _) (by simp) b1
  have hc := pw_cell_below b1 (World.cell?_alloc_new w #[.slice A0 d.f0.length c0, .slice A1 d.f1.length c1] 25 0)
  by_cases hR : rightD d = true
  · rw [hR]
    rcases hbad with hb | hb | hb
    · rw [hb] at hR; cases hR
    · clear hR
      go_wp2
      go_ret2
      exact ⟨rfl, b1'⟩
    · have hz : 0 ≤ at_ := by omega
      clear hR
      go_wp2
      go_ret2
      exact ⟨rfl, b1'⟩
  · rw [Bool.eq_false_iff.mpr hR]
    clear hR hbad
    go_wp2
    go_ret2
    exact ⟨rfl, b1'⟩
set_option maxHeartbeats 2000000 in
set_option maxRecDepth 100000 in
theorem disk_Load (A0 : Option Addr) (c0 : Nat) (A1 : Option Addr) (c1 : Nat) (d : SD) (k : Nat) (w : World) (h0 : Kd.string.C w A0 d.f0.length d.f0) (l0 : d.f0.length ≤ c0) (h1 : Kd.C k36 w A1 d.f1.length d.f1) (l1 : d.f1.length ≤ c1) (hR : rightD d = true) (hk : k < d.f0.length) :
    Calls Try.prog 12 #[.agg #[.slice A0 d.f0.length c0, .slice A1 d.f1.length c1], .int .i64 k] w fun e w' => e = .returned (.tuple #[.string (standsD d k), .int .i64 0]) ∧ Below w.heap.size w w' := by
  have m0 := Kd.C_max h0
  have m1 := Kd.C_max h1
  go_enter Try.func12, Try.ntmps12
  go_wp2_with fail
  refine (disk_Right A0 c0 A1 c1 d _ (Kd.C_alloc h0 _) l0 (Kd.C_alloc h1 _) l1).mono ?_
  rintro e w1 ⟨rfl, b1⟩
  rw [hR]
  clear hR
  have b1' := below_then (below_alloc (Below.refl _ w) _) (by simp) b1
  have hc0 := pw_cell_below b1 (World.cell?_alloc_new w #[.slice A0 d.f0.length c0, .slice A1 d.f1.length c1] 25 0)
  have hc1 := pw_cell_below b1 (World.cell?_alloc_new w #[.slice A0 d.f0.length c0, .slice A1 d.f1.length c1] 25 1)
  have g0 := Kd.C_below h0 b1'
  have h1' := h1
  clear h0 h1 b1
  obtain ⟨ad, rfl, hx⟩ := Kd.at_string g0 (k : Int) (by omega) (by omega)
  rw [Int.toNat_natCast] at hx
  have hx' : rdOf ByteArray.empty d.f0 (k : Int) = d.f0.getD k ByteArray.empty := by rw [rdOf, Int.toNat_natCast]
  rw [hx'] at hx
  clear hx'
  go_wp2
  go_loopw [6, 31] (fun v i wr => ∃ j : Nat, j ≤ d.f1.length ∧ i = .int .i64 j ∧ v = .string (standsTo d k j) ∧ Below w.heap.size w wr) (fun _ i _ => d.f1.length - (intOf i).toNat)
  case atStart => exact ⟨0, Nat.zero_le _, rfl, congrArg Value.string (getD_at d.f0 k ByteArray.empty hk).symm, b1'⟩
  case round =>
    obtain ⟨j, hj, rfl, rfl, hb⟩ := hrel
    by_cases hlt : j < d.f1.length
    · obtain ⟨bd, rfl, y1, y2⟩ := at_T36 (Kd.C_below h1' hb) (j : Int) (by omega) (by omega)
      rw [Int.toNat_natCast] at y1 y2
      have HS := hid (standsTo_succ d k j hlt)
      have hx : rd_T36 d.f1 (j : Int) = d.f1.getD j z36 := by rw [rd_T36, Int.toNat_natCast]
      rw [hx] at y1 y2
      clear hx
      generalize d.f1.getD j z36 = x at *
      have hz := hb.size
      by_cases he : x.f0 = (k : Int)
      · have h2 : (x.f0 == (k : Int)) = true := beq_iff_eq.2 he
        have HS2 := hid (HS.out.trans (if_pos he))
        clear he HS
        go_wp2
        go_roundw
        case rel => exact ⟨j + 1, by omega, by go_num, by rw [HS2.out], hb.alloc hz _⟩
        case measure => simp [intOf]; omega
      · have h2 : (x.f0 == (k : Int)) = false := beq_eq_false_iff_ne.2 he
        have HS2 := hid (HS.out.trans (if_neg he))
        clear he HS
        go_wp2
        go_roundw
        case rel => exact ⟨j + 1, by omega, by go_num, by rw [HS2.out], hb.alloc hz _⟩
        case measure => simp [intOf]; omega
    · obtain rfl : j = d.f1.length := by omega
      have hE := hid (show standsTo d k d.f1.length = standsD d k by rw [standsTo, List.take_length]; rfl)
      go_wp2
      go_ret2
      exact ⟨by rw [← hE.out]; rfl, hb⟩
end Go.Proofs.Ytjpomfbkfgkifaa
end

section
/- append to a row that is read and has no room behind it: what comes of it is read. -/
namespace Go.Proofs.Ytjpomfbkfgkifaa
open Go.RowKit Go.Proofs.YtjpomfbkfgkifaaW.PrintWords Go.Proofs.YtjpomfbkfgkifaaW.PrintLast Go.Proofs.YtjpomfbkfgkifaaW.PrintMore
attribute [local go_sem] max2_int min2_int max_two min_two max_three min_three max_four min_four
set_option linter.unusedVariables false
set_option linter.unusedSimpArgs false
section
variable {α : Type} {P : Program} {ops : Array Oper} {rest : List Oper} {o : Oper} {a : Act} {Q : Exit → Act → World → Prop}
theorem one_of_reps {R : α → List Value → Prop} {sz : Nat} (hs0 : 0 < sz) {ys : List α} {news : List Value} (hr : Reps R sz ys news) (h1 : ∀ p c, R p c → ∀ u ∈ c, u.oneCell' = true) : ∀ u ∈ news, u.oneCell' = true := by
  intro u hu
  obtain ⟨q, hq, rfl⟩ := List.mem_iff_getElem.1 hu
  have hql : q / sz < ys.length := by
    rw [Nat.div_lt_iff_lt_mul hs0, ← hr.1]
    exact hq
  have hc := hr.2 (q / sz) _ (List.getElem?_eq_getElem hql)
  refine h1 _ _ hc _ ?_
  rw [List.mem_iff_getElem?]
  refine ⟨q % sz, ?_⟩
  rw [List.getElem?_take, if_pos (Nat.mod_lt _ hs0), List.getElem?_drop, Nat.mul_comm, Nat.div_add_mod, List.getElem?_eq_getElem hq]
theorem reps_append {R : α → List Value → Prop} {sz : Nat} {xs ys : List α} {c1 c2 : List Value} (h1 : Reps R sz xs c1) (h2 : Reps R sz ys c2) : Reps R sz (xs ++ ys) (c1 ++ c2) := by
  refine ⟨by rw [List.length_append, List.length_append, h1.1, h2.1, Nat.add_mul], fun j p hj => ?_⟩
  by_cases hlt : j < xs.length
  · rw [List.getElem?_append_left hlt] at hj
    have := h1.2 j p hj
    have hl : (j + 1) * sz ≤ c1.length := by rw [h1.1]; exact Nat.mul_le_mul_right _ hlt
    rw [Nat.add_mul, Nat.one_mul] at hl
    rwa [List.drop_append_of_le_length (by omega), List.take_append_of_le_length (by rw [List.length_drop]; omega)]
  · rw [List.getElem?_append_right (by omega)] at hj
    have := h2.2 _ p hj
    have e : j * sz = c1.length + (j - xs.length) * sz := by rw [h1.1, ← Nat.add_mul]; congr 1; omega
    rw [e, List.drop_append, List.drop_of_length_le (by omega), List.nil_append, Nat.add_sub_cancel_left]
    exact this
theorem ownBlock_slice {w : World} {base e size n c : Nat} {ad : Addr} {xs : List Value} (h : w.ownsRow base e size (.slice (some ad) n c) n xs) : (Value.slice (some ad) n c).ownBlock = some ad.block := by
  rcases h.2 with ⟨h, _⟩ | ⟨g, cap, cur, h, _⟩
  · cases h
  · injection h with h; injection h with h; subst h; rfl
theorem C_append (d : Kd α) {W : World} (hgd : o.guard = none) (s x : Operand) (t e : TypeId) (z : Value) (bytes : Nat)
    (ho : o.op = .call { callee := .builtin .append, args := #[s, x], argTypes := #[t, t] })
    (ht : P.underlying t = some (.slice e)) (hinfo : (P.info? e).map (fun i => (i.zero, i.size, i.bytes)) = some (some z, d.sz, bytes)) (hz : z.cells.size = d.sz) (hs0 : 0 < d.sz) (hb0 : 0 < bytes)
    (A B : Option Addr) (xs ys : List α) (c : Nat) (hs : a.eval s = .slice A xs.length xs.length) (hx : a.eval x = .slice B ys.length c) (h1 : d.C W A xs.length xs) (h2 : d.C W B ys.length ys) (hl : (xs.length + ys.length) * bytes ≤ 140737488355328)
    (h : ∀ A1 c1 w1, (xs ++ ys).length ≤ c1 → d.C w1 A1 (xs ++ ys).length (xs ++ ys) → Below W.heap.size W w1 → (A1 = A ∧ ys = [] ∨ ∀ ad, A1 = some ad → W.heap.size ≤ ad.block) → wpList P ops Q rest (a.put o.dst (.slice A1 (xs ++ ys).length c1)) w1) :
    wpList P ops Q (o :: rest) a W := by
  obtain ⟨i0, hi, hzz⟩ := Option.map_eq_some_iff.1 hinfo
  simp only [Prod.mk.injEq] at hzz
  obtain ⟨hz0, hz1, hz2⟩ := hzz
  have hlen : xs.length + ys.length ≤ 140737488355328 := Nat.le_trans (Nat.le_mul_of_pos_right _ hb0) hl
  rcases Nat.eq_zero_or_pos ys.length with h0 | h0
  · obtain rfl : ys = [] := List.eq_nil_of_length_eq_zero h0
    rw [List.append_nil] at h
    have hrun : (Builtin.append_ #[t, t] o.type #[.slice A xs.length xs.length, .slice B 0 c]).run P W = .ok (.slice A xs.length xs.length) W := by
      rcases A with _ | ad
      · have hx0 : xs.length = 0 := by
          rcases Nat.eq_zero_or_pos xs.length with h' | h'
          · exact h'
          · obtain ⟨ad, h', _⟩ := h1.2.2 h'; cases h'
        rw [hx0]
        rcases B with _ | bd <;> simp [Builtin.append_, run_underlying ht, sizeOf, typeInfo, hi, Builtin.lenOf, Builtin.firstCells, loadCells, loadCellsFrom]
      · rcases B with _ | bd <;> simp [Builtin.append_, run_underlying ht, sizeOf, typeInfo, hi, Builtin.lenOf, Builtin.firstCells, storeCells, loadCells, loadCellsFrom]
    refine wpList_plain hgd fun K hK => ?_
    unfold Oper.wp execOp
    simp only [List.length_nil] at hx
    simp only [ho, resolve, invoke, builtin, Sem.run_bind, Sem.run_pure, Result.andThen_ok, List.map_toArray, List.map_cons, List.map_nil, hs, hx, hrun]
    exact hK _ _ (h A xs.length W (Nat.le_refl _) h1 (Below.refl _ _) (.inl ⟨rfl, rfl⟩))
  · obtain ⟨bd, rfl, _⟩ := h2.2.2 h0
    obtain ⟨news, hnr, hnc⟩ := ReadsRow.inner_ h2
    obtain ⟨olds, hor, hoc⟩ : ∃ olds, Reps (d.K W) d.sz xs olds ∧ ∀ b, A = some b → ∀ j u, olds[j]? = some u → W.cell? (b.add j) = some u := by
      rcases A with _ | ad
      · have hx0 : xs.length = 0 := by
          rcases Nat.eq_zero_or_pos xs.length with h' | h'
          · exact h'
          · obtain ⟨ad, h', _⟩ := h1.2.2 h'; cases h'
        obtain rfl : xs = [] := List.eq_nil_of_length_eq_zero hx0
        exact ⟨[], Reps.none _ _, fun b hb => by cases hb⟩
      · obtain ⟨olds, h3, h4⟩ := ReadsRow.inner_ h1
        exact ⟨olds, h3, fun b hb => by cases hb; exact h4⟩
    refine wpList_append_grows W hgd s x t ho e i0 z d.sz bytes ht hi hz0 hz1 hz2 hz hs0 A xs.length xs.length olds hs (fun hA => ?_) hor.1 hoc bd ys.length c news hx hnr.1 hnc (one_of_reps hs0 hnr fun p cs hp => d.K_one hp) (by omega) (by unfold maxLen; omega) hl ?_
    · rcases Nat.eq_zero_or_pos xs.length with h' | h'
      · exact ⟨h', h'⟩
      · obtain ⟨ad, h', _⟩ := h1.2.2 h'; rw [hA] at h'; cases h'
    · intro v1 w1 hown hg
      have hb : Below W.heap.size W w1 := (Below.refl _ _).grown hg (Nat.le_refl _) (fun k hk => by cases hk)
      have hrr := reps_append hor hnr
      obtain ⟨A1, c1, rfl, hread⟩ := own_reads_row hown (hrr.imp_ (fun p cs hp => d.K_below hb hp)) (by rw [List.length_append])
      have hle : xs.length + ys.length ≤ c1 := by
        rcases hown.2 with ⟨_, hn⟩ | ⟨g, cap, cur, he, _, _, hnc', _⟩
        · omega
        · injection he with _ _ he; omega
      have := h A1 c1 w1 (by rw [List.length_append]; exact hle) (by rw [List.length_append]; exact hread) hb (.inr fun ad he => own_base hown ad.block (by subst he; exact ownBlock_slice hown))
      rwa [List.length_append] at this
end
end Go.Proofs.Ytjpomfbkfgkifaa
end

section
/- slices.Clip of []api.Write. -/
namespace Go.Proofs.Ytjpomfbkfgkifaa
open Go.RowKit Go.Proofs.YtjpomfbkfgkifaaW.PrintWords Go.Proofs.YtjpomfbkfgkifaaW.PrintLast Go.Proofs.YtjpomfbkfgkifaaW.PrintMore
attribute [local go_sem] max2_int min2_int max_two min_two max_three min_three max_four min_four
set_option linter.unusedVariables false
set_option linter.unusedSimpArgs false
theorem Try.Clip_w (A : Option Addr) (n c : Nat) (w : World) (hc : n ≤ c) (hn : n ≤ 1099511627776) :
    Calls Try.prog 22 #[.slice A n c] w fun e w' => e = .returned (.slice A n n) ∧ w = w' := by
  go_enter Try.func22, Try.ntmps22
  go_wp2
  all_goals (go_ret; exact ⟨rfl, rfl⟩)
end Go.Proofs.Ytjpomfbkfgkifaa
end

section
/- disk.Save. -/
namespace Go.Proofs.Ytjpomfbkfgkifaa
open Go.RowKit Go.Proofs.YtjpomfbkfgkifaaW.PrintWords Go.Proofs.YtjpomfbkfgkifaaW.PrintLast Go.Proofs.YtjpomfbkfgkifaaW.PrintMore
attribute [local go_sem] max2_int min2_int max_two min_two max_three min_three max_four min_four
set_option linter.unusedVariables false
set_option linter.unusedSimpArgs false
theorem Try.info_write : (Try.prog.info? 36).map (fun i => (i.zero, i.size, i.bytes)) = some (some (.agg #[.int .i64 0, .string ⟨#[]⟩]), 2, 24) := by kernel_rfl
def noD : SD := ⟨[], []⟩
def saveD (d : SD) (l : List SW) : SD × Int := if rightD d = true ∧ wellW d.f0.length l = true then (if d.f1.length + l.length ≤ 200 then (⟨d.f0, d.f1 ++ l⟩, 0) else (noD, 13)) else (noD, 1)
theorem rightD_few {d : SD} (h : rightD d = true) : d.f1.length ≤ 200 := by
  simp only [rightD, Bool.and_eq_true, decide_eq_true_eq] at h
  exact h.2.2.1
set_option maxHeartbeats 4000000 in
set_option maxRecDepth 100000 in
theorem disk_Save (S : Nat → Prop) (v u : Value) (d : SD) (l : List SW) (w : World) (hS : ∀ k, S k → k < w.heap.size) (hd : St S w (fun w => VDisk w v d)) (hl : St S w (fun w => SlV kWrite w u l)) (hn : l.length ≤ 1099511627776) :
    Calls Try.prog 10 #[v, u] w fun e w' => (∃ r, e = .returned (.tuple #[r, .int .i64 (saveD d l).2]) ∧ St S w' (fun w => VDisk w r (saveD d l).1)) ∧ Below w.heap.size w w' := by
  obtain ⟨A0, c0, A1, c1, rfl, l0, m0, h0, l1, m1, h1⟩ := VDisk.open hd
  obtain ⟨B, c, rfl, l2, m2, h2⟩ := SlV.open hl
  obtain ⟨S1, hP⟩ := priv w hS 2
  have hz : True := trivial
  have hc : True := trivial
  have hf : True := trivial
  replace h0 := h0.wide hP.down
  replace h1 := h1.wide hP.down
  replace h2 := h2.wide hP.down
  clear hd hl
  go_enter Try.func10, Try.ntmps10
  go_wp2_with fail
  refine (disk_Right A0 c0 A1 c1 d _ (h0.at_ (by repeat (first | exact Keep.refl _ _ | (with_reducible assumption) | refine Keep.alloc ?_ _ | refine Keep.drewN ?_ _ | refine Keep.drew ?_ | refine Keep.set ?_ (by first | exact .inl rfl | exact .inr (by dsimp only; omega) | exact .inl (hP.own _ (by dsimp only; omega) (by dsimp only; omega)) | exact .inl (by assumption)) _ | refine Keep.step ?_ (by assumption)))) l0 (h1.at_ (by repeat (first | exact Keep.refl _ _ | (with_reducible assumption) | refine Keep.alloc ?_ _ | refine Keep.drewN ?_ _ | refine Keep.drew ?_ | refine Keep.set ?_ (by first | exact .inl rfl | exact .inr (by dsimp only; omega) | exact .inl (hP.own _ (by dsimp only; omega) (by dsimp only; omega)) | exact .inl (by assumption)) _ | refine Keep.step ?_ (by assumption)))) l1).mono ?_
  rintro e w1 ⟨rfl, b1⟩
  have hc' := fun (b o : Nat) (h : b < w.heap.size + 2) => b1.cell (p := ⟨b, o, none⟩) (show b < _ by first | omega | (simp <;> omega))
  first
    | (replace hc := fun (b o : Nat) (h : b < w.heap.size + 2) => (hc' b o h).trans (hc b o h))
    | (replace hc := fun (b o : Nat) (h : b < w.heap.size + 2) => (hc' b o h).trans ((cell_al (show b < _ by omega)).trans (hc b o h)))
    | (replace hc := fun (b o : Nat) (h : b < w.heap.size + 2) => (hc' b o h).trans ((cell_al (show b < _ by simp <;> omega)).trans ((cell_al (show b < _ by omega)).trans (hc b o h))))
    | (replace hc := fun (b o : Nat) (h : b < w.heap.size + 2) => (hc' b o h).trans ((cell_al (show b < _ by simp <;> omega)).trans ((cell_al (show b < _ by simp <;> omega)).trans ((cell_al (show b < _ by omega)).trans (hc b o h)))))
    | (have hc := hc')
  clear hc'
  have hf' := fun (b o : Nat) (h : b < w.heap.size + 2) => b1.frozen (p := ⟨b, o, none⟩) (show b < _ by first | omega | (simp <;> omega))
  first
    | (replace hf := fun (b o : Nat) (h : b < w.heap.size + 2) => (hf' b o h).trans (hf b o h))
    | (replace hf := fun (b o : Nat) (h : b < w.heap.size + 2) => (hf' b o h).trans ((frozen_al (show b < _ by omega)).trans (hf b o h)))
    | (replace hf := fun (b o : Nat) (h : b < w.heap.size + 2) => (hf' b o h).trans ((frozen_al (show b < _ by simp <;> omega)).trans ((frozen_al (show b < _ by omega)).trans (hf b o h))))
    | (replace hf := fun (b o : Nat) (h : b < w.heap.size + 2) => (hf' b o h).trans ((frozen_al (show b < _ by simp <;> omega)).trans ((frozen_al (show b < _ by simp <;> omega)).trans ((frozen_al (show b < _ by omega)).trans (hf b o h)))))
    | (have hf := hf')
  clear hf'
  have hz' := b1.size
  try simp only [World.size_alloc, World.size_setCell, World.size_drew, size_drewN] at hz'
  replace hz : w.heap.size + 2 ≤ w1.heap.size := by omega
  have hz1 := hz
  clear hz'
  by_cases hR : rightD d = true
  · have hfew : d.f1.length ≤ 200 := rightD_few hR
    rw [hR]
    go_wp2_with fail
    refine (disk_well B c l d.f0.length _ (h2.at_ (by repeat (first | exact Keep.refl _ _ | (with_reducible assumption) | refine Keep.alloc ?_ _ | refine Keep.drewN ?_ _ | refine Keep.drew ?_ | refine Keep.set ?_ (by first | exact .inl rfl | exact .inr (by dsimp only; omega) | exact .inl (hP.own _ (by dsimp only; omega) (by dsimp only; omega)) | exact .inl (by assumption)) _ | refine Keep.step ?_ (by assumption)))) l2).mono ?_
    rintro e w2 ⟨rfl, b2⟩
    have hc' := fun (b o : Nat) (h : b < w.heap.size + 2) => b2.cell (p := ⟨b, o, none⟩) (show b < _ by first | omega | (simp <;> omega))
    first
      | (replace hc := fun (b o : Nat) (h : b < w.heap.size + 2) => (hc' b o h).trans (hc b o h))
      | (replace hc := fun (b o : Nat) (h : b < w.heap.size + 2) => (hc' b o h).trans ((cell_al (show b < _ by omega)).trans (hc b o h)))
      | (replace hc := fun (b o : Nat) (h : b < w.heap.size + 2) => (hc' b o h).trans ((cell_al (show b < _ by simp <;> omega)).trans ((cell_al (show b < _ by omega)).trans (hc b o h))))
      | (replace hc := fun (b o : Nat) (h : b < w.heap.size + 2) => (hc' b o h).trans ((cell_al (show b < _ by simp <;> omega)).trans ((cell_al (show b < _ by simp <;> omega)).trans ((cell_al (show b < _ by omega)).trans (hc b o h)))))
      | (have hc := hc')
    clear hc'
    have hf' := fun (b o : Nat) (h : b < w.heap.size + 2) => b2.frozen (p := ⟨b, o, none⟩) (show b < _ by first | omega | (simp <;> omega))
    first
      | (replace hf := fun (b o : Nat) (h : b < w.heap.size + 2) => (hf' b o h).trans (hf b o h))
      | (replace hf := fun (b o : Nat) (h : b < w.heap.size + 2) => (hf' b o h).trans ((frozen_al (show b < _ by omega)).trans (hf b o h)))
      | (replace hf := fun (b o : Nat) (h : b < w.heap.size + 2) => (hf' b o h).trans ((frozen_al (show b < _ by simp <;> omega)).trans ((frozen_al (show b < _ by omega)).trans (hf b o h))))
      | (replace hf := fun (b o : Nat) (h : b < w.heap.size + 2) => (hf' b o h).trans ((frozen_al (show b < _ by simp <;> omega)).trans ((frozen_al (show b < _ by simp <;> omega)).trans ((frozen_al (show b < _ by omega)).trans (hf b o h)))))
      | (have hf := hf')
    clear hf'
    have hz' := b2.size
    try simp only [World.size_alloc, World.size_setCell, World.size_drew, size_drewN] at hz'
    replace hz : w.heap.size + 2 ≤ w2.heap.size := by omega
    have hz2 := hz
    clear hz'
    by_cases hW : wellW d.f0.length l = true
    · rw [hW]
      have hwr : wrap64 ((d.f1.length : Int) + (l.length : Int)) = (d.f1.length : Int) + (l.length : Int) := by unfold wrap64; omega
      by_cases h200 : d.f1.length + l.length ≤ 200
      · have hs := hid (show saveD d l = (⟨d.f0, d.f1 ++ l⟩, 0) by unfold saveD; rw [if_pos ⟨hR, hW⟩, if_pos h200])
        clear hW hR
        go_wp2_with fail
        refine (Try.Clip_w A1 _ c1 _ l1 (by omega)).mono ?_
        rintro e w3 ⟨rfl, rfl⟩
        have k2 : Keep S1 w w2 := (by repeat (first | exact Keep.refl _ _ | (with_reducible assumption) | refine Keep.alloc ?_ _ | refine Keep.drewN ?_ _ | refine Keep.drew ?_ | refine Keep.set ?_ (by first | exact .inl rfl | exact .inr (by dsimp only; omega) | exact .inl (hP.own _ (by dsimp only; omega) (by dsimp only; omega)) | exact .inl (by assumption)) _ | refine Keep.step ?_ (by assumption)))
        have hS2 := hP.lts hz
        go_wp2_with (at_builtin; (refine C_append kWrite rfl _ _ _ _ _ 24 rfl (by kernel_rfl) Try.info_write rfl (by decide) (by decide) A1 B d.f1 l c rfl rfl (h1.at_ k2) (h2.at_ k2) (by omega) ?_; intro A2 c2 w4 l4 g4 b4 hfar; have ga := St.append kWrite_flat hS2 (h1.keep k2) b4 g4 hfar; (have hc' := fun (b o : Nat) (h : b < w.heap.size + 2) => b4.cell (p := ⟨b, o, none⟩) (show b < _ by first | omega | (simp <;> omega))); (first | (replace hc := fun (b o : Nat) (h : b < w.heap.size + 2) => (hc' b o h).trans (hc b o h)) | (replace hc := fun (b o : Nat) (h : b < w.heap.size + 2) => (hc' b o h).trans ((cell_al (show b < _ by omega)).trans (hc b o h))) | (replace hc := fun (b o : Nat) (h : b < w.heap.size + 2) => (hc' b o h).trans ((cell_al (show b < _ by simp <;> omega)).trans ((cell_al (show b < _ by omega)).trans (hc b o h)))) | (replace hc := fun (b o : Nat) (h : b < w.heap.size + 2) => (hc' b o h).trans ((cell_al (show b < _ by simp <;> omega)).trans ((cell_al (show b < _ by simp <;> omega)).trans ((cell_al (show b < _ by omega)).trans (hc b o h))))) | (have hc := hc')); (clear hc'); (have hf' := fun (b o : Nat) (h : b < w.heap.size + 2) => b4.frozen (p := ⟨b, o, none⟩) (show b < _ by first | omega | (simp <;> omega))); (first | (replace hf := fun (b o : Nat) (h : b < w.heap.size + 2) => (hf' b o h).trans (hf b o h)) | (replace hf := fun (b o : Nat) (h : b < w.heap.size + 2) => (hf' b o h).trans ((frozen_al (show b < _ by omega)).trans (hf b o h))) | (replace hf := fun (b o : Nat) (h : b < w.heap.size + 2) => (hf' b o h).trans ((frozen_al (show b < _ by simp <;> omega)).trans ((frozen_al (show b < _ by omega)).trans (hf b o h)))) | (replace hf := fun (b o : Nat) (h : b < w.heap.size + 2) => (hf' b o h).trans ((frozen_al (show b < _ by simp <;> omega)).trans ((frozen_al (show b < _ by simp <;> omega)).trans ((frozen_al (show b < _ by omega)).trans (hf b o h))))) | (have hf := hf')); (clear hf'); (have hz' := b4.size); (try simp only [World.size_alloc, World.size_setCell, World.size_drew, size_drewN] at hz'); (replace hz : w.heap.size + 2 ≤ w4.heap.size := by omega); (have hz4 := hz); (clear hz')))
        exact bodyPost_ret (v := .tuple #[.agg #[.slice A0 d.f0.length c0, .slice A2 (d.f1 ++ l).length c2], .int .i64 0]) (by simp [results, Try.results10, go_sem, *]) rfl ⟨⟨_, by rw [hs.out], by rw [hs.out]; exact VDisk.mk_ (x := ⟨d.f0, d.f1 ++ l⟩) l0 ((h0.keep (by repeat (first | exact Keep.refl _ _ | (with_reducible assumption) | refine Keep.alloc ?_ _ | refine Keep.drewN ?_ _ | refine Keep.drew ?_ | refine Keep.set ?_ (by first | exact .inl rfl | exact .inr (by dsimp only; omega) | exact .inl (hP.own _ (by dsimp only; omega) (by dsimp only; omega)) | exact .inl (by assumption)) _ | refine Keep.step ?_ (by assumption)))).sub hP.up) l4 ((ga.keep (by repeat (first | exact Keep.refl _ _ | (with_reducible assumption) | refine Keep.alloc ?_ _ | refine Keep.drewN ?_ _ | refine Keep.drew ?_ | refine Keep.set ?_ (by first | exact .inl rfl | exact .inr (by dsimp only; omega) | exact .inl (hP.own _ (by dsimp only; omega) (by dsimp only; omega)) | exact .inl (by assumption)) _ | refine Keep.step ?_ (by assumption)))).sub hP.up)⟩, (by repeat (first | exact Below.refl _ _ | (with_reducible assumption) | refine below_alloc ?_ _ | refine pw_below_drewN ?_ _ | refine below_drew ?_ | refine Below.setCell ?_ (by dsimp only; omega) _ | refine below_step ?_ (by assumption)))⟩
      · have hs := hid (show saveD d l = (noD, 13) by unfold saveD; rw [if_pos ⟨hR, hW⟩, if_neg h200])
        clear hW hR
        go_wp2
        exact bodyPost_ret (v := .tuple #[.agg #[.slice none 0 0, .slice none 0 0], .int .i64 13]) (by simp [results, Try.results10, go_sem, *]) rfl ⟨⟨_, by rw [hs.out], by rw [hs.out]; exact VDisk.zero _ _⟩, (by repeat (first | exact Below.refl _ _ | (with_reducible assumption) | refine below_alloc ?_ _ | refine pw_below_drewN ?_ _ | refine below_drew ?_ | refine Below.setCell ?_ (by dsimp only; omega) _ | refine below_step ?_ (by assumption)))⟩
    · have hs := hid (show saveD d l = (noD, 1) by unfold saveD; rw [if_neg (fun h => hW h.2)])
      rw [Bool.eq_false_iff.mpr hW]
      clear hW hR
      go_wp2
      exact bodyPost_ret (v := .tuple #[.agg #[.slice none 0 0, .slice none 0 0], .int .i64 1]) (by simp [results, Try.results10, go_sem, *]) rfl ⟨⟨_, by rw [hs.out], by rw [hs.out]; exact VDisk.zero _ _⟩, (by repeat (first | exact Below.refl _ _ | (with_reducible assumption) | refine below_alloc ?_ _ | refine pw_below_drewN ?_ _ | refine below_drew ?_ | refine Below.setCell ?_ (by dsimp only; omega) _ | refine below_step ?_ (by assumption)))⟩
  · have hs := hid (show saveD d l = (noD, 1) by unfold saveD; rw [if_neg (fun h => hR h.1)])
    rw [Bool.eq_false_iff.mpr hR]
    clear hR
    go_wp2
    exact bodyPost_ret (v := .tuple #[.agg #[.slice none 0 0, .slice none 0 0], .int .i64 1]) (by simp [results, Try.results10, go_sem, *]) rfl ⟨⟨_, by rw [hs.out], by rw [hs.out]; exact VDisk.zero _ _⟩, (by repeat (first | exact Below.refl _ _ | (with_reducible assumption) | refine below_alloc ?_ _ | refine pw_below_drewN ?_ _ | refine below_drew ?_ | refine Below.setCell ?_ (by dsimp only; omega) _ | refine below_step ?_ (by assumption)))⟩
end Go.Proofs.Ytjpomfbkfgkifaa
end

section
/- slices.Clone of []string. -/
namespace Go.Proofs.Ytjpomfbkfgkifaa
open Go.RowKit Go.Proofs.YtjpomfbkfgkifaaW.PrintWords Go.Proofs.YtjpomfbkfgkifaaW.PrintLast Go.Proofs.YtjpomfbkfgkifaaW.PrintMore
attribute [local go_sem] max2_int min2_int max_two min_two max_three min_three max_four min_four
set_option linter.unusedVariables false
set_option linter.unusedSimpArgs false
section
variable {P : Program} {ops : Array Oper} {rest : List Oper} {o : Oper} {a : Act} {Q : Exit → Act → World → Prop}
theorem clone_strs {W : World} (hgd : o.guard = none) (s x : Operand) (t e : TypeId)
    (ho : o.op = .call { callee := .builtin .append, args := #[s, x], argTypes := #[t, t] })
    (ht : P.underlying t = some (.slice e)) (hinfo : (P.info? e).map (fun i => (i.zero, i.size, i.bytes)) = some (some (.string ⟨#[]⟩), 1, 16))
    (A B : Option Addr) (ys : List ByteArray) (c : Nat) (hs : a.eval s = .slice A 0 0) (hx : a.eval x = .slice B ys.length c) (h2 : Kd.string.C W B ys.length ys) (hl : ys.length * 16 ≤ 140737488355328) (hpos : 0 < ys.length)
    (h : ∀ v1 w1, w1.ownsRow W.heap.size e 1 v1 ys.length (encs Value.string ys) → Below W.heap.size W w1 → wpList P ops Q rest (a.put o.dst v1) w1) :
    wpList P ops Q (o :: rest) a W := by
  obtain ⟨i0, hi, hzz⟩ := Option.map_eq_some_iff.1 hinfo
  simp only [Prod.mk.injEq] at hzz
  obtain ⟨hz0, hz1, hz2⟩ := hzz
  have hR := Kd.reads_of_C (enc := Value.string) (d := ByteArray.empty) (h1 := fun _ => rfl) h2
  obtain ⟨bd, rfl, hcell⟩ := hR.2.2 hpos
  refine wpList_append_grows W hgd s x t ho e i0 (.string ⟨#[]⟩) 1 16 ht hi hz0 hz1 hz2 rfl (by decide) A 0 0 [] hs (fun _ => ⟨rfl, rfl⟩) rfl (fun b _ j u hj => by simp at hj) bd ys.length c (encs Value.string ys) hx (by simp [encs]) ?_ ?_ (by omega) (by unfold maxLen; omega) (by omega) ?_
  · intro j u hj
    simp only [encs, List.getElem?_map] at hj
    obtain ⟨b, hb, rfl⟩ := Option.map_eq_some_iff.1 hj
    have hjl := (List.getElem?_eq_some_iff.1 hb).1
    have := hcell j hjl
    rwa [List.getD_eq_getElem?_getD, hb] at this
  · intro u hu
    simp only [encs, List.mem_map] at hu
    obtain ⟨b, _, rfl⟩ := hu
    rfl
  · intro v1 w1 hown hg
    rw [Nat.zero_add, List.nil_append] at hown
    exact h v1 w1 hown ((Below.refl _ _).grown hg (Nat.le_refl _) (fun k hk => by cases hk))
end
set_option maxHeartbeats 1000000 in
theorem Try.Clone_s (B : Option Addr) (ys : List ByteArray) (c : Nat) (w : World) (h2 : Kd.string.C w B ys.length ys) (hl : ys.length * 16 ≤ 140737488355328) (hpos : 0 < ys.length) (hc : ys.length ≤ c) :
    Calls Try.prog 38 #[.slice B ys.length c] w fun e w' => (∃ g cap, e = .returned (.slice (some ⟨g, 0, none⟩) ys.length cap) ∧ w.heap.size ≤ g ∧ w'.ownsRow w.heap.size 9 1 (.slice (some ⟨g, 0, none⟩) ys.length cap) ys.length (encs Value.string ys)) ∧ Below w.heap.size w w' := by
  have m1 := Kd.C_max h2
  obtain ⟨bd, rfl, _⟩ := h2.2.2 hpos
  have hnil : ∀ w1 : World, (binOp .eql 22 (.slice (some bd) ys.length c) (.slice none 0 0)).run Try.prog w1 = .ok (.bool false) w1 := fun w1 => by
    have := Go.Lib.run_eql_slice_nil (P := Try.prog) w1 22 9 (some bd) ys.length c 0 0 (by kernel_rfl)
    simpa using this
  go_enter Try.func38, Try.ntmps38
  go_wp2_with (at_builtin; go_loud (refine clone_strs rfl _ _ 22 9 rfl (by kernel_rfl) (by kernel_rfl) _ _ ys c rfl rfl (Kd.C_alloc h2 _) hl hpos ?_; intro v1 w1 ho hb))
  go_ret
  have hb1 := below_step ((Below.refl _ w).alloc (Nat.le_refl _) _) hb
  rcases ho.2 with ⟨_, h0⟩ | ⟨g, cap, cur, rfl, hg, hh, hr⟩
  · omega
  · have hg' : w.heap.size ≤ g := by simp at hg; omega
    exact ⟨⟨g, cap, rfl, hg', ho.1, .inr ⟨g, cap, cur, rfl, hg', hh, hr⟩⟩, hb1⟩
end Go.Proofs.Ytjpomfbkfgkifaa
end
