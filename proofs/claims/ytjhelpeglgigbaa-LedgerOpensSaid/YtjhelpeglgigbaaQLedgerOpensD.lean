/- Go functions compute what Lean functions do. -/
import Derived.Test.YtjhelpeglgigbaaProg
import Derived.Test.YtjhelpeglgigbaaQLedgerOpensB
import Derived.Test.YtjhelpeglgigbaaQLedgerOpensC
import Derived.KernelRfl
section
/- Go functions compute what Lean functions do. -/
namespace Go.Proofs.Ytjhelpeglgigbaa.V
open Go Go.RowKit
set_option linter.unusedVariables false
set_option linter.unusedSimpArgs false
set_option maxHeartbeats 1000000
set_option maxRecDepth 20000
-- 10 consignor/ledger.Open
def c10r0 : List Opn := [
  ⟨(some 1), none, .box 2 (.t 0)⟩, 
  ⟨(some 2), none, .new [.nils, .nils, (.d (.int .i64 0)), (.d (.int .i64 0)), (.d (.int .i64 0)), .nils]⟩, 
  ⟨(some 3), none, .mv (.c (.s (.d (.int .i64 0))))⟩]
def c10r1 : List Opn := [
  ⟨(some 12), none, .load true 2 (.t 1)⟩, 
  ⟨(some 13), none, .call (.fn 31) [(.t 12)]⟩, 
  ⟨(some 14), none, .un .not (.t 13)⟩, 
  ⟨(some 15), none, .mv (.t 14)⟩, 
  ⟨(some 16), some (15, false), .fadr 1 (.t 1)⟩, 
  ⟨(some 17), some (15, false), .load false 1 (.t 16)⟩, 
  ⟨(some 18), some (15, false), .len (.sl 0) (.t 17)⟩, 
  ⟨(some 19), some (15, false), .bin .gtr (.t 18) (.c (.s (.d (.int .i64 0))))⟩, 
  ⟨(some 20), none, .pick (.t 15) (.c (.s (.d (.bool true)))) (.t 19)⟩]
def c10r2 : List Opn := [
  ⟨(some 21), none, .build [.nils, .nils, (.d (.int .i64 0)), (.d (.int .i64 0)), (.d (.int .i64 0)), .nils] []⟩, 
  ⟨none, none, .store 6 (.t 2) (.t 21)⟩, 
  ⟨(some 3), none, .mv (.c (.s (.d (.int .i64 1))))⟩]
def c10r3 : List Opn := [
  ⟨(some 22), none, .load true 2 (.t 1)⟩, 
  ⟨(some 23), none, .build [.nils, .nils, (.d (.int .i64 0)), (.d (.int .i64 0)), (.d (.int .i64 0)), .nils] [(0, 2, (.t 22))]⟩, 
  ⟨(some 4), none, .new [.nils, .nils, (.d (.int .i64 0)), (.d (.int .i64 0)), (.d (.int .i64 0)), .nils]⟩, 
  ⟨none, none, .store 6 (.t 4) (.t 23)⟩]
def c10r4 : List Opn := [
  ⟨(some 24), none, .mv (.c (.s (.d (.int .i64 0))))⟩]
def c10r5 : List Opn := [
  ⟨(some 25), none, .bin .lss (.t 24) (.c (.s (.d (.int .i64 2))))⟩]
def c10r6 : List Opn := [
  ⟨(some 26), none, .mv (.t 24)⟩, 
  ⟨(some 5), none, .mv (.t 26)⟩]
def c10r7 : List Opn := [
  ⟨(some 28), none, .load true 2 (.t 1)⟩, 
  ⟨(some 29), none, .mv (.t 5)⟩, 
  ⟨(some 30), none, .call (.fn 32) [(.t 28), (.t 29)]⟩, 
  ⟨(some 27), none, .mv (.t 30)⟩, 
  ⟨(some 31), none, .ext (.t 27) 0⟩, 
  ⟨(some 32), none, .ext (.t 27) 1⟩, 
  ⟨(some 6), none, .mv (.t 31)⟩, 
  ⟨(some 7), none, .mv (.t 32)⟩]
def c10r8 : List Opn := [
  ⟨(some 33), none, .mv (.t 6)⟩, 
  ⟨(some 34), none, .fadr 3 (.t 4)⟩, 
  ⟨(some 35), none, .load false 1 (.t 34)⟩, 
  ⟨(some 36), none, .bin .gtr (.t 33) (.t 35)⟩]
def c10r9 : List Opn := [
  ⟨(some 37), none, .mv (.t 5)⟩, 
  ⟨(some 38), none, .mv (.t 6)⟩, 
  ⟨(some 39), none, .mv (.t 7)⟩, 
  ⟨(some 40), none, .fadr 2 (.t 4)⟩, 
  ⟨none, none, .store 1 (.t 40) (.t 37)⟩, 
  ⟨(some 41), none, .fadr 3 (.t 4)⟩, 
  ⟨none, none, .store 1 (.t 41) (.t 38)⟩, 
  ⟨(some 42), none, .fadr 4 (.t 4)⟩, 
  ⟨none, none, .store 1 (.t 42) (.t 39)⟩]
def c10r10 : List Opn := [
  ⟨(some 43), none, .bin .add (.t 24) (.c (.s (.d (.int .i64 1))))⟩, 
  ⟨(some 24), none, .mv (.t 43)⟩]
def c10l11 : C := .seq (.reg c10r5 none [1, 2, 4, 24, 25]) (.seq (.cond (.t 25) (.skip) (.exit 0)) (.seq (.blk 1 (.seq (.reg c10r6 none [1, 2, 4, 5, 24]) (.seq (.reg c10r7 none [1, 2, 4, 5, 6, 7, 24]) (.seq (.reg c10r8 none [1, 2, 4, 5, 6, 7, 24, 36]) (.cond (.t 36) (.reg c10r9 none [1, 2, 4, 24]) (.skip)))))) (.reg c10r10 none [1, 2, 4, 24])))
def c10r11 : List Opn := [
  ⟨(some 45), none, .load true 2 (.t 1)⟩, 
  ⟨(some 46), none, .fadr 2 (.t 4)⟩, 
  ⟨(some 47), none, .load false 1 (.t 46)⟩, 
  ⟨(some 48), none, .call (.fn 33) [(.t 45), (.t 47)]⟩, 
  ⟨(some 44), none, .mv (.t 48)⟩, 
  ⟨(some 49), none, .ext (.t 44) 0⟩, 
  ⟨(some 50), none, .ext (.t 44) 1⟩, 
  ⟨(some 8), none, .mv (.t 49)⟩, 
  ⟨(some 9), none, .mv (.t 50)⟩]
def c10r12 : List Opn := [
  ⟨(some 52), none, .mv (.t 9)⟩, 
  ⟨(some 53), none, .fadr 4 (.t 4)⟩, 
  ⟨(some 54), none, .load false 1 (.t 53)⟩, 
  ⟨(some 55), none, .slc .str (.t 52) none (some (.t 54)) none⟩, 
  ⟨(some 56), none, .call (.fn 34) [(.t 55)]⟩, 
  ⟨(some 51), none, .mv (.t 56)⟩, 
  ⟨(some 57), none, .ext (.t 51) 0⟩, 
  ⟨(some 58), none, .ext (.t 51) 1⟩, 
  ⟨(some 10), none, .mv (.t 57)⟩, 
  ⟨(some 11), none, .mv (.t 58)⟩]
def c10r13 : List Opn := [
  ⟨(some 59), none, .fadr 3 (.t 4)⟩, 
  ⟨(some 60), none, .load false 1 (.t 59)⟩, 
  ⟨(some 61), none, .bin .eql (.t 60) (.c (.s (.d (.int .i64 0))))⟩, 
  ⟨(some 62), none, .mv (.t 61)⟩, 
  ⟨(some 63), some (62, false), .mv (.t 11)⟩, 
  ⟨(some 64), some (62, false), .un .not (.t 63)⟩, 
  ⟨(some 65), none, .pick (.t 62) (.c (.s (.d (.bool true)))) (.t 64)⟩]
def c10r14 : List Opn := [
  ⟨(some 66), none, .build [.nils, .nils, (.d (.int .i64 0)), (.d (.int .i64 0)), (.d (.int .i64 0)), .nils] []⟩, 
  ⟨none, none, .store 6 (.t 2) (.t 66)⟩, 
  ⟨(some 3), none, .mv (.c (.s (.d (.int .i64 14))))⟩]
def c10r15 : List Opn := [
  ⟨(some 67), none, .mv (.t 10)⟩, 
  ⟨(some 68), none, .fadr 5 (.t 4)⟩, 
  ⟨none, none, .store 1 (.t 68) (.t 67)⟩]
def c10r16 : List Opn := [
  ⟨(some 69), none, .load true 6 (.t 4)⟩, 
  ⟨none, none, .store 6 (.t 2) (.t 69)⟩, 
  ⟨(some 3), none, .mv (.c (.s (.d (.int .i64 0))))⟩]
def c10 : C := .seq (.reg c10r0 none [1, 2]) (.seq (.seq (.reg c10r1 none [1, 2, 20]) (.cond (.t 20) (.seq (.reg c10r2 none [2, 3]) (.ret)) (.skip))) (.seq (.reg c10r3 none [1, 2, 4]) (.seq (.seq (.reg c10r4 none [1, 2, 4, 24]) (.blk 0 (.loop c10l11))) (.seq (.reg c10r11 none [2, 4, 9]) (.seq (.reg c10r12 none [2, 4, 10, 11]) (.seq (.seq (.reg c10r13 none [2, 4, 10, 65]) (.cond (.t 65) (.seq (.reg c10r14 none [2, 3]) (.ret)) (.skip))) (.seq (.reg c10r15 none [2, 4]) (.seq (.reg c10r16 none [2, 3]) (.ret)))))))))
def k10 : List (Nat × List Nat) := [(16, [2, 3]), (15, [2, 4]), (14, [2, 3]), (13, [2, 4, 10, 65]), (12, [2, 4, 10, 11]), (11, [2, 4, 9]), (10, [1, 2, 4, 24]), (9, [1, 2, 4, 24]), (8, [1, 2, 4, 5, 6, 7, 24, 36]), (7, [1, 2, 4, 5, 6, 7, 24]), (6, [1, 2, 4, 5, 24]), (5, [1, 2, 4, 24, 25]), (4, [1, 2, 4, 24]), (3, [1, 2, 4]), (2, [2, 3]), (1, [1, 2, 20]), (0, [1, 2])]
theorem cc10 : (Try.f10.body).bind (cC Try.prog 70 k10) = some c10 := by kernel_rfl
def rv10 : List RV := [.c 2 true 6, .t 3]
theorem cr10 : cRVs Try.prog Try.f10.results.toList = some rv10 := by kernel_rfl
theorem f_ledger_Open_l11_ok (d : api_Disk) (y_ : api_Ledger × Int) (R_ : St → Prop) (hR : (Ret Try.prog glP [] rv10 (.tup [.agg ((e_api_Ledger y_.1).map Lc.d), .s (.d (.int .i64 y_.2))])) = R_) : ∀ (m_ : Nat) (v24 : Int) (l : Int) (l2 : Int) (l3 : Int) (res_ : Int × Int × Int × Int) (h : f_ledger_Open_l11 d m_ v24 l l2 l3 = some res_) (k_ : List It) (hx : ∀ s_ : Int × Int × Int × Int, res_ = s_ → W Try.prog glP 70 k_ ⟨lkT [(1, .b (.s (.ptr 1 1 0 0))), (2, .b (.s (.ptr 2 1 0 0))), (4, .b (.s (.ptr 4 1 0 0))), (24, .b (.s (.d (.int .i64 s_.1))))], lkG [(1, ⟨2, [[(.d (.sl (d.Sectors.map eS))), (.d (.sl (d.Dirty.map e_api_Write)))]], false⟩), (2, ⟨6, [[.nils, .nils, (.d (.int .i64 0)), (.d (.int .i64 0)), (.d (.int .i64 0)), .nils]], false⟩), (4, ⟨6, [[(.d (.sl (d.Sectors.map eS))), (.d (.sl (d.Dirty.map e_api_Write))), (.d (.int .i64 s_.2.1)), (.d (.int .i64 s_.2.2.1)), (.d (.int .i64 s_.2.2.2)), .nils]], false⟩)]⟩ R_), W Try.prog glP 70 (.c c10l11 :: .lp c10l11 :: .blk 0 :: k_) ⟨lkT [(1, .b (.s (.ptr 1 1 0 0))), (2, .b (.s (.ptr 2 1 0 0))), (4, .b (.s (.ptr 4 1 0 0))), (24, .b (.s (.d (.int .i64 v24))))], lkG [(1, ⟨2, [[(.d (.sl (d.Sectors.map eS))), (.d (.sl (d.Dirty.map e_api_Write)))]], false⟩), (2, ⟨6, [[.nils, .nils, (.d (.int .i64 0)), (.d (.int .i64 0)), (.d (.int .i64 0)), .nils]], false⟩), (4, ⟨6, [[(.d (.sl (d.Sectors.map eS))), (.d (.sl (d.Dirty.map e_api_Write))), (.d (.int .i64 l)), (.d (.int .i64 l2)), (.d (.int .i64 l3)), .nils]], false⟩)]⟩ R_ := by
  intro m_; induction m_ with
  | zero => intro v24 l l2 l3 res_ h; rw [f_ledger_Open_l11.eq_1] at h; cases h
  | succ m_ ih =>
    intro v24 l l2 l3 res_ h k_ hx; rw [f_ledger_Open_l11.eq_2] at h; refine W.cdef c10l11.eq_1 ?_
    refine .seq ?_
    refine Rw.walk ?_
    simp only [wz, wd, ws, Nat.reduceAdd, Nat.reduceSub, Nat.reduceMul, Nat.reduceLeDiff, Nat.reduceEqDiff, Nat.reduceLT, Nat.reduceBEq, reduceIte, reduceCtorEq, Int.reduceToNat, Nat.reduceShiftRight, Nat.reduceAnd, Nat.reduceBneDiff, Nat.reduceBNe, c10r5, semI.eq_10, semI.eq_11, semI.eq_3, semI.eq_5, semI.eq_7, e_api_Ledger, e_api_Disk, e_api_Write]
    refine .seq ?_
    refine .cond (p := (decide (v24 < 2))) (by first | rfl | simp only [wz, wd, ws, Nat.reduceAdd, Nat.reduceSub, Nat.reduceMul, Nat.reduceLeDiff, Nat.reduceEqDiff, Nat.reduceLT, Nat.reduceBEq, reduceIte, reduceCtorEq, Int.reduceToNat, Nat.reduceShiftRight, Nat.reduceAnd, Nat.reduceBneDiff, Nat.reduceBNe]) (fun h1 => ?_) (fun h1 => ?_)
    · rw [ite_t h1] at h
      refine .skip ?_
      refine .seq ?_
      refine .blk ?_
      refine .seq ?_
      refine Rw.walk ?_
      simp only [wz, wd, ws, Nat.reduceAdd, Nat.reduceSub, Nat.reduceMul, Nat.reduceLeDiff, Nat.reduceEqDiff, Nat.reduceLT, Nat.reduceBEq, reduceIte, reduceCtorEq, Int.reduceToNat, Nat.reduceShiftRight, Nat.reduceAnd, Nat.reduceBneDiff, Nat.reduceBNe, c10r6, semI.eq_10, semI.eq_11, semI.eq_3, semI.eq_5, semI.eq_7, e_api_Ledger, e_api_Disk, e_api_Write]
      refine .seq ?_
      refine Rw.walk ?_
      simp only [wz, wd, ws, Nat.reduceAdd, Nat.reduceSub, Nat.reduceMul, Nat.reduceLeDiff, Nat.reduceEqDiff, Nat.reduceLT, Nat.reduceBEq, reduceIte, reduceCtorEq, Int.reduceToNat, Nat.reduceShiftRight, Nat.reduceAnd, Nat.reduceBneDiff, Nat.reduceBNe, c10r7, semI.eq_10, semI.eq_11, semI.eq_3, semI.eq_5, semI.eq_7, e_api_Ledger, e_api_Disk, e_api_Write]
      obtain ⟨t2, e2, h⟩ := Option.bind_eq_some_iff.1 h
      refine call_fun [] false ⟨trivial, trivial, trivial, trivial⟩ rfl ?_ (f_ledger_tells_ok _ _ _ e2) (fun _ => rfl) (fun i hi => by cases hi) ?_
      · simp only [wz, wd, ws, Nat.reduceAdd, Nat.reduceSub, Nat.reduceMul, Nat.reduceLeDiff, Nat.reduceEqDiff, Nat.reduceLT, Nat.reduceBEq, reduceIte, reduceCtorEq, Int.reduceToNat, Nat.reduceShiftRight, Nat.reduceAnd, Nat.reduceBneDiff, Nat.reduceBNe, e_api_Ledger, e_api_Disk, e_api_Write]
      simp only [wz, wd, ws, Nat.reduceAdd, Nat.reduceSub, Nat.reduceMul, Nat.reduceLeDiff, Nat.reduceEqDiff, Nat.reduceLT, Nat.reduceBEq, reduceIte, reduceCtorEq, Int.reduceToNat, Nat.reduceShiftRight, Nat.reduceAnd, Nat.reduceBneDiff, Nat.reduceBNe, c10r7, semI.eq_10, semI.eq_11, semI.eq_3, semI.eq_5, semI.eq_7, e_api_Ledger, e_api_Disk, e_api_Write]
      refine .seq ?_
      refine Rw.walk ?_
      simp only [wz, wd, ws, Nat.reduceAdd, Nat.reduceSub, Nat.reduceMul, Nat.reduceLeDiff, Nat.reduceEqDiff, Nat.reduceLT, Nat.reduceBEq, reduceIte, reduceCtorEq, Int.reduceToNat, Nat.reduceShiftRight, Nat.reduceAnd, Nat.reduceBneDiff, Nat.reduceBNe, c10r8, semI.eq_10, semI.eq_11, semI.eq_3, semI.eq_5, semI.eq_7, e_api_Ledger, e_api_Disk, e_api_Write]
      refine .cond (p := (decide (t2.1 > l2))) (by first | rfl | simp only [wz, wd, ws, Nat.reduceAdd, Nat.reduceSub, Nat.reduceMul, Nat.reduceLeDiff, Nat.reduceEqDiff, Nat.reduceLT, Nat.reduceBEq, reduceIte, reduceCtorEq, Int.reduceToNat, Nat.reduceShiftRight, Nat.reduceAnd, Nat.reduceBneDiff, Nat.reduceBNe]) (fun h1 => ?_) (fun h1 => ?_)
      · rw [ite_t h1] at h
        refine Rw.walk ?_
        simp only [wz, wd, ws, Nat.reduceAdd, Nat.reduceSub, Nat.reduceMul, Nat.reduceLeDiff, Nat.reduceEqDiff, Nat.reduceLT, Nat.reduceBEq, reduceIte, reduceCtorEq, Int.reduceToNat, Nat.reduceShiftRight, Nat.reduceAnd, Nat.reduceBneDiff, Nat.reduceBNe, c10r9, semI.eq_10, semI.eq_11, semI.eq_3, semI.eq_5, semI.eq_7, e_api_Ledger, e_api_Disk, e_api_Write]
        refine .eblk ?_
        refine Rw.walk ?_
        simp only [wz, wd, ws, Nat.reduceAdd, Nat.reduceSub, Nat.reduceMul, Nat.reduceLeDiff, Nat.reduceEqDiff, Nat.reduceLT, Nat.reduceBEq, reduceIte, reduceCtorEq, Int.reduceToNat, Nat.reduceShiftRight, Nat.reduceAnd, Nat.reduceBneDiff, Nat.reduceBNe, c10r10, semI.eq_10, semI.eq_11, semI.eq_3, semI.eq_5, semI.eq_7, e_api_Ledger, e_api_Disk, e_api_Write]
        refine .lp ?_
        refine .weak (Imp.co [] _ _ ?_ ?_ ?_ ?_ ?_) (ih (IntKind.i64.wrap (v24 + 1)) v24 t2.1 t2.2 _ h k_ hx) <;> simp only [wz, wd, ws, Nat.reduceAdd, Nat.reduceSub, Nat.reduceMul, Nat.reduceLeDiff, Nat.reduceEqDiff, Nat.reduceLT, Nat.reduceBEq, reduceIte, reduceCtorEq, Int.reduceToNat, Nat.reduceShiftRight, Nat.reduceAnd, Nat.reduceBneDiff, Nat.reduceBNe, wi, er_nil, e_api_Ledger, e_api_Disk, e_api_Write]
      · rw [ite_f h1] at h
        refine .skip ?_
        refine .eblk ?_
        refine Rw.walk ?_
        simp only [wz, wd, ws, Nat.reduceAdd, Nat.reduceSub, Nat.reduceMul, Nat.reduceLeDiff, Nat.reduceEqDiff, Nat.reduceLT, Nat.reduceBEq, reduceIte, reduceCtorEq, Int.reduceToNat, Nat.reduceShiftRight, Nat.reduceAnd, Nat.reduceBneDiff, Nat.reduceBNe, c10r10, semI.eq_10, semI.eq_11, semI.eq_3, semI.eq_5, semI.eq_7, e_api_Ledger, e_api_Disk, e_api_Write]
        refine .lp ?_
        refine .weak (Imp.co [] _ _ ?_ ?_ ?_ ?_ ?_) (ih (IntKind.i64.wrap (v24 + 1)) l l2 l3 _ h k_ hx) <;> simp only [wz, wd, ws, Nat.reduceAdd, Nat.reduceSub, Nat.reduceMul, Nat.reduceLeDiff, Nat.reduceEqDiff, Nat.reduceLT, Nat.reduceBEq, reduceIte, reduceCtorEq, Int.reduceToNat, Nat.reduceShiftRight, Nat.reduceAnd, Nat.reduceBneDiff, Nat.reduceBNe, wi, er_nil, e_api_Ledger, e_api_Disk, e_api_Write]
    · rw [ite_f h1] at h
      refine .exit rfl ?_
      obtain rfl := Option.some.inj h
      refine .weak (Imp.co [] _ _ ?_ ?_ ?_ ?_ ?_) (hx _ rfl) <;> simp only [wz, wd, ws, Nat.reduceAdd, Nat.reduceSub, Nat.reduceMul, Nat.reduceLeDiff, Nat.reduceEqDiff, Nat.reduceLT, Nat.reduceBEq, reduceIte, reduceCtorEq, Int.reduceToNat, Nat.reduceShiftRight, Nat.reduceAnd, Nat.reduceBneDiff, Nat.reduceBNe, wi, er_nil, e_api_Ledger, e_api_Disk, e_api_Write]
theorem f_ledger_Open_ok (d : api_Disk) (y_ : api_Ledger × Int) (h : f_ledger_Open d = some y_) : Fun Try.prog glP 10 [.b (.agg ((e_api_Disk d).map Lc.d))] (.tup [.agg ((e_api_Ledger y_.1).map Lc.d), .s (.d (.int .i64 y_.2))]) := by
  refine fun_walk [] Try.func10 Try.ntmps10 cc10 cr10 (by kernel_rfl) (by simp only [List.length_cons, List.length_nil]; decide) ?_
  generalize hR : Ret _ _ _ _ _ = R_
  simp only [wz, wd, ws, Nat.reduceAdd, Nat.reduceSub, Nat.reduceMul, Nat.reduceLeDiff, Nat.reduceEqDiff, Nat.reduceLT, Nat.reduceBEq, reduceIte, reduceCtorEq, Int.reduceToNat, Nat.reduceShiftRight, Nat.reduceAnd, Nat.reduceBneDiff, Nat.reduceBNe, e_api_Ledger, e_api_Disk, e_api_Write]
  unfold f_ledger_Open at h; unfold c10
  refine .seq ?_
  refine Rw.walk ?_
  simp only [wz, wd, ws, Nat.reduceAdd, Nat.reduceSub, Nat.reduceMul, Nat.reduceLeDiff, Nat.reduceEqDiff, Nat.reduceLT, Nat.reduceBEq, reduceIte, reduceCtorEq, Int.reduceToNat, Nat.reduceShiftRight, Nat.reduceAnd, Nat.reduceBneDiff, Nat.reduceBNe, c10r0, semI.eq_10, semI.eq_11, semI.eq_3, semI.eq_5, semI.eq_7, e_api_Ledger, e_api_Disk, e_api_Write]
  refine .seq ?_
  refine .seq ?_
  refine Rw.walk ?_
  simp only [wz, wd, ws, Nat.reduceAdd, Nat.reduceSub, Nat.reduceMul, Nat.reduceLeDiff, Nat.reduceEqDiff, Nat.reduceLT, Nat.reduceBEq, reduceIte, reduceCtorEq, Int.reduceToNat, Nat.reduceShiftRight, Nat.reduceAnd, Nat.reduceBneDiff, Nat.reduceBNe, c10r1, semI.eq_10, semI.eq_11, semI.eq_3, semI.eq_5, semI.eq_7, e_api_Ledger, e_api_Disk, e_api_Write]
  obtain ⟨t, e1, h⟩ := Option.bind_eq_some_iff.1 h
  refine call_fun [] false ⟨trivial, trivial, trivial⟩ rfl ?_ (f_disk_Right_ok _ _ e1) (fun _ => rfl) (fun i hi => by cases hi) ?_
  · simp only [wz, wd, ws, Nat.reduceAdd, Nat.reduceSub, Nat.reduceMul, Nat.reduceLeDiff, Nat.reduceEqDiff, Nat.reduceLT, Nat.reduceBEq, reduceIte, reduceCtorEq, Int.reduceToNat, Nat.reduceShiftRight, Nat.reduceAnd, Nat.reduceBneDiff, Nat.reduceBNe, e_api_Ledger, e_api_Disk, e_api_Write]
  simp only [wz, wd, ws, Nat.reduceAdd, Nat.reduceSub, Nat.reduceMul, Nat.reduceLeDiff, Nat.reduceEqDiff, Nat.reduceLT, Nat.reduceBEq, reduceIte, reduceCtorEq, Int.reduceToNat, Nat.reduceShiftRight, Nat.reduceAnd, Nat.reduceBneDiff, Nat.reduceBNe, c10r1, semI.eq_10, semI.eq_11, semI.eq_3, semI.eq_5, semI.eq_7, e_api_Ledger, e_api_Disk, e_api_Write]
  refine call_alt (v := .b (.s (.d (.sl (d.Dirty.map e_api_Write))))) rfl rfl (by simp only [wz, wd, ws, Nat.reduceAdd, Nat.reduceSub, Nat.reduceMul, Nat.reduceLeDiff, Nat.reduceEqDiff, Nat.reduceLT, Nat.reduceBEq, reduceIte, reduceCtorEq, Int.reduceToNat, Nat.reduceShiftRight, Nat.reduceAnd, Nat.reduceBneDiff, Nat.reduceBNe]) (fun q => ⟨_, by simp only [wz, wd, ws, Nat.reduceAdd, Nat.reduceSub, Nat.reduceMul, Nat.reduceLeDiff, Nat.reduceEqDiff, Nat.reduceLT, Nat.reduceBEq, reduceIte, reduceCtorEq, Int.reduceToNat, Nat.reduceShiftRight, Nat.reduceAnd, Nat.reduceBneDiff, Nat.reduceBNe, semI.eq_10, e_api_Ledger, e_api_Disk, e_api_Write], trivial⟩) ?_
  simp only [wz, wd, ws, Nat.reduceAdd, Nat.reduceSub, Nat.reduceMul, Nat.reduceLeDiff, Nat.reduceEqDiff, Nat.reduceLT, Nat.reduceBEq, reduceIte, reduceCtorEq, Int.reduceToNat, Nat.reduceShiftRight, Nat.reduceAnd, Nat.reduceBneDiff, Nat.reduceBNe, c10r1, semI.eq_10, semI.eq_11, semI.eq_3, semI.eq_5, semI.eq_7, e_api_Ledger, e_api_Disk, e_api_Write]
  repeat (refine And.intro ?_ ?_; · first | omega | (simp only [List.length_append, List.length_cons, List.length_nil] at *; omega) | (intro q; simp only [wz, wd, ws, Nat.reduceAdd, Nat.reduceSub, Nat.reduceMul, Nat.reduceLeDiff, Nat.reduceEqDiff, Nat.reduceLT, Nat.reduceBEq, reduceIte, reduceCtorEq, Int.reduceToNat, Nat.reduceShiftRight, Nat.reduceAnd, Nat.reduceBneDiff, Nat.reduceBNe, q]; done))
  refine .cond (p := ((!t) || (decide ((d.Dirty.length : Int) > 0)))) (by first | rfl | simp only [wz, wd, ws, Nat.reduceAdd, Nat.reduceSub, Nat.reduceMul, Nat.reduceLeDiff, Nat.reduceEqDiff, Nat.reduceLT, Nat.reduceBEq, reduceIte, reduceCtorEq, Int.reduceToNat, Nat.reduceShiftRight, Nat.reduceAnd, Nat.reduceBneDiff, Nat.reduceBNe]) (fun h1 => ?_) (fun h1 => ?_)
  · rw [ite_t h1] at h
    refine .seq ?_
    refine Rw.walk ?_
    simp only [wz, wd, ws, Nat.reduceAdd, Nat.reduceSub, Nat.reduceMul, Nat.reduceLeDiff, Nat.reduceEqDiff, Nat.reduceLT, Nat.reduceBEq, reduceIte, reduceCtorEq, Int.reduceToNat, Nat.reduceShiftRight, Nat.reduceAnd, Nat.reduceBneDiff, Nat.reduceBNe, c10r2, semI.eq_10, semI.eq_11, semI.eq_3, semI.eq_5, semI.eq_7, e_api_Ledger, e_api_Disk, e_api_Write]
    obtain rfl := Option.some.inj h
    refine .ret ?_
    rw [← hR]
    simp only [wz, wd, ws, Nat.reduceAdd, Nat.reduceSub, Nat.reduceMul, Nat.reduceLeDiff, Nat.reduceEqDiff, Nat.reduceLT, Nat.reduceBEq, reduceIte, reduceCtorEq, Int.reduceToNat, Nat.reduceShiftRight, Nat.reduceAnd, Nat.reduceBneDiff, Nat.reduceBNe, rv10, semI.eq_10, e_api_Ledger, e_api_Disk, e_api_Write]
  · rw [ite_f h1] at h
    refine .skip ?_
    refine .seq ?_
    refine Rw.walk ?_
    simp only [wz, wd, ws, Nat.reduceAdd, Nat.reduceSub, Nat.reduceMul, Nat.reduceLeDiff, Nat.reduceEqDiff, Nat.reduceLT, Nat.reduceBEq, reduceIte, reduceCtorEq, Int.reduceToNat, Nat.reduceShiftRight, Nat.reduceAnd, Nat.reduceBneDiff, Nat.reduceBNe, c10r3, semI.eq_10, semI.eq_11, semI.eq_3, semI.eq_5, semI.eq_7, e_api_Ledger, e_api_Disk, e_api_Write]
    refine .seq ?_
    refine .seq ?_
    refine Rw.walk ?_
    simp only [wz, wd, ws, Nat.reduceAdd, Nat.reduceSub, Nat.reduceMul, Nat.reduceLeDiff, Nat.reduceEqDiff, Nat.reduceLT, Nat.reduceBEq, reduceIte, reduceCtorEq, Int.reduceToNat, Nat.reduceShiftRight, Nat.reduceAnd, Nat.reduceBneDiff, Nat.reduceBNe, c10r4, semI.eq_10, semI.eq_11, semI.eq_3, semI.eq_5, semI.eq_7, e_api_Ledger, e_api_Disk, e_api_Write]
    refine .blk ?_
    obtain ⟨s, hf, h⟩ := Option.bind_eq_some_iff.1 h
    refine .loop (.weak (Imp.co [] _ _ ?c1 ?c2 ?c3 ?c4 ?c5) (f_ledger_Open_l11_ok d _ _ hR _ _ _ _ _ _ hf _ ?_))
    case c1 | c2 | c3 | c4 | c5 => simp only [wz, wd, ws, Nat.reduceAdd, Nat.reduceSub, Nat.reduceMul, Nat.reduceLeDiff, Nat.reduceEqDiff, Nat.reduceLT, Nat.reduceBEq, reduceIte, reduceCtorEq, Int.reduceToNat, Nat.reduceShiftRight, Nat.reduceAnd, Nat.reduceBneDiff, Nat.reduceBNe, wi, er_nil, e_api_Ledger, e_api_Disk, e_api_Write]
    · intro s_ hs; subst hs
      refine .seq ?_
      refine Rw.walk ?_
      simp only [wz, wd, ws, Nat.reduceAdd, Nat.reduceSub, Nat.reduceMul, Nat.reduceLeDiff, Nat.reduceEqDiff, Nat.reduceLT, Nat.reduceBEq, reduceIte, reduceCtorEq, Int.reduceToNat, Nat.reduceShiftRight, Nat.reduceAnd, Nat.reduceBneDiff, Nat.reduceBNe, c10r11, semI.eq_10, semI.eq_11, semI.eq_3, semI.eq_5, semI.eq_7, e_api_Ledger, e_api_Disk, e_api_Write]
      obtain ⟨t2, e3, h⟩ := Option.bind_eq_some_iff.1 h
      refine call_fun [] false ⟨trivial, trivial, trivial, trivial⟩ rfl ?_ (f_ledger_room_ok _ _ _ e3) (fun _ => rfl) (fun i hi => by cases hi) ?_
      · simp only [wz, wd, ws, Nat.reduceAdd, Nat.reduceSub, Nat.reduceMul, Nat.reduceLeDiff, Nat.reduceEqDiff, Nat.reduceLT, Nat.reduceBEq, reduceIte, reduceCtorEq, Int.reduceToNat, Nat.reduceShiftRight, Nat.reduceAnd, Nat.reduceBneDiff, Nat.reduceBNe, e_api_Ledger, e_api_Disk, e_api_Write]
      simp only [wz, wd, ws, Nat.reduceAdd, Nat.reduceSub, Nat.reduceMul, Nat.reduceLeDiff, Nat.reduceEqDiff, Nat.reduceLT, Nat.reduceBEq, reduceIte, reduceCtorEq, Int.reduceToNat, Nat.reduceShiftRight, Nat.reduceAnd, Nat.reduceBneDiff, Nat.reduceBNe, c10r11, semI.eq_10, semI.eq_11, semI.eq_3, semI.eq_5, semI.eq_7, e_api_Ledger, e_api_Disk, e_api_Write]
      refine .seq ?_
      refine Rw.walk ?_
      obtain ⟨g4, h⟩ := gd_iff.1 h
      simp only [wz, wd, ws, Nat.reduceAdd, Nat.reduceSub, Nat.reduceMul, Nat.reduceLeDiff, Nat.reduceEqDiff, Nat.reduceLT, Nat.reduceBEq, reduceIte, reduceCtorEq, Int.reduceToNat, Nat.reduceShiftRight, Nat.reduceAnd, Nat.reduceBneDiff, Nat.reduceBNe, c10r12, semI.eq_10, semI.eq_11, semI.eq_3, semI.eq_5, semI.eq_7, e_api_Ledger, e_api_Disk, e_api_Write]
      repeat (refine And.intro ?_ ?_; · first | omega | (simp only [List.length_append, List.length_cons, List.length_nil] at *; omega) | (intro q; simp only [wz, wd, ws, Nat.reduceAdd, Nat.reduceSub, Nat.reduceMul, Nat.reduceLeDiff, Nat.reduceEqDiff, Nat.reduceLT, Nat.reduceBEq, reduceIte, reduceCtorEq, Int.reduceToNat, Nat.reduceShiftRight, Nat.reduceAnd, Nat.reduceBneDiff, Nat.reduceBNe, q]; done))
      obtain ⟨t3, e5, h⟩ := Option.bind_eq_some_iff.1 h
      refine call_fun [] true ⟨trivial, trivial, trivial⟩ rfl ?_ (f_ledger_entries_ok _ _ e5) (fun h => by cases h) (fun i hi => by cases hi) ?_
      · simp only [wz, wd, ws, Nat.reduceAdd, Nat.reduceSub, Nat.reduceMul, Nat.reduceLeDiff, Nat.reduceEqDiff, Nat.reduceLT, Nat.reduceBEq, reduceIte, reduceCtorEq, Int.reduceToNat, Nat.reduceShiftRight, Nat.reduceAnd, Nat.reduceBneDiff, Nat.reduceBNe, e_api_Ledger, e_api_Disk, e_api_Write]
      simp only [wz, wd, ws, Nat.reduceAdd, Nat.reduceSub, Nat.reduceMul, Nat.reduceLeDiff, Nat.reduceEqDiff, Nat.reduceLT, Nat.reduceBEq, reduceIte, reduceCtorEq, Int.reduceToNat, Nat.reduceShiftRight, Nat.reduceAnd, Nat.reduceBneDiff, Nat.reduceBNe, c10r12, semI.eq_10, semI.eq_11, semI.eq_3, semI.eq_5, semI.eq_7, e_api_Ledger, e_api_Disk, e_api_Write]
      refine .seq ?_
      refine .seq ?_
      refine Rw.walk ?_
      simp only [wz, wd, ws, Nat.reduceAdd, Nat.reduceSub, Nat.reduceMul, Nat.reduceLeDiff, Nat.reduceEqDiff, Nat.reduceLT, Nat.reduceBEq, reduceIte, reduceCtorEq, Int.reduceToNat, Nat.reduceShiftRight, Nat.reduceAnd, Nat.reduceBneDiff, Nat.reduceBNe, c10r13, semI.eq_10, semI.eq_11, semI.eq_3, semI.eq_5, semI.eq_7, e_api_Ledger, e_api_Disk, e_api_Write]
      repeat (refine And.intro ?_ ?_; · first | omega | (simp only [List.length_append, List.length_cons, List.length_nil] at *; omega) | (intro q; simp only [wz, wd, ws, Nat.reduceAdd, Nat.reduceSub, Nat.reduceMul, Nat.reduceLeDiff, Nat.reduceEqDiff, Nat.reduceLT, Nat.reduceBEq, reduceIte, reduceCtorEq, Int.reduceToNat, Nat.reduceShiftRight, Nat.reduceAnd, Nat.reduceBneDiff, Nat.reduceBNe, q]; done))
      refine .cond (p := ((s.2.2.1 == 0) || (!t3.2))) (by first | rfl | simp only [wz, wd, ws, Nat.reduceAdd, Nat.reduceSub, Nat.reduceMul, Nat.reduceLeDiff, Nat.reduceEqDiff, Nat.reduceLT, Nat.reduceBEq, reduceIte, reduceCtorEq, Int.reduceToNat, Nat.reduceShiftRight, Nat.reduceAnd, Nat.reduceBneDiff, Nat.reduceBNe]) (fun h1 => ?_) (fun h1 => ?_)
      · rw [ite_t h1] at h
        refine .seq ?_
        refine Rw.walk ?_
        simp only [wz, wd, ws, Nat.reduceAdd, Nat.reduceSub, Nat.reduceMul, Nat.reduceLeDiff, Nat.reduceEqDiff, Nat.reduceLT, Nat.reduceBEq, reduceIte, reduceCtorEq, Int.reduceToNat, Nat.reduceShiftRight, Nat.reduceAnd, Nat.reduceBneDiff, Nat.reduceBNe, c10r14, semI.eq_10, semI.eq_11, semI.eq_3, semI.eq_5, semI.eq_7, e_api_Ledger, e_api_Disk, e_api_Write]
        obtain rfl := Option.some.inj h
        refine .ret ?_
        rw [← hR]
        simp only [wz, wd, ws, Nat.reduceAdd, Nat.reduceSub, Nat.reduceMul, Nat.reduceLeDiff, Nat.reduceEqDiff, Nat.reduceLT, Nat.reduceBEq, reduceIte, reduceCtorEq, Int.reduceToNat, Nat.reduceShiftRight, Nat.reduceAnd, Nat.reduceBneDiff, Nat.reduceBNe, rv10, semI.eq_10, e_api_Ledger, e_api_Disk, e_api_Write]
      · rw [ite_f h1] at h
        refine .skip ?_
        refine .seq ?_
        refine Rw.walk ?_
        simp only [wz, wd, ws, Nat.reduceAdd, Nat.reduceSub, Nat.reduceMul, Nat.reduceLeDiff, Nat.reduceEqDiff, Nat.reduceLT, Nat.reduceBEq, reduceIte, reduceCtorEq, Int.reduceToNat, Nat.reduceShiftRight, Nat.reduceAnd, Nat.reduceBneDiff, Nat.reduceBNe, c10r15, semI.eq_10, semI.eq_11, semI.eq_3, semI.eq_5, semI.eq_7, e_api_Ledger, e_api_Disk, e_api_Write]
        refine .seq ?_
        refine Rw.walk ?_
        simp only [wz, wd, ws, Nat.reduceAdd, Nat.reduceSub, Nat.reduceMul, Nat.reduceLeDiff, Nat.reduceEqDiff, Nat.reduceLT, Nat.reduceBEq, reduceIte, reduceCtorEq, Int.reduceToNat, Nat.reduceShiftRight, Nat.reduceAnd, Nat.reduceBneDiff, Nat.reduceBNe, c10r16, semI.eq_10, semI.eq_11, semI.eq_3, semI.eq_5, semI.eq_7, e_api_Ledger, e_api_Disk, e_api_Write]
        obtain rfl := Option.some.inj h
        refine .ret ?_
        rw [← hR]
        simp only [wz, wd, ws, Nat.reduceAdd, Nat.reduceSub, Nat.reduceMul, Nat.reduceLeDiff, Nat.reduceEqDiff, Nat.reduceLT, Nat.reduceBEq, reduceIte, reduceCtorEq, Int.reduceToNat, Nat.reduceShiftRight, Nat.reduceAnd, Nat.reduceBneDiff, Nat.reduceBNe, rv10, semI.eq_10, e_api_Ledger, e_api_Disk, e_api_Write]
-- 54 consignor/consignorref09.Well
def c54r0 : List Opn := [
  ⟨(some 4), none, .mv (.c (.s (.d (.bool false))))⟩]
def c54r1 : List Opn := [
  ⟨(some 7), none, .mv (.t 0)⟩, 
  ⟨(some 8), none, .len (.sl 0) (.t 7)⟩, 
  ⟨(some 9), none, .mv (.c (.s (.d (.int .i64 0))))⟩]
def c54r2 : List Opn := [
  ⟨(some 10), none, .bin .lss (.t 9) (.t 8)⟩]
def c54r3 : List Opn := [
  ⟨(some 11), none, .iadr (.sl 2) (.t 7) (.t 9)⟩, 
  ⟨(some 12), none, .load true 2 (.t 11)⟩, 
  ⟨(some 6), none, .new [(.d (.int .i64 0)), (.d (.str []))]⟩, 
  ⟨none, none, .store 2 (.t 6) (.t 12)⟩]
def c54r4 : List Opn := [
  ⟨(some 13), none, .fadr 0 (.t 6)⟩, 
  ⟨(some 14), none, .load false 1 (.t 13)⟩, 
  ⟨(some 15), none, .bin .lss (.t 14) (.c (.s (.d (.int .i64 0))))⟩, 
  ⟨(some 16), none, .mv (.t 15)⟩, 
  ⟨(some 17), some (16, false), .fadr 0 (.t 6)⟩, 
  ⟨(some 18), some (16, false), .load false 1 (.t 17)⟩, 
  ⟨(some 19), some (16, false), .mv (.t 1)⟩, 
  ⟨(some 20), some (16, false), .bin .geq (.t 18) (.t 19)⟩, 
  ⟨(some 21), none, .pick (.t 16) (.c (.s (.d (.bool true)))) (.t 20)⟩, 
  ⟨(some 22), none, .mv (.t 21)⟩, 
  ⟨(some 23), some (22, false), .fadr 1 (.t 6)⟩, 
  ⟨(some 24), some (22, false), .load false 1 (.t 23)⟩, 
  ⟨(some 25), some (22, false), .len .str (.t 24)⟩, 
  ⟨(some 26), some (22, false), .bin .neq (.t 25) (.c (.s (.d (.int .i64 128))))⟩, 
  ⟨(some 27), none, .pick (.t 22) (.c (.s (.d (.bool true)))) (.t 26)⟩]
def c54r5 : List Opn := [
  ⟨(some 4), none, .mv (.c (.s (.d (.bool false))))⟩]
def c54r6 : List Opn := [
  ⟨(some 28), none, .bin .add (.t 9) (.c (.s (.d (.int .i64 1))))⟩, 
  ⟨(some 9), none, .mv (.t 28)⟩]
def c54l7 : C := .seq (.reg c54r2 none [1, 7, 8, 9, 10]) (.seq (.cond (.t 10) (.skip) (.exit 0)) (.seq (.blk 1 (.seq (.reg c54r3 none [1, 6, 7, 8, 9]) (.seq (.reg c54r4 none [1, 7, 8, 9, 27]) (.cond (.t 27) (.seq (.reg c54r5 none [4]) (.ret)) (.skip))))) (.reg c54r6 none [1, 7, 8, 9])))
def c54r7 : List Opn := [
  ⟨(some 4), none, .mv (.c (.s (.d (.bool true))))⟩]
def c54 : C := .seq (.reg c54r0 none [0, 1]) (.seq (.seq (.reg c54r1 none [1, 7, 8, 9]) (.blk 0 (.loop c54l7))) (.seq (.reg c54r7 none [4]) (.ret)))
def k54 : List (Nat × List Nat) := [(7, [4]), (6, [1, 7, 8, 9]), (5, [4]), (4, [1, 7, 8, 9, 27]), (3, [1, 6, 7, 8, 9]), (2, [1, 7, 8, 9, 10]), (1, [1, 7, 8, 9]), (0, [0, 1])]
theorem cc54 : (Try.f54.body).bind (cC Try.prog 29 k54) = some c54 := by kernel_rfl
def rv54 : List RV := [.t 4]
theorem cr54 : cRVs Try.prog Try.f54.results.toList = some rv54 := by kernel_rfl
theorem f_ref09_Well_l7_ok (l : (List api_Write)) (sectors : Int) (y_ : Bool) (R_ : St → Prop) (hR : (Ret Try.prog glP [] rv54 (.b (.s (.d (.bool y_))))) = R_) : ∀ (m_ : Nat) (v9 : Int) (res_ : (Int) ⊕ (Bool)) (h : f_ref09_Well_l7 l sectors m_ v9 = some res_) (k_ : List It) (hx : ∀ s_ : Int, res_ = .inl s_ → W Try.prog glP 29 k_ ⟨lkT [(1, .b (.s (.d (.int .i64 sectors)))), (7, .b (.s (.d (.sl (l.map e_api_Write))))), (8, .b (.s (.d (.int .i64 (l.length : Int))))), (9, .b (.s (.d (.int .i64 s_))))], lkG []⟩ R_) (hr : ∀ z_ : Bool, res_ = .inr z_ → z_ = y_), W Try.prog glP 29 (.c c54l7 :: .lp c54l7 :: .blk 0 :: k_) ⟨lkT [(1, .b (.s (.d (.int .i64 sectors)))), (7, .b (.s (.d (.sl (l.map e_api_Write))))), (8, .b (.s (.d (.int .i64 (l.length : Int))))), (9, .b (.s (.d (.int .i64 v9))))], lkG []⟩ R_ := by
  intro m_; induction m_ with
  | zero => intro v9 res_ h; rw [f_ref09_Well_l7.eq_1] at h; cases h
  | succ m_ ih =>
    intro v9 res_ h k_ hx hr; rw [f_ref09_Well_l7.eq_2] at h; refine W.cdef c54l7.eq_1 ?_
    refine .seq ?_
    refine Rw.walk ?_
    simp only [wz, wd, ws, Nat.reduceAdd, Nat.reduceSub, Nat.reduceMul, Nat.reduceLeDiff, Nat.reduceEqDiff, Nat.reduceLT, Nat.reduceBEq, reduceIte, reduceCtorEq, Int.reduceToNat, Nat.reduceShiftRight, Nat.reduceAnd, Nat.reduceBneDiff, Nat.reduceBNe, c54r2, semI.eq_10, semI.eq_11, semI.eq_3, semI.eq_5, semI.eq_7, e_api_Write]
    refine .seq ?_
    refine .cond (p := (decide (v9 < (l.length : Int)))) (by first | rfl | simp only [wz, wd, ws, Nat.reduceAdd, Nat.reduceSub, Nat.reduceMul, Nat.reduceLeDiff, Nat.reduceEqDiff, Nat.reduceLT, Nat.reduceBEq, reduceIte, reduceCtorEq, Int.reduceToNat, Nat.reduceShiftRight, Nat.reduceAnd, Nat.reduceBneDiff, Nat.reduceBNe]) (fun h1 => ?_) (fun h1 => ?_)
    · rw [ite_t h1] at h
      refine .skip ?_
      refine .seq ?_
      refine .blk ?_
      refine .seq ?_
      refine Rw.walk ?_
      simp only [wz, wd, ws, Nat.reduceAdd, Nat.reduceSub, Nat.reduceMul, Nat.reduceLeDiff, Nat.reduceEqDiff, Nat.reduceLT, Nat.reduceBEq, reduceIte, reduceCtorEq, Int.reduceToNat, Nat.reduceShiftRight, Nat.reduceAnd, Nat.reduceBneDiff, Nat.reduceBNe, c54r3, semI.eq_3, semI.eq_5, semI.eq_7, e_api_Write]
      obtain ⟨x, e1, h⟩ := Option.bind_eq_some_iff.1 h
      refine Go1.of (sem_iadr e_api_Write_len e1 (by rfl) (by rfl)) ?_
      simp only [wz, wd, ws, Nat.reduceAdd, Nat.reduceSub, Nat.reduceMul, Nat.reduceLeDiff, Nat.reduceEqDiff, Nat.reduceLT, Nat.reduceBEq, reduceIte, reduceCtorEq, Int.reduceToNat, Nat.reduceShiftRight, Nat.reduceAnd, Nat.reduceBneDiff, Nat.reduceBNe, c54r3, semI.eq_3, semI.eq_5, semI.eq_7, e_api_Write]
      refine Go1.of (semI.eq_10 ..) ?_
      simp only [wz, wd, ws, Nat.reduceAdd, Nat.reduceSub, Nat.reduceMul, Nat.reduceLeDiff, Nat.reduceEqDiff, Nat.reduceLT, Nat.reduceBEq, reduceIte, reduceCtorEq, Int.reduceToNat, Nat.reduceShiftRight, Nat.reduceAnd, Nat.reduceBneDiff, Nat.reduceBNe, c54r3, semI.eq_3, semI.eq_5, semI.eq_7, e_api_Write]
      refine Go1.of (semI.eq_11 ..) ?_
      simp only [wz, wd, ws, Nat.reduceAdd, Nat.reduceSub, Nat.reduceMul, Nat.reduceLeDiff, Nat.reduceEqDiff, Nat.reduceLT, Nat.reduceBEq, reduceIte, reduceCtorEq, Int.reduceToNat, Nat.reduceShiftRight, Nat.reduceAnd, Nat.reduceBneDiff, Nat.reduceBNe, c54r3, semI.eq_3, semI.eq_5, semI.eq_7, e_api_Write]
      refine .seq ?_
      refine Rw.walk ?_
      simp only [wz, wd, ws, Nat.reduceAdd, Nat.reduceSub, Nat.reduceMul, Nat.reduceLeDiff, Nat.reduceEqDiff, Nat.reduceLT, Nat.reduceBEq, reduceIte, reduceCtorEq, Int.reduceToNat, Nat.reduceShiftRight, Nat.reduceAnd, Nat.reduceBneDiff, Nat.reduceBNe, c54r4, semI.eq_10, semI.eq_11, semI.eq_3, semI.eq_5, semI.eq_7, e_api_Write]
      refine call_alt (v := .b (.s (.d (.int .i64 x.At)))) rfl rfl (by simp only [wz, wd, ws, Nat.reduceAdd, Nat.reduceSub, Nat.reduceMul, Nat.reduceLeDiff, Nat.reduceEqDiff, Nat.reduceLT, Nat.reduceBEq, reduceIte, reduceCtorEq, Int.reduceToNat, Nat.reduceShiftRight, Nat.reduceAnd, Nat.reduceBneDiff, Nat.reduceBNe]) (fun q => ⟨_, by simp only [wz, wd, ws, Nat.reduceAdd, Nat.reduceSub, Nat.reduceMul, Nat.reduceLeDiff, Nat.reduceEqDiff, Nat.reduceLT, Nat.reduceBEq, reduceIte, reduceCtorEq, Int.reduceToNat, Nat.reduceShiftRight, Nat.reduceAnd, Nat.reduceBneDiff, Nat.reduceBNe, semI.eq_10, e_api_Write], trivial⟩) ?_
      simp only [wz, wd, ws, Nat.reduceAdd, Nat.reduceSub, Nat.reduceMul, Nat.reduceLeDiff, Nat.reduceEqDiff, Nat.reduceLT, Nat.reduceBEq, reduceIte, reduceCtorEq, Int.reduceToNat, Nat.reduceShiftRight, Nat.reduceAnd, Nat.reduceBneDiff, Nat.reduceBNe, c54r4, semI.eq_10, semI.eq_11, semI.eq_3, semI.eq_5, semI.eq_7, e_api_Write]
      repeat (refine And.intro ?_ ?_; · first | omega | (simp only [List.length_append, List.length_cons, List.length_nil] at *; omega) | (intro q; simp only [wz, wd, ws, Nat.reduceAdd, Nat.reduceSub, Nat.reduceMul, Nat.reduceLeDiff, Nat.reduceEqDiff, Nat.reduceLT, Nat.reduceBEq, reduceIte, reduceCtorEq, Int.reduceToNat, Nat.reduceShiftRight, Nat.reduceAnd, Nat.reduceBneDiff, Nat.reduceBNe, q]; done))
      refine call_alt (v := .b (.s (.d (.str x.Data)))) rfl rfl (by simp only [wz, wd, ws, Nat.reduceAdd, Nat.reduceSub, Nat.reduceMul, Nat.reduceLeDiff, Nat.reduceEqDiff, Nat.reduceLT, Nat.reduceBEq, reduceIte, reduceCtorEq, Int.reduceToNat, Nat.reduceShiftRight, Nat.reduceAnd, Nat.reduceBneDiff, Nat.reduceBNe]) (fun q => ⟨_, by simp only [wz, wd, ws, Nat.reduceAdd, Nat.reduceSub, Nat.reduceMul, Nat.reduceLeDiff, Nat.reduceEqDiff, Nat.reduceLT, Nat.reduceBEq, reduceIte, reduceCtorEq, Int.reduceToNat, Nat.reduceShiftRight, Nat.reduceAnd, Nat.reduceBneDiff, Nat.reduceBNe, semI.eq_10, e_api_Write], trivial⟩) ?_
      simp only [wz, wd, ws, Nat.reduceAdd, Nat.reduceSub, Nat.reduceMul, Nat.reduceLeDiff, Nat.reduceEqDiff, Nat.reduceLT, Nat.reduceBEq, reduceIte, reduceCtorEq, Int.reduceToNat, Nat.reduceShiftRight, Nat.reduceAnd, Nat.reduceBneDiff, Nat.reduceBNe, c54r4, semI.eq_10, semI.eq_11, semI.eq_3, semI.eq_5, semI.eq_7, e_api_Write]
      repeat (refine And.intro ?_ ?_; · first | omega | (simp only [List.length_append, List.length_cons, List.length_nil] at *; omega) | (intro q; simp only [wz, wd, ws, Nat.reduceAdd, Nat.reduceSub, Nat.reduceMul, Nat.reduceLeDiff, Nat.reduceEqDiff, Nat.reduceLT, Nat.reduceBEq, reduceIte, reduceCtorEq, Int.reduceToNat, Nat.reduceShiftRight, Nat.reduceAnd, Nat.reduceBneDiff, Nat.reduceBNe, q]; done))
      refine .cond (p := (((decide (x.At < 0)) || (decide (x.At ≥ sectors))) || ((x.Data.length : Int) != 128))) (by first | rfl | simp only [wz, wd, ws, Nat.reduceAdd, Nat.reduceSub, Nat.reduceMul, Nat.reduceLeDiff, Nat.reduceEqDiff, Nat.reduceLT, Nat.reduceBEq, reduceIte, reduceCtorEq, Int.reduceToNat, Nat.reduceShiftRight, Nat.reduceAnd, Nat.reduceBneDiff, Nat.reduceBNe]) (fun h1 => ?_) (fun h1 => ?_)
      · rw [ite_t h1] at h
        refine .seq ?_
        refine Rw.walk ?_
        simp only [wz, wd, ws, Nat.reduceAdd, Nat.reduceSub, Nat.reduceMul, Nat.reduceLeDiff, Nat.reduceEqDiff, Nat.reduceLT, Nat.reduceBEq, reduceIte, reduceCtorEq, Int.reduceToNat, Nat.reduceShiftRight, Nat.reduceAnd, Nat.reduceBneDiff, Nat.reduceBNe, c54r5, semI.eq_10, semI.eq_11, semI.eq_3, semI.eq_5, semI.eq_7, e_api_Write]
        obtain rfl := Option.some.inj h; obtain rfl := hr _ rfl
        refine .ret ?_
        rw [← hR]
        simp only [wz, wd, ws, Nat.reduceAdd, Nat.reduceSub, Nat.reduceMul, Nat.reduceLeDiff, Nat.reduceEqDiff, Nat.reduceLT, Nat.reduceBEq, reduceIte, reduceCtorEq, Int.reduceToNat, Nat.reduceShiftRight, Nat.reduceAnd, Nat.reduceBneDiff, Nat.reduceBNe, rv54, e_api_Write]
      · rw [ite_f h1] at h
        refine .skip ?_
        refine .eblk ?_
        refine Rw.walk ?_
        simp only [wz, wd, ws, Nat.reduceAdd, Nat.reduceSub, Nat.reduceMul, Nat.reduceLeDiff, Nat.reduceEqDiff, Nat.reduceLT, Nat.reduceBEq, reduceIte, reduceCtorEq, Int.reduceToNat, Nat.reduceShiftRight, Nat.reduceAnd, Nat.reduceBneDiff, Nat.reduceBNe, c54r6, semI.eq_10, semI.eq_11, semI.eq_3, semI.eq_5, semI.eq_7, e_api_Write]
        refine .lp ?_
        refine .weak (Imp.co [] _ _ ?_ ?_ ?_ ?_ ?_) (ih (IntKind.i64.wrap (v9 + 1)) _ h k_ hx hr) <;> simp only [wz, wd, ws, Nat.reduceAdd, Nat.reduceSub, Nat.reduceMul, Nat.reduceLeDiff, Nat.reduceEqDiff, Nat.reduceLT, Nat.reduceBEq, reduceIte, reduceCtorEq, Int.reduceToNat, Nat.reduceShiftRight, Nat.reduceAnd, Nat.reduceBneDiff, Nat.reduceBNe, wi, er_nil, e_api_Write]
    · rw [ite_f h1] at h
      refine .exit rfl ?_
      obtain rfl := Option.some.inj h
      refine .weak (Imp.co [] _ _ ?_ ?_ ?_ ?_ ?_) (hx _ rfl) <;> simp only [wz, wd, ws, Nat.reduceAdd, Nat.reduceSub, Nat.reduceMul, Nat.reduceLeDiff, Nat.reduceEqDiff, Nat.reduceLT, Nat.reduceBEq, reduceIte, reduceCtorEq, Int.reduceToNat, Nat.reduceShiftRight, Nat.reduceAnd, Nat.reduceBneDiff, Nat.reduceBNe, wi, er_nil, e_api_Write]
theorem f_ref09_Well_ok (l : (List api_Write)) (sectors : Int) (y_ : Bool) (h : f_ref09_Well l sectors = some y_) : Fun Try.prog glP 54 [.b (.s (.d (.sl (l.map e_api_Write)))), .b (.s (.d (.int .i64 sectors)))] (.b (.s (.d (.bool y_)))) := by
  refine fun_walk [] Try.func54 Try.ntmps54 cc54 cr54 (by kernel_rfl) (by simp only [List.length_cons, List.length_nil]; decide) ?_
  generalize hR : Ret _ _ _ _ _ = R_
  simp only [wz, wd, ws, Nat.reduceAdd, Nat.reduceSub, Nat.reduceMul, Nat.reduceLeDiff, Nat.reduceEqDiff, Nat.reduceLT, Nat.reduceBEq, reduceIte, reduceCtorEq, Int.reduceToNat, Nat.reduceShiftRight, Nat.reduceAnd, Nat.reduceBneDiff, Nat.reduceBNe, e_api_Write]
  unfold f_ref09_Well at h; unfold c54
  refine .seq ?_
  refine Rw.walk ?_
  simp only [wz, wd, ws, Nat.reduceAdd, Nat.reduceSub, Nat.reduceMul, Nat.reduceLeDiff, Nat.reduceEqDiff, Nat.reduceLT, Nat.reduceBEq, reduceIte, reduceCtorEq, Int.reduceToNat, Nat.reduceShiftRight, Nat.reduceAnd, Nat.reduceBneDiff, Nat.reduceBNe, c54r0, semI.eq_10, semI.eq_11, semI.eq_3, semI.eq_5, semI.eq_7, e_api_Write]
  refine .seq ?_
  refine .seq ?_
  refine Rw.walk ?_
  simp only [wz, wd, ws, Nat.reduceAdd, Nat.reduceSub, Nat.reduceMul, Nat.reduceLeDiff, Nat.reduceEqDiff, Nat.reduceLT, Nat.reduceBEq, reduceIte, reduceCtorEq, Int.reduceToNat, Nat.reduceShiftRight, Nat.reduceAnd, Nat.reduceBneDiff, Nat.reduceBNe, c54r1, semI.eq_10, semI.eq_11, semI.eq_3, semI.eq_5, semI.eq_7, e_api_Write]
  refine .blk ?_
  obtain ⟨s, hf, h⟩ := Option.bind_eq_some_iff.1 h
  refine .loop (.weak (Imp.co [] _ _ ?c1 ?c2 ?c3 ?c4 ?c5) (f_ref09_Well_l7_ok l sectors _ _ hR _ _ _ hf _ ?_ ?_))
  case c1 | c2 | c3 | c4 | c5 => simp only [wz, wd, ws, Nat.reduceAdd, Nat.reduceSub, Nat.reduceMul, Nat.reduceLeDiff, Nat.reduceEqDiff, Nat.reduceLT, Nat.reduceBEq, reduceIte, reduceCtorEq, Int.reduceToNat, Nat.reduceShiftRight, Nat.reduceAnd, Nat.reduceBneDiff, Nat.reduceBNe, wi, er_nil, e_api_Write]
  · intro s2 hs; subst hs; dsimp only at h
    refine .seq ?_
    refine Rw.walk ?_
    simp only [wz, wd, ws, Nat.reduceAdd, Nat.reduceSub, Nat.reduceMul, Nat.reduceLeDiff, Nat.reduceEqDiff, Nat.reduceLT, Nat.reduceBEq, reduceIte, reduceCtorEq, Int.reduceToNat, Nat.reduceShiftRight, Nat.reduceAnd, Nat.reduceBneDiff, Nat.reduceBNe, c54r7, semI.eq_10, semI.eq_11, semI.eq_3, semI.eq_5, semI.eq_7, e_api_Write]
    obtain rfl := Option.some.inj h
    refine .ret ?_
    rw [← hR]
    simp only [wz, wd, ws, Nat.reduceAdd, Nat.reduceSub, Nat.reduceMul, Nat.reduceLeDiff, Nat.reduceEqDiff, Nat.reduceLT, Nat.reduceBEq, reduceIte, reduceCtorEq, Int.reduceToNat, Nat.reduceShiftRight, Nat.reduceAnd, Nat.reduceBneDiff, Nat.reduceBNe, rv54, e_api_Write]
  · intro z hz; subst hz; dsimp only at h
    exact Option.some.inj h
-- 35 consignor/consignorref09.Right
def c35r0 : List Opn := [
  ⟨(some 1), none, .box 2 (.t 0)⟩, 
  ⟨(some 2), none, .mv (.c (.s (.d (.bool false))))⟩]
def c35r1 : List Opn := [
  ⟨(some 5), none, .fadr 0 (.t 1)⟩, 
  ⟨(some 6), none, .load false 1 (.t 5)⟩, 
  ⟨(some 7), none, .len (.sl 0) (.t 6)⟩, 
  ⟨(some 8), none, .mv (.c (.s (.d (.int .i64 0))))⟩]
def c35r2 : List Opn := [
  ⟨(some 9), none, .bin .lss (.t 8) (.t 7)⟩]
def c35r3 : List Opn := [
  ⟨(some 10), none, .iadr (.sl 1) (.t 6) (.t 8)⟩, 
  ⟨(some 11), none, .load false 1 (.t 10)⟩, 
  ⟨(some 4), none, .mv (.t 11)⟩]
def c35r4 : List Opn := [
  ⟨(some 12), none, .mv (.t 4)⟩, 
  ⟨(some 13), none, .len .str (.t 12)⟩, 
  ⟨(some 14), none, .bin .neq (.t 13) (.c (.s (.d (.int .i64 128))))⟩]
def c35r5 : List Opn := [
  ⟨(some 2), none, .mv (.c (.s (.d (.bool false))))⟩]
def c35r6 : List Opn := [
  ⟨(some 15), none, .bin .add (.t 8) (.c (.s (.d (.int .i64 1))))⟩, 
  ⟨(some 8), none, .mv (.t 15)⟩]
def c35l7 : C := .seq (.reg c35r2 none [1, 6, 7, 8, 9]) (.seq (.cond (.t 9) (.skip) (.exit 0)) (.seq (.blk 1 (.seq (.reg c35r3 none [1, 4, 6, 7, 8]) (.seq (.reg c35r4 none [1, 6, 7, 8, 14]) (.cond (.t 14) (.seq (.reg c35r5 none [2]) (.ret)) (.skip))))) (.reg c35r6 none [1, 6, 7, 8])))
def c35r7 : List Opn := [
  ⟨(some 16), none, .fadr 0 (.t 1)⟩, 
  ⟨(some 17), none, .load false 1 (.t 16)⟩, 
  ⟨(some 18), none, .len (.sl 0) (.t 17)⟩, 
  ⟨(some 19), none, .bin .geq (.t 18) (.c (.s (.d (.int .i64 4))))⟩, 
  ⟨(some 20), none, .mv (.t 19)⟩, 
  ⟨(some 21), some (20, true), .fadr 0 (.t 1)⟩, 
  ⟨(some 22), some (20, true), .load false 1 (.t 21)⟩, 
  ⟨(some 23), some (20, true), .len (.sl 0) (.t 22)⟩, 
  ⟨(some 24), some (20, true), .bin .leq (.t 23) (.c (.s (.d (.int .i64 64))))⟩, 
  ⟨(some 25), none, .pick (.t 20) (.t 24) (.c (.s (.d (.bool false))))⟩, 
  ⟨(some 26), none, .mv (.t 25)⟩, 
  ⟨(some 27), some (26, true), .fadr 1 (.t 1)⟩, 
  ⟨(some 28), some (26, true), .load false 1 (.t 27)⟩, 
  ⟨(some 29), some (26, true), .len (.sl 0) (.t 28)⟩, 
  ⟨(some 30), some (26, true), .bin .leq (.t 29) (.c (.s (.d (.int .i64 200))))⟩, 
  ⟨(some 31), none, .pick (.t 26) (.t 30) (.c (.s (.d (.bool false))))⟩, 
  ⟨(some 32), none, .mv (.t 31)⟩, 
  ⟨(some 33), some (32, true), .fadr 1 (.t 1)⟩, 
  ⟨(some 34), some (32, true), .load false 1 (.t 33)⟩, 
  ⟨(some 35), some (32, true), .fadr 0 (.t 1)⟩, 
  ⟨(some 36), some (32, true), .load false 1 (.t 35)⟩, 
  ⟨(some 37), some (32, true), .len (.sl 0) (.t 36)⟩, 
  ⟨(some 38), some (32, true), .call (.fn 54) [(.t 34), (.t 37)]⟩, 
  ⟨(some 39), none, .pick (.t 32) (.t 38) (.c (.s (.d (.bool false))))⟩, 
  ⟨(some 2), none, .mv (.t 39)⟩]
def c35 : C := .seq (.reg c35r0 none [1]) (.seq (.seq (.reg c35r1 none [1, 6, 7, 8]) (.blk 0 (.loop c35l7))) (.seq (.reg c35r7 none [2]) (.ret)))
def k35 : List (Nat × List Nat) := [(7, [2]), (6, [1, 6, 7, 8]), (5, [2]), (4, [1, 6, 7, 8, 14]), (3, [1, 4, 6, 7, 8]), (2, [1, 6, 7, 8, 9]), (1, [1, 6, 7, 8]), (0, [1])]
theorem cc35 : (Try.f35.body).bind (cC Try.prog 40 k35) = some c35 := by kernel_rfl
def rv35 : List RV := [.t 2]
theorem cr35 : cRVs Try.prog Try.f35.results.toList = some rv35 := by kernel_rfl
theorem f_ref09_Right_l7_ok (d : api_Disk) (y_ : Bool) (R_ : St → Prop) (hR : (Ret Try.prog glP [] rv35 (.b (.s (.d (.bool y_))))) = R_) : ∀ (m_ : Nat) (v8 : Int) (res_ : (Int) ⊕ (Bool)) (h : f_ref09_Right_l7 d m_ v8 = some res_) (k_ : List It) (hx : ∀ s_ : Int, res_ = .inl s_ → W Try.prog glP 40 k_ ⟨lkT [(1, .b (.s (.ptr 1 1 0 0))), (6, .b (.s (.d (.sl (d.Sectors.map eS))))), (7, .b (.s (.d (.int .i64 (d.Sectors.length : Int))))), (8, .b (.s (.d (.int .i64 s_))))], lkG [(1, ⟨2, [[(.d (.sl (d.Sectors.map eS))), (.d (.sl (d.Dirty.map e_api_Write)))]], false⟩)]⟩ R_) (hr : ∀ z_ : Bool, res_ = .inr z_ → z_ = y_), W Try.prog glP 40 (.c c35l7 :: .lp c35l7 :: .blk 0 :: k_) ⟨lkT [(1, .b (.s (.ptr 1 1 0 0))), (6, .b (.s (.d (.sl (d.Sectors.map eS))))), (7, .b (.s (.d (.int .i64 (d.Sectors.length : Int))))), (8, .b (.s (.d (.int .i64 v8))))], lkG [(1, ⟨2, [[(.d (.sl (d.Sectors.map eS))), (.d (.sl (d.Dirty.map e_api_Write)))]], false⟩)]⟩ R_ := by
  intro m_; induction m_ with
  | zero => intro v8 res_ h; rw [f_ref09_Right_l7.eq_1] at h; cases h
  | succ m_ ih =>
    intro v8 res_ h k_ hx hr; rw [f_ref09_Right_l7.eq_2] at h; refine W.cdef c35l7.eq_1 ?_
    refine .seq ?_
    refine Rw.walk ?_
    simp only [wz, wd, ws, Nat.reduceAdd, Nat.reduceSub, Nat.reduceMul, Nat.reduceLeDiff, Nat.reduceEqDiff, Nat.reduceLT, Nat.reduceBEq, reduceIte, reduceCtorEq, Int.reduceToNat, Nat.reduceShiftRight, Nat.reduceAnd, Nat.reduceBneDiff, Nat.reduceBNe, c35r2, semI.eq_10, semI.eq_11, semI.eq_3, semI.eq_5, semI.eq_7, e_api_Disk, e_api_Write]
    refine .seq ?_
    refine .cond (p := (decide (v8 < (d.Sectors.length : Int)))) (by first | rfl | simp only [wz, wd, ws, Nat.reduceAdd, Nat.reduceSub, Nat.reduceMul, Nat.reduceLeDiff, Nat.reduceEqDiff, Nat.reduceLT, Nat.reduceBEq, reduceIte, reduceCtorEq, Int.reduceToNat, Nat.reduceShiftRight, Nat.reduceAnd, Nat.reduceBneDiff, Nat.reduceBNe]) (fun h1 => ?_) (fun h1 => ?_)
    · rw [ite_t h1] at h
      refine .skip ?_
      refine .seq ?_
      refine .blk ?_
      refine .seq ?_
      refine Rw.walk ?_
      simp only [wz, wd, ws, Nat.reduceAdd, Nat.reduceSub, Nat.reduceMul, Nat.reduceLeDiff, Nat.reduceEqDiff, Nat.reduceLT, Nat.reduceBEq, reduceIte, reduceCtorEq, Int.reduceToNat, Nat.reduceShiftRight, Nat.reduceAnd, Nat.reduceBneDiff, Nat.reduceBNe, c35r3, semI.eq_10, semI.eq_11, semI.eq_3, semI.eq_5, semI.eq_7, e_api_Disk, e_api_Write]
      obtain ⟨x, e1, h⟩ := Option.bind_eq_some_iff.1 h
      refine Go1.of (sem_iadr eS_len e1 (by rfl) (by rfl)) ?_
      simp only [wz, wd, ws, Nat.reduceAdd, Nat.reduceSub, Nat.reduceMul, Nat.reduceLeDiff, Nat.reduceEqDiff, Nat.reduceLT, Nat.reduceBEq, reduceIte, reduceCtorEq, Int.reduceToNat, Nat.reduceShiftRight, Nat.reduceAnd, Nat.reduceBneDiff, Nat.reduceBNe, c35r3, semI.eq_10, semI.eq_11, semI.eq_3, semI.eq_5, semI.eq_7, e_api_Disk, e_api_Write]
      refine .seq ?_
      refine Rw.walk ?_
      simp only [wz, wd, ws, Nat.reduceAdd, Nat.reduceSub, Nat.reduceMul, Nat.reduceLeDiff, Nat.reduceEqDiff, Nat.reduceLT, Nat.reduceBEq, reduceIte, reduceCtorEq, Int.reduceToNat, Nat.reduceShiftRight, Nat.reduceAnd, Nat.reduceBneDiff, Nat.reduceBNe, c35r4, semI.eq_10, semI.eq_11, semI.eq_3, semI.eq_5, semI.eq_7, e_api_Disk, e_api_Write]
      refine .cond (p := ((x.length : Int) != 128)) (by first | rfl | simp only [wz, wd, ws, Nat.reduceAdd, Nat.reduceSub, Nat.reduceMul, Nat.reduceLeDiff, Nat.reduceEqDiff, Nat.reduceLT, Nat.reduceBEq, reduceIte, reduceCtorEq, Int.reduceToNat, Nat.reduceShiftRight, Nat.reduceAnd, Nat.reduceBneDiff, Nat.reduceBNe]) (fun h1 => ?_) (fun h1 => ?_)
      · rw [ite_t h1] at h
        refine .seq ?_
        refine Rw.walk ?_
        simp only [wz, wd, ws, Nat.reduceAdd, Nat.reduceSub, Nat.reduceMul, Nat.reduceLeDiff, Nat.reduceEqDiff, Nat.reduceLT, Nat.reduceBEq, reduceIte, reduceCtorEq, Int.reduceToNat, Nat.reduceShiftRight, Nat.reduceAnd, Nat.reduceBneDiff, Nat.reduceBNe, c35r5, semI.eq_10, semI.eq_11, semI.eq_3, semI.eq_5, semI.eq_7, e_api_Disk, e_api_Write]
        obtain rfl := Option.some.inj h; obtain rfl := hr _ rfl
        refine .ret ?_
        rw [← hR]
        simp only [wz, wd, ws, Nat.reduceAdd, Nat.reduceSub, Nat.reduceMul, Nat.reduceLeDiff, Nat.reduceEqDiff, Nat.reduceLT, Nat.reduceBEq, reduceIte, reduceCtorEq, Int.reduceToNat, Nat.reduceShiftRight, Nat.reduceAnd, Nat.reduceBneDiff, Nat.reduceBNe, rv35, e_api_Disk, e_api_Write]
      · rw [ite_f h1] at h
        refine .skip ?_
        refine .eblk ?_
        refine Rw.walk ?_
        simp only [wz, wd, ws, Nat.reduceAdd, Nat.reduceSub, Nat.reduceMul, Nat.reduceLeDiff, Nat.reduceEqDiff, Nat.reduceLT, Nat.reduceBEq, reduceIte, reduceCtorEq, Int.reduceToNat, Nat.reduceShiftRight, Nat.reduceAnd, Nat.reduceBneDiff, Nat.reduceBNe, c35r6, semI.eq_10, semI.eq_11, semI.eq_3, semI.eq_5, semI.eq_7, e_api_Disk, e_api_Write]
        refine .lp ?_
        refine .weak (Imp.co [] _ _ ?_ ?_ ?_ ?_ ?_) (ih (IntKind.i64.wrap (v8 + 1)) _ h k_ hx hr) <;> simp only [wz, wd, ws, Nat.reduceAdd, Nat.reduceSub, Nat.reduceMul, Nat.reduceLeDiff, Nat.reduceEqDiff, Nat.reduceLT, Nat.reduceBEq, reduceIte, reduceCtorEq, Int.reduceToNat, Nat.reduceShiftRight, Nat.reduceAnd, Nat.reduceBneDiff, Nat.reduceBNe, wi, er_nil, e_api_Disk, e_api_Write]
    · rw [ite_f h1] at h
      refine .exit rfl ?_
      obtain rfl := Option.some.inj h
      refine .weak (Imp.co [] _ _ ?_ ?_ ?_ ?_ ?_) (hx _ rfl) <;> simp only [wz, wd, ws, Nat.reduceAdd, Nat.reduceSub, Nat.reduceMul, Nat.reduceLeDiff, Nat.reduceEqDiff, Nat.reduceLT, Nat.reduceBEq, reduceIte, reduceCtorEq, Int.reduceToNat, Nat.reduceShiftRight, Nat.reduceAnd, Nat.reduceBneDiff, Nat.reduceBNe, wi, er_nil, e_api_Disk, e_api_Write]
theorem f_ref09_Right_ok (d : api_Disk) (y_ : Bool) (h : f_ref09_Right d = some y_) : Fun Try.prog glP 35 [.b (.agg ((e_api_Disk d).map Lc.d))] (.b (.s (.d (.bool y_)))) := by
  refine fun_walk [] Try.func35 Try.ntmps35 cc35 cr35 (by kernel_rfl) (by simp only [List.length_cons, List.length_nil]; decide) ?_
  generalize hR : Ret _ _ _ _ _ = R_
  simp only [wz, wd, ws, Nat.reduceAdd, Nat.reduceSub, Nat.reduceMul, Nat.reduceLeDiff, Nat.reduceEqDiff, Nat.reduceLT, Nat.reduceBEq, reduceIte, reduceCtorEq, Int.reduceToNat, Nat.reduceShiftRight, Nat.reduceAnd, Nat.reduceBneDiff, Nat.reduceBNe, e_api_Disk, e_api_Write]
  unfold f_ref09_Right at h; unfold c35
  refine .seq ?_
  refine Rw.walk ?_
  simp only [wz, wd, ws, Nat.reduceAdd, Nat.reduceSub, Nat.reduceMul, Nat.reduceLeDiff, Nat.reduceEqDiff, Nat.reduceLT, Nat.reduceBEq, reduceIte, reduceCtorEq, Int.reduceToNat, Nat.reduceShiftRight, Nat.reduceAnd, Nat.reduceBneDiff, Nat.reduceBNe, c35r0, semI.eq_10, semI.eq_11, semI.eq_3, semI.eq_5, semI.eq_7, e_api_Disk, e_api_Write]
  refine .seq ?_
  refine .seq ?_
  refine Rw.walk ?_
  simp only [wz, wd, ws, Nat.reduceAdd, Nat.reduceSub, Nat.reduceMul, Nat.reduceLeDiff, Nat.reduceEqDiff, Nat.reduceLT, Nat.reduceBEq, reduceIte, reduceCtorEq, Int.reduceToNat, Nat.reduceShiftRight, Nat.reduceAnd, Nat.reduceBneDiff, Nat.reduceBNe, c35r1, semI.eq_10, semI.eq_11, semI.eq_3, semI.eq_5, semI.eq_7, e_api_Disk, e_api_Write]
  refine .blk ?_
  obtain ⟨s, hf, h⟩ := Option.bind_eq_some_iff.1 h
  refine .loop (.weak (Imp.co [] _ _ ?c1 ?c2 ?c3 ?c4 ?c5) (f_ref09_Right_l7_ok d _ _ hR _ _ _ hf _ ?_ ?_))
  case c1 | c2 | c3 | c4 | c5 => simp only [wz, wd, ws, Nat.reduceAdd, Nat.reduceSub, Nat.reduceMul, Nat.reduceLeDiff, Nat.reduceEqDiff, Nat.reduceLT, Nat.reduceBEq, reduceIte, reduceCtorEq, Int.reduceToNat, Nat.reduceShiftRight, Nat.reduceAnd, Nat.reduceBneDiff, Nat.reduceBNe, wi, er_nil, e_api_Disk, e_api_Write]
  · intro s2 hs; subst hs; dsimp only at h
    refine .seq ?_
    refine Rw.walk ?_
    simp only [wz, wd, ws, Nat.reduceAdd, Nat.reduceSub, Nat.reduceMul, Nat.reduceLeDiff, Nat.reduceEqDiff, Nat.reduceLT, Nat.reduceBEq, reduceIte, reduceCtorEq, Int.reduceToNat, Nat.reduceShiftRight, Nat.reduceAnd, Nat.reduceBneDiff, Nat.reduceBNe, c35r7, semI.eq_10, semI.eq_11, semI.eq_3, semI.eq_5, semI.eq_7, e_api_Disk, e_api_Write]
    refine call_alt (v := .b (.s (.d (.sl (d.Sectors.map eS))))) rfl rfl (by simp only [wz, wd, ws, Nat.reduceAdd, Nat.reduceSub, Nat.reduceMul, Nat.reduceLeDiff, Nat.reduceEqDiff, Nat.reduceLT, Nat.reduceBEq, reduceIte, reduceCtorEq, Int.reduceToNat, Nat.reduceShiftRight, Nat.reduceAnd, Nat.reduceBneDiff, Nat.reduceBNe]) (fun q => ⟨_, by simp only [wz, wd, ws, Nat.reduceAdd, Nat.reduceSub, Nat.reduceMul, Nat.reduceLeDiff, Nat.reduceEqDiff, Nat.reduceLT, Nat.reduceBEq, reduceIte, reduceCtorEq, Int.reduceToNat, Nat.reduceShiftRight, Nat.reduceAnd, Nat.reduceBneDiff, Nat.reduceBNe, semI.eq_10, e_api_Disk, e_api_Write], trivial⟩) ?_
    simp only [wz, wd, ws, Nat.reduceAdd, Nat.reduceSub, Nat.reduceMul, Nat.reduceLeDiff, Nat.reduceEqDiff, Nat.reduceLT, Nat.reduceBEq, reduceIte, reduceCtorEq, Int.reduceToNat, Nat.reduceShiftRight, Nat.reduceAnd, Nat.reduceBneDiff, Nat.reduceBNe, c35r7, semI.eq_10, semI.eq_11, semI.eq_3, semI.eq_5, semI.eq_7, e_api_Disk, e_api_Write]
    repeat (refine And.intro ?_ ?_; · first | omega | (simp only [List.length_append, List.length_cons, List.length_nil] at *; omega) | (intro q; simp only [wz, wd, ws, Nat.reduceAdd, Nat.reduceSub, Nat.reduceMul, Nat.reduceLeDiff, Nat.reduceEqDiff, Nat.reduceLT, Nat.reduceBEq, reduceIte, reduceCtorEq, Int.reduceToNat, Nat.reduceShiftRight, Nat.reduceAnd, Nat.reduceBneDiff, Nat.reduceBNe, q]; done))
    refine call_alt (v := .b (.s (.d (.sl (d.Dirty.map e_api_Write))))) rfl rfl (by simp only [wz, wd, ws, Nat.reduceAdd, Nat.reduceSub, Nat.reduceMul, Nat.reduceLeDiff, Nat.reduceEqDiff, Nat.reduceLT, Nat.reduceBEq, reduceIte, reduceCtorEq, Int.reduceToNat, Nat.reduceShiftRight, Nat.reduceAnd, Nat.reduceBneDiff, Nat.reduceBNe]) (fun q => ⟨_, by simp only [wz, wd, ws, Nat.reduceAdd, Nat.reduceSub, Nat.reduceMul, Nat.reduceLeDiff, Nat.reduceEqDiff, Nat.reduceLT, Nat.reduceBEq, reduceIte, reduceCtorEq, Int.reduceToNat, Nat.reduceShiftRight, Nat.reduceAnd, Nat.reduceBneDiff, Nat.reduceBNe, semI.eq_10, e_api_Disk, e_api_Write], trivial⟩) ?_
    simp only [wz, wd, ws, Nat.reduceAdd, Nat.reduceSub, Nat.reduceMul, Nat.reduceLeDiff, Nat.reduceEqDiff, Nat.reduceLT, Nat.reduceBEq, reduceIte, reduceCtorEq, Int.reduceToNat, Nat.reduceShiftRight, Nat.reduceAnd, Nat.reduceBneDiff, Nat.reduceBNe, c35r7, semI.eq_10, semI.eq_11, semI.eq_3, semI.eq_5, semI.eq_7, e_api_Disk, e_api_Write]
    repeat (refine And.intro ?_ ?_; · first | omega | (simp only [List.length_append, List.length_cons, List.length_nil] at *; omega) | (intro q; simp only [wz, wd, ws, Nat.reduceAdd, Nat.reduceSub, Nat.reduceMul, Nat.reduceLeDiff, Nat.reduceEqDiff, Nat.reduceLT, Nat.reduceBEq, reduceIte, reduceCtorEq, Int.reduceToNat, Nat.reduceShiftRight, Nat.reduceAnd, Nat.reduceBneDiff, Nat.reduceBNe, q]; done))
    refine call_alt (v := .b (.s (.d (.sl (d.Dirty.map e_api_Write))))) rfl rfl (by simp only [wz, wd, ws, Nat.reduceAdd, Nat.reduceSub, Nat.reduceMul, Nat.reduceLeDiff, Nat.reduceEqDiff, Nat.reduceLT, Nat.reduceBEq, reduceIte, reduceCtorEq, Int.reduceToNat, Nat.reduceShiftRight, Nat.reduceAnd, Nat.reduceBneDiff, Nat.reduceBNe]) (fun q => ⟨_, by simp only [wz, wd, ws, Nat.reduceAdd, Nat.reduceSub, Nat.reduceMul, Nat.reduceLeDiff, Nat.reduceEqDiff, Nat.reduceLT, Nat.reduceBEq, reduceIte, reduceCtorEq, Int.reduceToNat, Nat.reduceShiftRight, Nat.reduceAnd, Nat.reduceBneDiff, Nat.reduceBNe, semI.eq_10, e_api_Disk, e_api_Write], trivial⟩) ?_
    simp only [wz, wd, ws, Nat.reduceAdd, Nat.reduceSub, Nat.reduceMul, Nat.reduceLeDiff, Nat.reduceEqDiff, Nat.reduceLT, Nat.reduceBEq, reduceIte, reduceCtorEq, Int.reduceToNat, Nat.reduceShiftRight, Nat.reduceAnd, Nat.reduceBneDiff, Nat.reduceBNe, c35r7, semI.eq_10, semI.eq_11, semI.eq_3, semI.eq_5, semI.eq_7, e_api_Disk, e_api_Write]
    refine call_alt (v := .b (.s (.d (.sl (d.Sectors.map eS))))) rfl rfl (by simp only [wz, wd, ws, Nat.reduceAdd, Nat.reduceSub, Nat.reduceMul, Nat.reduceLeDiff, Nat.reduceEqDiff, Nat.reduceLT, Nat.reduceBEq, reduceIte, reduceCtorEq, Int.reduceToNat, Nat.reduceShiftRight, Nat.reduceAnd, Nat.reduceBneDiff, Nat.reduceBNe]) (fun q => ⟨_, by simp only [wz, wd, ws, Nat.reduceAdd, Nat.reduceSub, Nat.reduceMul, Nat.reduceLeDiff, Nat.reduceEqDiff, Nat.reduceLT, Nat.reduceBEq, reduceIte, reduceCtorEq, Int.reduceToNat, Nat.reduceShiftRight, Nat.reduceAnd, Nat.reduceBneDiff, Nat.reduceBNe, semI.eq_10, e_api_Disk, e_api_Write], trivial⟩) ?_
    simp only [wz, wd, ws, Nat.reduceAdd, Nat.reduceSub, Nat.reduceMul, Nat.reduceLeDiff, Nat.reduceEqDiff, Nat.reduceLT, Nat.reduceBEq, reduceIte, reduceCtorEq, Int.reduceToNat, Nat.reduceShiftRight, Nat.reduceAnd, Nat.reduceBneDiff, Nat.reduceBNe, c35r7, semI.eq_10, semI.eq_11, semI.eq_3, semI.eq_5, semI.eq_7, e_api_Disk, e_api_Write]
    obtain ⟨t, e2, h⟩ := Option.bind_eq_some_iff.1 h
    refine call_funG [] rfl (by simp only [wz, wd, ws, Nat.reduceAdd, Nat.reduceSub, Nat.reduceMul, Nat.reduceLeDiff, Nat.reduceEqDiff, Nat.reduceLT, Nat.reduceBEq, reduceIte, reduceCtorEq, Int.reduceToNat, Nat.reduceShiftRight, Nat.reduceAnd, Nat.reduceBneDiff, Nat.reduceBNe]) rfl ?_ (fun q => (f_ref09_Well_ok _ _ _ (gx_iff e2 (by simpa using q)))) rfl (fun i hi => by cases hi) ?_
    · simp only [wz, wd, ws, Nat.reduceAdd, Nat.reduceSub, Nat.reduceMul, Nat.reduceLeDiff, Nat.reduceEqDiff, Nat.reduceLT, Nat.reduceBEq, reduceIte, reduceCtorEq, Int.reduceToNat, Nat.reduceShiftRight, Nat.reduceAnd, Nat.reduceBneDiff, Nat.reduceBNe, e_api_Disk, e_api_Write]
    simp only [wz, wd, ws, Nat.reduceAdd, Nat.reduceSub, Nat.reduceMul, Nat.reduceLeDiff, Nat.reduceEqDiff, Nat.reduceLT, Nat.reduceBEq, reduceIte, reduceCtorEq, Int.reduceToNat, Nat.reduceShiftRight, Nat.reduceAnd, Nat.reduceBneDiff, Nat.reduceBNe, c35r7, semI.eq_10, semI.eq_11, semI.eq_3, semI.eq_5, semI.eq_7, e_api_Disk, e_api_Write]
    repeat (refine And.intro ?_ ?_; · first | omega | (simp only [List.length_append, List.length_cons, List.length_nil] at *; omega) | (intro q; simp only [wz, wd, ws, Nat.reduceAdd, Nat.reduceSub, Nat.reduceMul, Nat.reduceLeDiff, Nat.reduceEqDiff, Nat.reduceLT, Nat.reduceBEq, reduceIte, reduceCtorEq, Int.reduceToNat, Nat.reduceShiftRight, Nat.reduceAnd, Nat.reduceBneDiff, Nat.reduceBNe, q]; done))
    obtain rfl := Option.some.inj h
    refine .ret ?_
    rw [← hR]
    simp only [wz, wd, ws, Nat.reduceAdd, Nat.reduceSub, Nat.reduceMul, Nat.reduceLeDiff, Nat.reduceEqDiff, Nat.reduceLT, Nat.reduceBEq, reduceIte, reduceCtorEq, Int.reduceToNat, Nat.reduceShiftRight, Nat.reduceAnd, Nat.reduceBneDiff, Nat.reduceBNe, rv35, e_api_Disk, e_api_Write]
  · intro z hz; subst hz; dsimp only at h
    exact Option.some.inj h
-- 29 consignor/consignorref10.At
def c29r0 : List Opn := [
  ⟨(some 2), none, .box 2 (.t 0)⟩, 
  ⟨(some 4), none, .mv (.c (.s (.d (.int .i64 0))))⟩]
def c29r1 : List Opn := [
  ⟨(some 5), none, .mv (.t 1)⟩, 
  ⟨(some 6), none, .fadr 0 (.t 2)⟩, 
  ⟨(some 7), none, .load false 1 (.t 6)⟩, 
  ⟨(some 8), none, .len (.sl 0) (.t 7)⟩, 
  ⟨(some 9), none, .bin .quo (.t 8) (.c (.s (.d (.int .i64 2))))⟩, 
  ⟨(some 10), none, .bin .mul (.t 5) (.t 9)⟩, 
  ⟨(some 4), none, .mv (.t 10)⟩]
def c29 : C := .seq (.reg c29r0 none [1, 2]) (.seq (.reg c29r1 none [4]) (.ret))
def k29 : List (Nat × List Nat) := [(1, [4]), (0, [1, 2])]
theorem cc29 : (Try.f29.body).bind (cC Try.prog 11 k29) = some c29 := by kernel_rfl
def rv29 : List RV := [.t 4]
theorem cr29 : cRVs Try.prog Try.f29.results.toList = some rv29 := by kernel_rfl
theorem f_ref10_At_ok (d : api_Disk) (half : Int) (y_ : Int) (h : f_ref10_At d half = some y_) : Fun Try.prog glP 29 [.b (.agg ((e_api_Disk d).map Lc.d)), .b (.s (.d (.int .i64 half)))] (.b (.s (.d (.int .i64 y_)))) := by
  refine fun_walk [] Try.func29 Try.ntmps29 cc29 cr29 (by kernel_rfl) (by simp only [List.length_cons, List.length_nil]; decide) ?_
  generalize hR : Ret _ _ _ _ _ = R_
  simp only [wz, wd, ws, Nat.reduceAdd, Nat.reduceSub, Nat.reduceMul, Nat.reduceLeDiff, Nat.reduceEqDiff, Nat.reduceLT, Nat.reduceBEq, reduceIte, reduceCtorEq, Int.reduceToNat, Nat.reduceShiftRight, Nat.reduceAnd, Nat.reduceBneDiff, Nat.reduceBNe, e_api_Disk, e_api_Write]
  unfold f_ref10_At at h; unfold c29
  refine .seq ?_
  refine Rw.walk ?_
  simp only [wz, wd, ws, Nat.reduceAdd, Nat.reduceSub, Nat.reduceMul, Nat.reduceLeDiff, Nat.reduceEqDiff, Nat.reduceLT, Nat.reduceBEq, reduceIte, reduceCtorEq, Int.reduceToNat, Nat.reduceShiftRight, Nat.reduceAnd, Nat.reduceBneDiff, Nat.reduceBNe, c29r0, semI.eq_10, semI.eq_11, semI.eq_3, semI.eq_5, semI.eq_7, e_api_Disk, e_api_Write]
  refine .seq ?_
  refine Rw.walk ?_
  simp only [wz, wd, ws, Nat.reduceAdd, Nat.reduceSub, Nat.reduceMul, Nat.reduceLeDiff, Nat.reduceEqDiff, Nat.reduceLT, Nat.reduceBEq, reduceIte, reduceCtorEq, Int.reduceToNat, Nat.reduceShiftRight, Nat.reduceAnd, Nat.reduceBneDiff, Nat.reduceBNe, c29r1, semI.eq_10, semI.eq_11, semI.eq_3, semI.eq_5, semI.eq_7, e_api_Disk, e_api_Write]
  repeat (refine And.intro ?_ ?_; · first | omega | (simp only [List.length_append, List.length_cons, List.length_nil] at *; omega) | (intro q; simp only [wz, wd, ws, Nat.reduceAdd, Nat.reduceSub, Nat.reduceMul, Nat.reduceLeDiff, Nat.reduceEqDiff, Nat.reduceLT, Nat.reduceBEq, reduceIte, reduceCtorEq, Int.reduceToNat, Nat.reduceShiftRight, Nat.reduceAnd, Nat.reduceBneDiff, Nat.reduceBNe, q]; done))
  obtain rfl := Option.some.inj h
  refine .ret ?_
  rw [← hR]
  simp only [wz, wd, ws, Nat.reduceAdd, Nat.reduceSub, Nat.reduceMul, Nat.reduceLeDiff, Nat.reduceEqDiff, Nat.reduceLT, Nat.reduceBEq, reduceIte, reduceCtorEq, Int.reduceToNat, Nat.reduceShiftRight, Nat.reduceAnd, Nat.reduceBneDiff, Nat.reduceBNe, rv29, e_api_Disk, e_api_Write]
-- 55 consignor/consignorref01.Whole
def c55r0 : List Opn := [
  ⟨(some 2), none, .mv (.c (.s (.d (.int .u64 0))))⟩]
def c55r1 : List Opn := [
  ⟨(some 3), none, .mv (.c (.s (.d (.int .u64 0))))⟩]
def c55r2 : List Opn := [
  ⟨(some 5), none, .mv (.t 0)⟩, 
  ⟨(some 6), none, .len .str (.t 5)⟩, 
  ⟨(some 7), none, .bin .sub (.t 6) (.c (.s (.d (.int .i64 1))))⟩, 
  ⟨(some 4), none, .mv (.t 7)⟩]
def c55r3 : List Opn := [
  ⟨(some 8), none, .mv (.t 4)⟩, 
  ⟨(some 9), none, .bin .geq (.t 8) (.c (.s (.d (.int .i64 0))))⟩]
def c55r5 : List Opn := [
  ⟨(some 12), none, .mv (.t 3)⟩, 
  ⟨(some 13), none, .bin .mul (.c (.s (.d (.int .u64 256)))) (.t 12)⟩, 
  ⟨(some 14), none, .mv (.t 0)⟩, 
  ⟨(some 15), none, .mv (.t 4)⟩, 
  ⟨(some 16), none, .idx .str (.t 14) (.t 15)⟩, 
  ⟨(some 17), none, .cv (.toInt .u64) (.t 16)⟩, 
  ⟨(some 18), none, .bin .add (.t 13) (.t 17)⟩, 
  ⟨(some 3), none, .mv (.t 18)⟩]
def c55r4 : List Opn := [
  ⟨(some 10), none, .mv (.t 4)⟩, 
  ⟨(some 11), none, .bin .sub (.t 10) (.c (.s (.d (.int .i64 1))))⟩, 
  ⟨(some 4), none, .mv (.t 11)⟩]
def c55l6 : C := .seq (.seq (.reg c55r3 none [0, 3, 4, 9]) (.cond (.t 9) (.skip) (.exit 0))) (.seq (.blk 1 (.reg c55r5 none [0, 3, 4])) (.reg c55r4 none [0, 3, 4]))
def c55r6 : List Opn := [
  ⟨(some 19), none, .mv (.t 3)⟩, 
  ⟨(some 2), none, .mv (.t 19)⟩]
def c55 : C := .seq (.reg c55r0 none [0]) (.seq (.reg c55r1 none [0, 3]) (.seq (.seq (.reg c55r2 none [0, 3, 4]) (.blk 0 (.loop c55l6))) (.seq (.reg c55r6 none [2]) (.ret))))
def k55 : List (Nat × List Nat) := [(6, [2]), (4, [0, 3, 4]), (5, [0, 3, 4]), (3, [0, 3, 4, 9]), (2, [0, 3, 4]), (1, [0, 3]), (0, [0])]
theorem cc55 : (Try.f55.body).bind (cC Try.prog 20 k55) = some c55 := by kernel_rfl
def rv55 : List RV := [.t 2]
theorem cr55 : cRVs Try.prog Try.f55.results.toList = some rv55 := by kernel_rfl
theorem f_ref01_Whole_l6_ok (s : Str) (y_ : Int) (R_ : St → Prop) (hR : (Ret Try.prog glP [] rv55 (.b (.s (.d (.int .u64 y_))))) = R_) : ∀ (m_ : Nat) (n : Int) (i : Int) (res_ : Int × Int) (h : f_ref01_Whole_l6 s m_ n i = some res_) (k_ : List It) (hx : ∀ s_ : Int × Int, res_ = s_ → W Try.prog glP 20 k_ ⟨lkT [(0, .b (.s (.d (.str s)))), (3, .b (.s (.d (.int .u64 s_.1)))), (4, .b (.s (.d (.int .i64 s_.2))))], lkG []⟩ R_), W Try.prog glP 20 (.c c55l6 :: .lp c55l6 :: .blk 0 :: k_) ⟨lkT [(0, .b (.s (.d (.str s)))), (3, .b (.s (.d (.int .u64 n)))), (4, .b (.s (.d (.int .i64 i))))], lkG []⟩ R_ := by
  intro m_; induction m_ with
  | zero => intro n i res_ h; rw [f_ref01_Whole_l6.eq_1] at h; cases h
  | succ m_ ih =>
    intro n i res_ h k_ hx; rw [f_ref01_Whole_l6.eq_2] at h; refine W.cdef c55l6.eq_1 ?_
    refine .seq ?_
    refine .seq ?_
    refine Rw.walk ?_
    simp only [wz, wd, ws, Nat.reduceAdd, Nat.reduceSub, Nat.reduceMul, Nat.reduceLeDiff, Nat.reduceEqDiff, Nat.reduceLT, Nat.reduceBEq, reduceIte, reduceCtorEq, Int.reduceToNat, Nat.reduceShiftRight, Nat.reduceAnd, Nat.reduceBneDiff, Nat.reduceBNe, c55r3, semI.eq_10, semI.eq_11, semI.eq_3, semI.eq_5, semI.eq_7]
    refine .cond (p := (decide (i ≥ 0))) (by first | rfl | simp only [wz, wd, ws, Nat.reduceAdd, Nat.reduceSub, Nat.reduceMul, Nat.reduceLeDiff, Nat.reduceEqDiff, Nat.reduceLT, Nat.reduceBEq, reduceIte, reduceCtorEq, Int.reduceToNat, Nat.reduceShiftRight, Nat.reduceAnd, Nat.reduceBneDiff, Nat.reduceBNe]) (fun h1 => ?_) (fun h1 => ?_)
    · rw [ite_t h1] at h
      refine .skip ?_
      refine .seq ?_
      refine .blk ?_
      refine Rw.walk ?_
      simp only [wz, wd, ws, Nat.reduceAdd, Nat.reduceSub, Nat.reduceMul, Nat.reduceLeDiff, Nat.reduceEqDiff, Nat.reduceLT, Nat.reduceBEq, reduceIte, reduceCtorEq, Int.reduceToNat, Nat.reduceShiftRight, Nat.reduceAnd, Nat.reduceBneDiff, Nat.reduceBNe, c55r5, semI.eq_10, semI.eq_11, semI.eq_3, semI.eq_5, semI.eq_7]
      obtain ⟨c, e1, h⟩ := Option.bind_eq_some_iff.1 h
      refine Go1.of (sem_idx e1 (by rfl) (by rfl)) ?_
      simp only [wz, wd, ws, Nat.reduceAdd, Nat.reduceSub, Nat.reduceMul, Nat.reduceLeDiff, Nat.reduceEqDiff, Nat.reduceLT, Nat.reduceBEq, reduceIte, reduceCtorEq, Int.reduceToNat, Nat.reduceShiftRight, Nat.reduceAnd, Nat.reduceBneDiff, Nat.reduceBNe, c55r5, semI.eq_10, semI.eq_11, semI.eq_3, semI.eq_5, semI.eq_7]
      refine .eblk ?_
      refine Rw.walk ?_
      simp only [wz, wd, ws, Nat.reduceAdd, Nat.reduceSub, Nat.reduceMul, Nat.reduceLeDiff, Nat.reduceEqDiff, Nat.reduceLT, Nat.reduceBEq, reduceIte, reduceCtorEq, Int.reduceToNat, Nat.reduceShiftRight, Nat.reduceAnd, Nat.reduceBneDiff, Nat.reduceBNe, c55r4, semI.eq_10, semI.eq_11, semI.eq_3, semI.eq_5, semI.eq_7]
      refine .lp ?_
      refine .weak (Imp.co [] _ _ ?_ ?_ ?_ ?_ ?_) (ih (IntKind.u64.wrap ((IntKind.u64.wrap (256 * n)) + (IntKind.u64.wrap (bn c)))) (IntKind.i64.wrap (i - 1)) _ h k_ hx) <;> simp only [wz, wd, ws, Nat.reduceAdd, Nat.reduceSub, Nat.reduceMul, Nat.reduceLeDiff, Nat.reduceEqDiff, Nat.reduceLT, Nat.reduceBEq, reduceIte, reduceCtorEq, Int.reduceToNat, Nat.reduceShiftRight, Nat.reduceAnd, Nat.reduceBneDiff, Nat.reduceBNe, wi, er_nil]
    · rw [ite_f h1] at h
      refine .exit rfl ?_
      obtain rfl := Option.some.inj h
      refine .weak (Imp.co [] _ _ ?_ ?_ ?_ ?_ ?_) (hx _ rfl) <;> simp only [wz, wd, ws, Nat.reduceAdd, Nat.reduceSub, Nat.reduceMul, Nat.reduceLeDiff, Nat.reduceEqDiff, Nat.reduceLT, Nat.reduceBEq, reduceIte, reduceCtorEq, Int.reduceToNat, Nat.reduceShiftRight, Nat.reduceAnd, Nat.reduceBneDiff, Nat.reduceBNe, wi, er_nil]
theorem f_ref01_Whole_ok (s : Str) (y_ : Int) (h : f_ref01_Whole s = some y_) : Fun Try.prog glP 55 [.b (.s (.d (.str s)))] (.b (.s (.d (.int .u64 y_)))) := by
  refine fun_walk [] Try.func55 Try.ntmps55 cc55 cr55 (by kernel_rfl) (by simp only [List.length_cons, List.length_nil]; decide) ?_
  generalize hR : Ret _ _ _ _ _ = R_
  simp only [wz, wd, ws, Nat.reduceAdd, Nat.reduceSub, Nat.reduceMul, Nat.reduceLeDiff, Nat.reduceEqDiff, Nat.reduceLT, Nat.reduceBEq, reduceIte, reduceCtorEq, Int.reduceToNat, Nat.reduceShiftRight, Nat.reduceAnd, Nat.reduceBneDiff, Nat.reduceBNe]
  unfold f_ref01_Whole at h; unfold c55
  refine .seq ?_
  refine Rw.walk ?_
  simp only [wz, wd, ws, Nat.reduceAdd, Nat.reduceSub, Nat.reduceMul, Nat.reduceLeDiff, Nat.reduceEqDiff, Nat.reduceLT, Nat.reduceBEq, reduceIte, reduceCtorEq, Int.reduceToNat, Nat.reduceShiftRight, Nat.reduceAnd, Nat.reduceBneDiff, Nat.reduceBNe, c55r0, semI.eq_10, semI.eq_11, semI.eq_3, semI.eq_5, semI.eq_7]
  refine .seq ?_
  refine Rw.walk ?_
  simp only [wz, wd, ws, Nat.reduceAdd, Nat.reduceSub, Nat.reduceMul, Nat.reduceLeDiff, Nat.reduceEqDiff, Nat.reduceLT, Nat.reduceBEq, reduceIte, reduceCtorEq, Int.reduceToNat, Nat.reduceShiftRight, Nat.reduceAnd, Nat.reduceBneDiff, Nat.reduceBNe, c55r1, semI.eq_10, semI.eq_11, semI.eq_3, semI.eq_5, semI.eq_7]
  refine .seq ?_
  refine .seq ?_
  refine Rw.walk ?_
  simp only [wz, wd, ws, Nat.reduceAdd, Nat.reduceSub, Nat.reduceMul, Nat.reduceLeDiff, Nat.reduceEqDiff, Nat.reduceLT, Nat.reduceBEq, reduceIte, reduceCtorEq, Int.reduceToNat, Nat.reduceShiftRight, Nat.reduceAnd, Nat.reduceBneDiff, Nat.reduceBNe, c55r2, semI.eq_10, semI.eq_11, semI.eq_3, semI.eq_5, semI.eq_7]
  refine .blk ?_
  obtain ⟨s2, hf, h⟩ := Option.bind_eq_some_iff.1 h
  refine .loop (.weak (Imp.co [] _ _ ?c1 ?c2 ?c3 ?c4 ?c5) (f_ref01_Whole_l6_ok s _ _ hR _ _ _ _ hf _ ?_))
  case c1 | c2 | c3 | c4 | c5 => simp only [wz, wd, ws, Nat.reduceAdd, Nat.reduceSub, Nat.reduceMul, Nat.reduceLeDiff, Nat.reduceEqDiff, Nat.reduceLT, Nat.reduceBEq, reduceIte, reduceCtorEq, Int.reduceToNat, Nat.reduceShiftRight, Nat.reduceAnd, Nat.reduceBneDiff, Nat.reduceBNe, wi, er_nil]
  · intro s2_ hs; subst hs
    refine .seq ?_
    refine Rw.walk ?_
    simp only [wz, wd, ws, Nat.reduceAdd, Nat.reduceSub, Nat.reduceMul, Nat.reduceLeDiff, Nat.reduceEqDiff, Nat.reduceLT, Nat.reduceBEq, reduceIte, reduceCtorEq, Int.reduceToNat, Nat.reduceShiftRight, Nat.reduceAnd, Nat.reduceBneDiff, Nat.reduceBNe, c55r6, semI.eq_10, semI.eq_11, semI.eq_3, semI.eq_5, semI.eq_7]
    obtain rfl := Option.some.inj h
    refine .ret ?_
    rw [← hR]
    simp only [wz, wd, ws, Nat.reduceAdd, Nat.reduceSub, Nat.reduceMul, Nat.reduceLeDiff, Nat.reduceEqDiff, Nat.reduceLT, Nat.reduceBEq, reduceIte, reduceCtorEq, Int.reduceToNat, Nat.reduceShiftRight, Nat.reduceAnd, Nat.reduceBneDiff, Nat.reduceBNe, rv55]
-- 25 consignor/consignorref10.Room
def c25r0 : List Opn := [
  ⟨(some 2), none, .box 2 (.t 0)⟩, 
  ⟨(some 4), none, .mv (.c (.s (.d (.str []))))⟩]
def c25r1 : List Opn := [
  ⟨(some 5), none, .mv (.c (.s (.d (.str []))))⟩]
def c25r2 : List Opn := [
  ⟨(some 8), none, .fadr 0 (.t 2)⟩, 
  ⟨(some 9), none, .load false 1 (.t 8)⟩, 
  ⟨(some 10), none, .len (.sl 0) (.t 9)⟩, 
  ⟨(some 11), none, .bin .quo (.t 10) (.c (.s (.d (.int .i64 2))))⟩, 
  ⟨(some 6), none, .mv (.t 11)⟩]
def c25r3 : List Opn := [
  ⟨(some 7), none, .mv (.c (.s (.d (.int .i64 1))))⟩]
def c25r4 : List Opn := [
  ⟨(some 12), none, .mv (.t 7)⟩, 
  ⟨(some 13), none, .mv (.t 6)⟩, 
  ⟨(some 14), none, .bin .lss (.t 12) (.t 13)⟩]
def c25r6 : List Opn := [
  ⟨(some 17), none, .mv (.t 5)⟩, 
  ⟨(some 18), none, .fadr 0 (.t 2)⟩, 
  ⟨(some 19), none, .load false 1 (.t 18)⟩, 
  ⟨(some 20), none, .mv (.t 1)⟩, 
  ⟨(some 21), none, .mv (.t 6)⟩, 
  ⟨(some 22), none, .bin .mul (.t 20) (.t 21)⟩, 
  ⟨(some 23), none, .mv (.t 7)⟩, 
  ⟨(some 24), none, .bin .add (.t 22) (.t 23)⟩, 
  ⟨(some 25), none, .iadr (.sl 1) (.t 19) (.t 24)⟩, 
  ⟨(some 26), none, .load false 1 (.t 25)⟩, 
  ⟨(some 27), none, .bin .add (.t 17) (.t 26)⟩, 
  ⟨(some 5), none, .mv (.t 27)⟩]
def c25r5 : List Opn := [
  ⟨(some 15), none, .mv (.t 7)⟩, 
  ⟨(some 16), none, .bin .add (.t 15) (.c (.s (.d (.int .i64 1))))⟩, 
  ⟨(some 7), none, .mv (.t 16)⟩]
def c25l7 : C := .seq (.seq (.reg c25r4 none [1, 2, 5, 6, 7, 14]) (.cond (.t 14) (.skip) (.exit 0))) (.seq (.blk 1 (.reg c25r6 none [1, 2, 5, 6, 7])) (.reg c25r5 none [1, 2, 5, 6, 7]))
def c25r7 : List Opn := [
  ⟨(some 28), none, .mv (.t 5)⟩, 
  ⟨(some 4), none, .mv (.t 28)⟩]
def c25 : C := .seq (.reg c25r0 none [1, 2]) (.seq (.reg c25r1 none [1, 2, 5]) (.seq (.reg c25r2 none [1, 2, 5, 6]) (.seq (.seq (.reg c25r3 none [1, 2, 5, 6, 7]) (.blk 0 (.loop c25l7))) (.seq (.reg c25r7 none [4]) (.ret)))))
def k25 : List (Nat × List Nat) := [(7, [4]), (5, [1, 2, 5, 6, 7]), (6, [1, 2, 5, 6, 7]), (4, [1, 2, 5, 6, 7, 14]), (3, [1, 2, 5, 6, 7]), (2, [1, 2, 5, 6]), (1, [1, 2, 5]), (0, [1, 2])]
theorem cc25 : (Try.f25.body).bind (cC Try.prog 29 k25) = some c25 := by kernel_rfl
def rv25 : List RV := [.t 4]
theorem cr25 : cRVs Try.prog Try.f25.results.toList = some rv25 := by kernel_rfl
theorem f_ref10_Room_l7_ok (d : api_Disk) (half : Int) (y_ : Str) (R_ : St → Prop) (hR : (Ret Try.prog glP [] rv25 (.b (.s (.d (.str y_))))) = R_) : ∀ (m_ : Nat) (out : Str) (i : Int) (res_ : Str × Int) (h : f_ref10_Room_l7 d half m_ out i = some res_) (k_ : List It) (hx : ∀ s_ : Str × Int, res_ = s_ → W Try.prog glP 29 k_ ⟨lkT [(1, .b (.s (.d (.int .i64 half)))), (2, .b (.s (.ptr 2 1 0 0))), (5, .b (.s (.d (.str s_.1)))), (6, .b (.s (.d (.int .i64 (IntKind.i64.wrap ((d.Sectors.length : Int).tdiv 2)))))), (7, .b (.s (.d (.int .i64 s_.2))))], lkG [(2, ⟨2, [[(.d (.sl (d.Sectors.map eS))), (.d (.sl (d.Dirty.map e_api_Write)))]], false⟩)]⟩ R_), W Try.prog glP 29 (.c c25l7 :: .lp c25l7 :: .blk 0 :: k_) ⟨lkT [(1, .b (.s (.d (.int .i64 half)))), (2, .b (.s (.ptr 2 1 0 0))), (5, .b (.s (.d (.str out)))), (6, .b (.s (.d (.int .i64 (IntKind.i64.wrap ((d.Sectors.length : Int).tdiv 2)))))), (7, .b (.s (.d (.int .i64 i))))], lkG [(2, ⟨2, [[(.d (.sl (d.Sectors.map eS))), (.d (.sl (d.Dirty.map e_api_Write)))]], false⟩)]⟩ R_ := by
  intro m_; induction m_ with
  | zero => intro out i res_ h; rw [f_ref10_Room_l7.eq_1] at h; cases h
  | succ m_ ih =>
    intro out i res_ h k_ hx; rw [f_ref10_Room_l7.eq_2] at h; refine W.cdef c25l7.eq_1 ?_
    refine .seq ?_
    refine .seq ?_
    refine Rw.walk ?_
    simp only [wz, wd, ws, Nat.reduceAdd, Nat.reduceSub, Nat.reduceMul, Nat.reduceLeDiff, Nat.reduceEqDiff, Nat.reduceLT, Nat.reduceBEq, reduceIte, reduceCtorEq, Int.reduceToNat, Nat.reduceShiftRight, Nat.reduceAnd, Nat.reduceBneDiff, Nat.reduceBNe, c25r4, semI.eq_10, semI.eq_11, semI.eq_3, semI.eq_5, semI.eq_7, e_api_Disk, e_api_Write]
    refine .cond (p := (decide (i < (IntKind.i64.wrap ((d.Sectors.length : Int).tdiv 2))))) (by first | rfl | simp only [wz, wd, ws, Nat.reduceAdd, Nat.reduceSub, Nat.reduceMul, Nat.reduceLeDiff, Nat.reduceEqDiff, Nat.reduceLT, Nat.reduceBEq, reduceIte, reduceCtorEq, Int.reduceToNat, Nat.reduceShiftRight, Nat.reduceAnd, Nat.reduceBneDiff, Nat.reduceBNe]) (fun h1 => ?_) (fun h1 => ?_)
    · rw [ite_t h1] at h
      refine .skip ?_
      refine .seq ?_
      refine .blk ?_
      refine Rw.walk ?_
      simp only [wz, wd, ws, Nat.reduceAdd, Nat.reduceSub, Nat.reduceMul, Nat.reduceLeDiff, Nat.reduceEqDiff, Nat.reduceLT, Nat.reduceBEq, reduceIte, reduceCtorEq, Int.reduceToNat, Nat.reduceShiftRight, Nat.reduceAnd, Nat.reduceBneDiff, Nat.reduceBNe, c25r6, semI.eq_10, semI.eq_11, semI.eq_3, semI.eq_5, semI.eq_7, e_api_Disk, e_api_Write]
      obtain ⟨x, e1, h⟩ := Option.bind_eq_some_iff.1 h
      refine Go1.of (sem_iadr eS_len e1 (by rfl) (by rfl)) ?_
      simp only [wz, wd, ws, Nat.reduceAdd, Nat.reduceSub, Nat.reduceMul, Nat.reduceLeDiff, Nat.reduceEqDiff, Nat.reduceLT, Nat.reduceBEq, reduceIte, reduceCtorEq, Int.reduceToNat, Nat.reduceShiftRight, Nat.reduceAnd, Nat.reduceBneDiff, Nat.reduceBNe, c25r6, semI.eq_10, semI.eq_11, semI.eq_3, semI.eq_5, semI.eq_7, e_api_Disk, e_api_Write]
      obtain ⟨g2, h⟩ := gd_iff.1 h
      repeat (refine And.intro ?_ ?_; · first | omega | (simp only [List.length_append, List.length_cons, List.length_nil] at *; omega) | (intro q; simp only [wz, wd, ws, Nat.reduceAdd, Nat.reduceSub, Nat.reduceMul, Nat.reduceLeDiff, Nat.reduceEqDiff, Nat.reduceLT, Nat.reduceBEq, reduceIte, reduceCtorEq, Int.reduceToNat, Nat.reduceShiftRight, Nat.reduceAnd, Nat.reduceBneDiff, Nat.reduceBNe, q]; done))
      refine .eblk ?_
      refine Rw.walk ?_
      simp only [wz, wd, ws, Nat.reduceAdd, Nat.reduceSub, Nat.reduceMul, Nat.reduceLeDiff, Nat.reduceEqDiff, Nat.reduceLT, Nat.reduceBEq, reduceIte, reduceCtorEq, Int.reduceToNat, Nat.reduceShiftRight, Nat.reduceAnd, Nat.reduceBneDiff, Nat.reduceBNe, c25r5, semI.eq_10, semI.eq_11, semI.eq_3, semI.eq_5, semI.eq_7, e_api_Disk, e_api_Write]
      refine .lp ?_
      refine .weak (Imp.co [] _ _ ?_ ?_ ?_ ?_ ?_) (ih (out ++ x) (IntKind.i64.wrap (i + 1)) _ h k_ hx) <;> simp only [wz, wd, ws, Nat.reduceAdd, Nat.reduceSub, Nat.reduceMul, Nat.reduceLeDiff, Nat.reduceEqDiff, Nat.reduceLT, Nat.reduceBEq, reduceIte, reduceCtorEq, Int.reduceToNat, Nat.reduceShiftRight, Nat.reduceAnd, Nat.reduceBneDiff, Nat.reduceBNe, wi, er_nil, e_api_Disk, e_api_Write]
    · rw [ite_f h1] at h
      refine .exit rfl ?_
      obtain rfl := Option.some.inj h
      refine .weak (Imp.co [] _ _ ?_ ?_ ?_ ?_ ?_) (hx _ rfl) <;> simp only [wz, wd, ws, Nat.reduceAdd, Nat.reduceSub, Nat.reduceMul, Nat.reduceLeDiff, Nat.reduceEqDiff, Nat.reduceLT, Nat.reduceBEq, reduceIte, reduceCtorEq, Int.reduceToNat, Nat.reduceShiftRight, Nat.reduceAnd, Nat.reduceBneDiff, Nat.reduceBNe, wi, er_nil, e_api_Disk, e_api_Write]
theorem f_ref10_Room_ok (d : api_Disk) (half : Int) (y_ : Str) (h : f_ref10_Room d half = some y_) : Fun Try.prog glP 25 [.b (.agg ((e_api_Disk d).map Lc.d)), .b (.s (.d (.int .i64 half)))] (.b (.s (.d (.str y_)))) := by
  refine fun_walk [] Try.func25 Try.ntmps25 cc25 cr25 (by kernel_rfl) (by simp only [List.length_cons, List.length_nil]; decide) ?_
  generalize hR : Ret _ _ _ _ _ = R_
  simp only [wz, wd, ws, Nat.reduceAdd, Nat.reduceSub, Nat.reduceMul, Nat.reduceLeDiff, Nat.reduceEqDiff, Nat.reduceLT, Nat.reduceBEq, reduceIte, reduceCtorEq, Int.reduceToNat, Nat.reduceShiftRight, Nat.reduceAnd, Nat.reduceBneDiff, Nat.reduceBNe, e_api_Disk, e_api_Write]
  unfold f_ref10_Room at h; unfold c25
  refine .seq ?_
  refine Rw.walk ?_
  simp only [wz, wd, ws, Nat.reduceAdd, Nat.reduceSub, Nat.reduceMul, Nat.reduceLeDiff, Nat.reduceEqDiff, Nat.reduceLT, Nat.reduceBEq, reduceIte, reduceCtorEq, Int.reduceToNat, Nat.reduceShiftRight, Nat.reduceAnd, Nat.reduceBneDiff, Nat.reduceBNe, c25r0, semI.eq_10, semI.eq_11, semI.eq_3, semI.eq_5, semI.eq_7, e_api_Disk, e_api_Write]
  refine .seq ?_
  refine Rw.walk ?_
  simp only [wz, wd, ws, Nat.reduceAdd, Nat.reduceSub, Nat.reduceMul, Nat.reduceLeDiff, Nat.reduceEqDiff, Nat.reduceLT, Nat.reduceBEq, reduceIte, reduceCtorEq, Int.reduceToNat, Nat.reduceShiftRight, Nat.reduceAnd, Nat.reduceBneDiff, Nat.reduceBNe, c25r1, semI.eq_10, semI.eq_11, semI.eq_3, semI.eq_5, semI.eq_7, e_api_Disk, e_api_Write]
  refine .seq ?_
  refine Rw.walk ?_
  simp only [wz, wd, ws, Nat.reduceAdd, Nat.reduceSub, Nat.reduceMul, Nat.reduceLeDiff, Nat.reduceEqDiff, Nat.reduceLT, Nat.reduceBEq, reduceIte, reduceCtorEq, Int.reduceToNat, Nat.reduceShiftRight, Nat.reduceAnd, Nat.reduceBneDiff, Nat.reduceBNe, c25r2, semI.eq_10, semI.eq_11, semI.eq_3, semI.eq_5, semI.eq_7, e_api_Disk, e_api_Write]
  repeat (refine And.intro ?_ ?_; · first | omega | (simp only [List.length_append, List.length_cons, List.length_nil] at *; omega) | (intro q; simp only [wz, wd, ws, Nat.reduceAdd, Nat.reduceSub, Nat.reduceMul, Nat.reduceLeDiff, Nat.reduceEqDiff, Nat.reduceLT, Nat.reduceBEq, reduceIte, reduceCtorEq, Int.reduceToNat, Nat.reduceShiftRight, Nat.reduceAnd, Nat.reduceBneDiff, Nat.reduceBNe, q]; done))
  refine .seq ?_
  refine .seq ?_
  refine Rw.walk ?_
  simp only [wz, wd, ws, Nat.reduceAdd, Nat.reduceSub, Nat.reduceMul, Nat.reduceLeDiff, Nat.reduceEqDiff, Nat.reduceLT, Nat.reduceBEq, reduceIte, reduceCtorEq, Int.reduceToNat, Nat.reduceShiftRight, Nat.reduceAnd, Nat.reduceBneDiff, Nat.reduceBNe, c25r3, semI.eq_10, semI.eq_11, semI.eq_3, semI.eq_5, semI.eq_7, e_api_Disk, e_api_Write]
  refine .blk ?_
  obtain ⟨s, hf, h⟩ := Option.bind_eq_some_iff.1 h
  refine .loop (.weak (Imp.co [] _ _ ?c1 ?c2 ?c3 ?c4 ?c5) (f_ref10_Room_l7_ok d half _ _ hR _ _ _ _ hf _ ?_))
  case c1 | c2 | c3 | c4 | c5 => simp only [wz, wd, ws, Nat.reduceAdd, Nat.reduceSub, Nat.reduceMul, Nat.reduceLeDiff, Nat.reduceEqDiff, Nat.reduceLT, Nat.reduceBEq, reduceIte, reduceCtorEq, Int.reduceToNat, Nat.reduceShiftRight, Nat.reduceAnd, Nat.reduceBneDiff, Nat.reduceBNe, wi, er_nil, e_api_Disk, e_api_Write]
  · intro s_ hs; subst hs
    refine .seq ?_
    refine Rw.walk ?_
    simp only [wz, wd, ws, Nat.reduceAdd, Nat.reduceSub, Nat.reduceMul, Nat.reduceLeDiff, Nat.reduceEqDiff, Nat.reduceLT, Nat.reduceBEq, reduceIte, reduceCtorEq, Int.reduceToNat, Nat.reduceShiftRight, Nat.reduceAnd, Nat.reduceBneDiff, Nat.reduceBNe, c25r7, semI.eq_10, semI.eq_11, semI.eq_3, semI.eq_5, semI.eq_7, e_api_Disk, e_api_Write]
    obtain rfl := Option.some.inj h
    refine .ret ?_
    rw [← hR]
    simp only [wz, wd, ws, Nat.reduceAdd, Nat.reduceSub, Nat.reduceMul, Nat.reduceLeDiff, Nat.reduceEqDiff, Nat.reduceLT, Nat.reduceBEq, reduceIte, reduceCtorEq, Int.reduceToNat, Nat.reduceShiftRight, Nat.reduceAnd, Nat.reduceBneDiff, Nat.reduceBNe, rv25, e_api_Disk, e_api_Write]
-- 41 consignor/consignorref01.Wide
def c41r0 : List Opn := [
  ⟨(some 4), none, .mv (.c (.s (.d (.str []))))⟩]
def c41r1 : List Opn := [
  ⟨(some 7), none, .bsl 1 []⟩, 
  ⟨(some 5), none, .mv (.t 7)⟩]
def c41r2 : List Opn := [
  ⟨(some 6), none, .mv (.c (.s (.d (.int .i64 0))))⟩]
def c41r3 : List Opn := [
  ⟨(some 8), none, .mv (.t 6)⟩, 
  ⟨(some 9), none, .mv (.t 1)⟩, 
  ⟨(some 10), none, .bin .lss (.t 8) (.t 9)⟩]
def c41r5 : List Opn := [
  ⟨(some 13), none, .mv (.t 5)⟩, 
  ⟨(some 14), none, .mv (.t 0)⟩, 
  ⟨(some 15), none, .bin .rem (.t 14) (.c (.s (.d (.int .u64 256))))⟩, 
  ⟨(some 16), none, .cv (.toInt .u8) (.t 15)⟩, 
  ⟨(some 17), none, .bsl 1 [(.t 16)]⟩, 
  ⟨(some 18), none, .app 1 1 false (.t 13) (.t 17)⟩, 
  ⟨(some 5), none, .mv (.t 18)⟩]
def c41r6 : List Opn := [
  ⟨(some 19), none, .mv (.t 0)⟩, 
  ⟨(some 20), none, .bin .quo (.t 19) (.c (.s (.d (.int .u64 256))))⟩, 
  ⟨(some 0), none, .mv (.t 20)⟩]
def c41r4 : List Opn := [
  ⟨(some 11), none, .mv (.t 6)⟩, 
  ⟨(some 12), none, .bin .add (.t 11) (.c (.s (.d (.int .i64 1))))⟩, 
  ⟨(some 6), none, .mv (.t 12)⟩]
def c41l7 : C := .seq (.seq (.reg c41r3 none [0, 1, 5, 6, 10]) (.cond (.t 10) (.skip) (.exit 0))) (.seq (.blk 1 (.seq (.reg c41r5 none [0, 1, 5, 6]) (.reg c41r6 none [0, 1, 5, 6]))) (.reg c41r4 none [0, 1, 5, 6]))
def c41r7 : List Opn := [
  ⟨(some 21), none, .mv (.t 5)⟩, 
  ⟨(some 22), none, .cv .b2s (.t 21)⟩, 
  ⟨(some 4), none, .mv (.t 22)⟩]
def c41 : C := .seq (.reg c41r0 none [0, 1]) (.seq (.reg c41r1 none [0, 1, 5]) (.seq (.seq (.reg c41r2 none [0, 1, 5, 6]) (.blk 0 (.loop c41l7))) (.seq (.reg c41r7 none [4]) (.ret))))
def k41 : List (Nat × List Nat) := [(7, [4]), (4, [0, 1, 5, 6]), (6, [0, 1, 5, 6]), (5, [0, 1, 5, 6]), (3, [0, 1, 5, 6, 10]), (2, [0, 1, 5, 6]), (1, [0, 1, 5]), (0, [0, 1])]
theorem cc41 : (Try.f41.body).bind (cC Try.prog 23 k41) = some c41 := by kernel_rfl
def rv41 : List RV := [.t 4]
theorem cr41 : cRVs Try.prog Try.f41.results.toList = some rv41 := by kernel_rfl
theorem f_ref01_Wide_l7_ok (size : Int) (y_ : Str) (R_ : St → Prop) (hR : (Ret Try.prog glP [] rv41 (.b (.s (.d (.str y_))))) = R_) : ∀ (m_ : Nat) (n2 : Int) (i : Int) (b : (List Int)) (res_ : Int × Int × (List Int)) (h : f_ref01_Wide_l7 size m_ n2 i b = some res_) (k_ : List It) (hx : ∀ s_ : Int × Int × (List Int), res_ = s_ → W Try.prog glP 23 k_ ⟨lkT [(0, .b (.s (.d (.int .u64 s_.1)))), (1, .b (.s (.d (.int .i64 size)))), (5, .b (.s (.own 7 s_.2.2.length))), (6, .b (.s (.d (.int .i64 s_.2.1))))], lkG [(7, ⟨1, er (eI .u8) s_.2.2, false⟩)]⟩ R_), W Try.prog glP 23 (.c c41l7 :: .lp c41l7 :: .blk 0 :: k_) ⟨lkT [(0, .b (.s (.d (.int .u64 n2)))), (1, .b (.s (.d (.int .i64 size)))), (5, .b (.s (.own 7 b.length))), (6, .b (.s (.d (.int .i64 i))))], lkG [(7, ⟨1, er (eI .u8) b, false⟩)]⟩ R_ := by
  intro m_; induction m_ with
  | zero => intro n2 i b res_ h; rw [f_ref01_Wide_l7.eq_1] at h; cases h
  | succ m_ ih =>
    intro n2 i b res_ h k_ hx; rw [f_ref01_Wide_l7.eq_2] at h; refine W.cdef c41l7.eq_1 ?_
    refine .seq ?_
    refine .seq ?_
    refine Rw.walk ?_
    simp only [wz, wd, ws, Nat.reduceAdd, Nat.reduceSub, Nat.reduceMul, Nat.reduceLeDiff, Nat.reduceEqDiff, Nat.reduceLT, Nat.reduceBEq, reduceIte, reduceCtorEq, Int.reduceToNat, Nat.reduceShiftRight, Nat.reduceAnd, Nat.reduceBneDiff, Nat.reduceBNe, c41r3, semI.eq_10, semI.eq_11, semI.eq_3, semI.eq_5, semI.eq_7]
    refine .cond (p := (decide (i < size))) (by first | rfl | simp only [wz, wd, ws, Nat.reduceAdd, Nat.reduceSub, Nat.reduceMul, Nat.reduceLeDiff, Nat.reduceEqDiff, Nat.reduceLT, Nat.reduceBEq, reduceIte, reduceCtorEq, Int.reduceToNat, Nat.reduceShiftRight, Nat.reduceAnd, Nat.reduceBneDiff, Nat.reduceBNe]) (fun h1 => ?_) (fun h1 => ?_)
    · rw [ite_t h1] at h
      refine .skip ?_
      refine .seq ?_
      refine .blk ?_
      refine .seq ?_
      refine Rw.walk ?_
      simp only [wz, wd, ws, Nat.reduceAdd, Nat.reduceSub, Nat.reduceMul, Nat.reduceLeDiff, Nat.reduceEqDiff, Nat.reduceLT, Nat.reduceBEq, reduceIte, reduceCtorEq, Int.reduceToNat, Nat.reduceShiftRight, Nat.reduceAnd, Nat.reduceBneDiff, Nat.reduceBNe, c41r5, semI.eq_10, semI.eq_11, semI.eq_3, semI.eq_5, semI.eq_7]
      repeat (refine And.intro ?_ ?_; · first | omega | (simp only [List.length_append, List.length_cons, List.length_nil] at *; omega) | (intro q; simp only [wz, wd, ws, Nat.reduceAdd, Nat.reduceSub, Nat.reduceMul, Nat.reduceLeDiff, Nat.reduceEqDiff, Nat.reduceLT, Nat.reduceBEq, reduceIte, reduceCtorEq, Int.reduceToNat, Nat.reduceShiftRight, Nat.reduceAnd, Nat.reduceBneDiff, Nat.reduceBNe, q]; done))
      refine Go1.of (sem_bsl (enc := (eI .u8)) (m := ([(IntKind.u8.wrap (n2.tmod 256))] : List Int)) (eI_len _) (by rfl) (by rfl) (by rfl) ⟨trivial, trivial⟩) ?_
      simp only [wz, wd, ws, Nat.reduceAdd, Nat.reduceSub, Nat.reduceMul, Nat.reduceLeDiff, Nat.reduceEqDiff, Nat.reduceLT, Nat.reduceBEq, reduceIte, reduceCtorEq, Int.reduceToNat, Nat.reduceShiftRight, Nat.reduceAnd, Nat.reduceBneDiff, Nat.reduceBNe, c41r5, semI.eq_10, semI.eq_11, semI.eq_3, semI.eq_5, semI.eq_7]
      obtain ⟨g1, h⟩ := gd_iff.1 h
      refine Go1.of (sem_app (enc := (eI .u8)) (l := b) (m := ([(IntKind.u8.wrap (n2.tmod 256))] : List Int)) (eI_len _) (by rfl) (by rfl) (newV_own (m := ([(IntKind.u8.wrap (n2.tmod 256))] : List Int)) (by rfl) (by rfl))) ?_
      simp only [wz, wd, ws, Nat.reduceAdd, Nat.reduceSub, Nat.reduceMul, Nat.reduceLeDiff, Nat.reduceEqDiff, Nat.reduceLT, Nat.reduceBEq, reduceIte, reduceCtorEq, Int.reduceToNat, Nat.reduceShiftRight, Nat.reduceAnd, Nat.reduceBneDiff, Nat.reduceBNe, c41r5, semI.eq_10, semI.eq_11, semI.eq_3, semI.eq_5, semI.eq_7]
      repeat (refine And.intro ?_ ?_; · first | omega | (simp only [List.length_append, List.length_cons, List.length_nil] at *; omega) | (intro q; simp only [wz, wd, ws, Nat.reduceAdd, Nat.reduceSub, Nat.reduceMul, Nat.reduceLeDiff, Nat.reduceEqDiff, Nat.reduceLT, Nat.reduceBEq, reduceIte, reduceCtorEq, Int.reduceToNat, Nat.reduceShiftRight, Nat.reduceAnd, Nat.reduceBneDiff, Nat.reduceBNe, q]; done))
      refine Rw.walk ?_
      simp only [wz, wd, ws, Nat.reduceAdd, Nat.reduceSub, Nat.reduceMul, Nat.reduceLeDiff, Nat.reduceEqDiff, Nat.reduceLT, Nat.reduceBEq, reduceIte, reduceCtorEq, Int.reduceToNat, Nat.reduceShiftRight, Nat.reduceAnd, Nat.reduceBneDiff, Nat.reduceBNe, c41r6, semI.eq_10, semI.eq_11, semI.eq_3, semI.eq_5, semI.eq_7]
      repeat (refine And.intro ?_ ?_; · first | omega | (simp only [List.length_append, List.length_cons, List.length_nil] at *; omega) | (intro q; simp only [wz, wd, ws, Nat.reduceAdd, Nat.reduceSub, Nat.reduceMul, Nat.reduceLeDiff, Nat.reduceEqDiff, Nat.reduceLT, Nat.reduceBEq, reduceIte, reduceCtorEq, Int.reduceToNat, Nat.reduceShiftRight, Nat.reduceAnd, Nat.reduceBneDiff, Nat.reduceBNe, q]; done))
      refine .eblk ?_
      refine Rw.walk ?_
      simp only [wz, wd, ws, Nat.reduceAdd, Nat.reduceSub, Nat.reduceMul, Nat.reduceLeDiff, Nat.reduceEqDiff, Nat.reduceLT, Nat.reduceBEq, reduceIte, reduceCtorEq, Int.reduceToNat, Nat.reduceShiftRight, Nat.reduceAnd, Nat.reduceBneDiff, Nat.reduceBNe, c41r4, semI.eq_10, semI.eq_11, semI.eq_3, semI.eq_5, semI.eq_7]
      refine .lp ?_
      refine .weak (Imp.co [] _ _ ?_ ?_ ?_ ?_ ?_) (ih (IntKind.u64.wrap (n2.tdiv 256)) (IntKind.i64.wrap (i + 1)) (b ++ ([(IntKind.u8.wrap (n2.tmod 256))] : List Int)) _ h k_ hx) <;> simp only [wz, wd, ws, Nat.reduceAdd, Nat.reduceSub, Nat.reduceMul, Nat.reduceLeDiff, Nat.reduceEqDiff, Nat.reduceLT, Nat.reduceBEq, reduceIte, reduceCtorEq, Int.reduceToNat, Nat.reduceShiftRight, Nat.reduceAnd, Nat.reduceBneDiff, Nat.reduceBNe, wi, er_nil]
    · rw [ite_f h1] at h
      refine .exit rfl ?_
      obtain rfl := Option.some.inj h
      refine .weak (Imp.co [] _ _ ?_ ?_ ?_ ?_ ?_) (hx _ rfl) <;> simp only [wz, wd, ws, Nat.reduceAdd, Nat.reduceSub, Nat.reduceMul, Nat.reduceLeDiff, Nat.reduceEqDiff, Nat.reduceLT, Nat.reduceBEq, reduceIte, reduceCtorEq, Int.reduceToNat, Nat.reduceShiftRight, Nat.reduceAnd, Nat.reduceBneDiff, Nat.reduceBNe, wi, er_nil]
theorem f_ref01_Wide_ok (n : Int) (size : Int) (y_ : Str) (h : f_ref01_Wide n size = some y_) : Fun Try.prog glP 41 [.b (.s (.d (.int .u64 n))), .b (.s (.d (.int .i64 size)))] (.b (.s (.d (.str y_)))) := by
  refine fun_walk [] Try.func41 Try.ntmps41 cc41 cr41 (by kernel_rfl) (by simp only [List.length_cons, List.length_nil]; decide) ?_
  generalize hR : Ret _ _ _ _ _ = R_
  simp only [wz, wd, ws, Nat.reduceAdd, Nat.reduceSub, Nat.reduceMul, Nat.reduceLeDiff, Nat.reduceEqDiff, Nat.reduceLT, Nat.reduceBEq, reduceIte, reduceCtorEq, Int.reduceToNat, Nat.reduceShiftRight, Nat.reduceAnd, Nat.reduceBneDiff, Nat.reduceBNe]
  unfold f_ref01_Wide at h; unfold c41
  refine .seq ?_
  refine Rw.walk ?_
  simp only [wz, wd, ws, Nat.reduceAdd, Nat.reduceSub, Nat.reduceMul, Nat.reduceLeDiff, Nat.reduceEqDiff, Nat.reduceLT, Nat.reduceBEq, reduceIte, reduceCtorEq, Int.reduceToNat, Nat.reduceShiftRight, Nat.reduceAnd, Nat.reduceBneDiff, Nat.reduceBNe, c41r0, semI.eq_10, semI.eq_11, semI.eq_3, semI.eq_5, semI.eq_7]
  refine .seq ?_
  refine Rw.walk ?_
  simp only [wz, wd, ws, Nat.reduceAdd, Nat.reduceSub, Nat.reduceMul, Nat.reduceLeDiff, Nat.reduceEqDiff, Nat.reduceLT, Nat.reduceBEq, reduceIte, reduceCtorEq, Int.reduceToNat, Nat.reduceShiftRight, Nat.reduceAnd, Nat.reduceBneDiff, Nat.reduceBNe, c41r1, semI.eq_10, semI.eq_11, semI.eq_3, semI.eq_5, semI.eq_7]
  refine Go1.of (sem_bsl (enc := (eI .u8)) (m := ([] : List Int)) (eI_len _) (by rfl) (by rfl) (by rfl) trivial) ?_
  simp only [wz, wd, ws, Nat.reduceAdd, Nat.reduceSub, Nat.reduceMul, Nat.reduceLeDiff, Nat.reduceEqDiff, Nat.reduceLT, Nat.reduceBEq, reduceIte, reduceCtorEq, Int.reduceToNat, Nat.reduceShiftRight, Nat.reduceAnd, Nat.reduceBneDiff, Nat.reduceBNe, c41r1, semI.eq_10, semI.eq_11, semI.eq_3, semI.eq_5, semI.eq_7]
  refine .seq ?_
  refine .seq ?_
  refine Rw.walk ?_
  simp only [wz, wd, ws, Nat.reduceAdd, Nat.reduceSub, Nat.reduceMul, Nat.reduceLeDiff, Nat.reduceEqDiff, Nat.reduceLT, Nat.reduceBEq, reduceIte, reduceCtorEq, Int.reduceToNat, Nat.reduceShiftRight, Nat.reduceAnd, Nat.reduceBneDiff, Nat.reduceBNe, c41r2, semI.eq_10, semI.eq_11, semI.eq_3, semI.eq_5, semI.eq_7]
  refine .blk ?_
  obtain ⟨s, hf, h⟩ := Option.bind_eq_some_iff.1 h
  refine .loop (.weak (Imp.co [] _ _ ?c1 ?c2 ?c3 ?c4 ?c5) (f_ref01_Wide_l7_ok size _ _ hR _ _ _ _ _ hf _ ?_))
  case c1 | c2 | c3 | c4 | c5 => simp only [wz, wd, ws, Nat.reduceAdd, Nat.reduceSub, Nat.reduceMul, Nat.reduceLeDiff, Nat.reduceEqDiff, Nat.reduceLT, Nat.reduceBEq, reduceIte, reduceCtorEq, Int.reduceToNat, Nat.reduceShiftRight, Nat.reduceAnd, Nat.reduceBneDiff, Nat.reduceBNe, wi, er_nil]
  · intro s_ hs; subst hs
    refine .seq ?_
    refine Rw.walk ?_
    simp only [wz, wd, ws, Nat.reduceAdd, Nat.reduceSub, Nat.reduceMul, Nat.reduceLeDiff, Nat.reduceEqDiff, Nat.reduceLT, Nat.reduceBEq, reduceIte, reduceCtorEq, Int.reduceToNat, Nat.reduceShiftRight, Nat.reduceAnd, Nat.reduceBneDiff, Nat.reduceBNe, c41r7, semI.eq_10, semI.eq_11, semI.eq_3, semI.eq_5, semI.eq_7]
    refine Go1.of (sem_b2s (n := s.2.2) (rowsV_own (m := s.2.2) (by rfl) (by rfl))) ?_
    simp only [wz, wd, ws, Nat.reduceAdd, Nat.reduceSub, Nat.reduceMul, Nat.reduceLeDiff, Nat.reduceEqDiff, Nat.reduceLT, Nat.reduceBEq, reduceIte, reduceCtorEq, Int.reduceToNat, Nat.reduceShiftRight, Nat.reduceAnd, Nat.reduceBneDiff, Nat.reduceBNe, c41r7, semI.eq_10, semI.eq_11, semI.eq_3, semI.eq_5, semI.eq_7]
    obtain rfl := Option.some.inj h
    refine .ret ?_
    rw [← hR]
    simp only [wz, wd, ws, Nat.reduceAdd, Nat.reduceSub, Nat.reduceMul, Nat.reduceLeDiff, Nat.reduceEqDiff, Nat.reduceLT, Nat.reduceBEq, reduceIte, reduceCtorEq, Int.reduceToNat, Nat.reduceShiftRight, Nat.reduceAnd, Nat.reduceBneDiff, Nat.reduceBNe, rv41]
-- 15 consignor/consignorref10.Head
def c15r0 : List Opn := [
  ⟨(some 4), none, .mv (.c (.s (.d (.str []))))⟩]
def c15r1 : List Opn := [
  ⟨(some 6), none, .mv (.t 0)⟩, 
  ⟨(some 7), none, .cv (.toInt .u64) (.t 6)⟩, 
  ⟨(some 8), none, .call (.fn 41) [(.t 7), (.c (.s (.d (.int .i64 6))))]⟩, 
  ⟨(some 9), none, .bin .add (.c (.s (.d (.str [108, 101, 100])))) (.t 8)⟩, 
  ⟨(some 10), none, .mv (.t 1)⟩, 
  ⟨(some 11), none, .cv (.toInt .u64) (.t 10)⟩, 
  ⟨(some 12), none, .call (.fn 41) [(.t 11), (.c (.s (.d (.int .i64 3))))]⟩, 
  ⟨(some 13), none, .bin .add (.t 9) (.t 12)⟩, 
  ⟨(some 5), none, .mv (.t 13)⟩]
def c15r2 : List Opn := [
  ⟨(some 14), none, .mv (.t 5)⟩, 
  ⟨(some 15), none, .len .str (.t 14)⟩, 
  ⟨(some 16), none, .bin .lss (.t 15) (.c (.s (.d (.int .i64 128))))⟩]
def c15r3 : List Opn := [
  ⟨(some 17), none, .mv (.t 5)⟩, 
  ⟨(some 18), none, .bin .add (.t 17) (.c (.s (.d (.str [0]))))⟩, 
  ⟨(some 5), none, .mv (.t 18)⟩]
def c15l4 : C := .seq (.seq (.reg c15r2 none [5, 16]) (.cond (.t 16) (.skip) (.exit 0))) (.blk 1 (.reg c15r3 none [5]))
def c15r4 : List Opn := [
  ⟨(some 19), none, .mv (.t 5)⟩, 
  ⟨(some 4), none, .mv (.t 19)⟩]
def c15 : C := .seq (.reg c15r0 none [0, 1]) (.seq (.reg c15r1 none [5]) (.seq (.blk 0 (.loop c15l4)) (.seq (.reg c15r4 none [4]) (.ret))))
def k15 : List (Nat × List Nat) := [(4, [4]), (3, [5]), (2, [5, 16]), (1, [5]), (0, [0, 1])]
theorem cc15 : (Try.f15.body).bind (cC Try.prog 20 k15) = some c15 := by kernel_rfl
def rv15 : List RV := [.t 4]
theorem cr15 : cRVs Try.prog Try.f15.results.toList = some rv15 := by kernel_rfl
theorem f_ref10_Head_l4_ok (y_ : Str) (R_ : St → Prop) (hR : (Ret Try.prog glP [] rv15 (.b (.s (.d (.str y_))))) = R_) : ∀ (m_ : Nat) (s : Str) (res_ : Str) (h : f_ref10_Head_l4 m_ s = some res_) (k_ : List It) (hx : ∀ s_ : Str, res_ = s_ → W Try.prog glP 20 k_ ⟨lkT [(5, .b (.s (.d (.str s_))))], lkG []⟩ R_), W Try.prog glP 20 (.c c15l4 :: .lp c15l4 :: .blk 0 :: k_) ⟨lkT [(5, .b (.s (.d (.str s))))], lkG []⟩ R_ := by
  intro m_; induction m_ with
  | zero => intro s res_ h; rw [f_ref10_Head_l4_e1] at h; cases h
  | succ m_ ih =>
    intro s res_ h k_ hx; rw [f_ref10_Head_l4_e2] at h; refine W.cdef c15l4.eq_1 ?_
    refine .seq ?_
    refine .seq ?_
    refine Rw.walk ?_
    simp only [wz, wd, ws, Nat.reduceAdd, Nat.reduceSub, Nat.reduceMul, Nat.reduceLeDiff, Nat.reduceEqDiff, Nat.reduceLT, Nat.reduceBEq, reduceIte, reduceCtorEq, Int.reduceToNat, Nat.reduceShiftRight, Nat.reduceAnd, Nat.reduceBneDiff, Nat.reduceBNe, c15r2, semI.eq_10, semI.eq_11, semI.eq_3, semI.eq_5, semI.eq_7]
    refine .cond (p := (decide ((s.length : Int) < 128))) (by first | rfl | simp only [wz, wd, ws, Nat.reduceAdd, Nat.reduceSub, Nat.reduceMul, Nat.reduceLeDiff, Nat.reduceEqDiff, Nat.reduceLT, Nat.reduceBEq, reduceIte, reduceCtorEq, Int.reduceToNat, Nat.reduceShiftRight, Nat.reduceAnd, Nat.reduceBneDiff, Nat.reduceBNe]) (fun h1 => ?_) (fun h1 => ?_)
    · rw [ite_t h1] at h
      refine .skip ?_
      refine .blk ?_
      refine Rw.walk ?_
      obtain ⟨g5, h⟩ := gd_iff.1 h
      simp only [wz, wd, ws, Nat.reduceAdd, Nat.reduceSub, Nat.reduceMul, Nat.reduceLeDiff, Nat.reduceEqDiff, Nat.reduceLT, Nat.reduceBEq, reduceIte, reduceCtorEq, Int.reduceToNat, Nat.reduceShiftRight, Nat.reduceAnd, Nat.reduceBneDiff, Nat.reduceBNe, c15r3, semI.eq_10, semI.eq_11, semI.eq_3, semI.eq_5, semI.eq_7]
      repeat (refine And.intro ?_ ?_; · first | omega | (simp only [List.length_append, List.length_cons, List.length_nil] at *; omega) | (intro q; simp only [wz, wd, ws, Nat.reduceAdd, Nat.reduceSub, Nat.reduceMul, Nat.reduceLeDiff, Nat.reduceEqDiff, Nat.reduceLT, Nat.reduceBEq, reduceIte, reduceCtorEq, Int.reduceToNat, Nat.reduceShiftRight, Nat.reduceAnd, Nat.reduceBneDiff, Nat.reduceBNe, q]; done))
      refine .eblk ?_
      refine .lp ?_
      refine .weak (Imp.co [] _ _ ?_ ?_ ?_ ?_ ?_) (ih (s ++ ([0] : Str)) _ h k_ hx) <;> simp only [wz, wd, ws, Nat.reduceAdd, Nat.reduceSub, Nat.reduceMul, Nat.reduceLeDiff, Nat.reduceEqDiff, Nat.reduceLT, Nat.reduceBEq, reduceIte, reduceCtorEq, Int.reduceToNat, Nat.reduceShiftRight, Nat.reduceAnd, Nat.reduceBneDiff, Nat.reduceBNe, wi, er_nil]
    · rw [ite_f h1] at h
      refine .exit rfl ?_
      obtain rfl := Option.some.inj h
      refine .weak (Imp.co [] _ _ ?_ ?_ ?_ ?_ ?_) (hx _ rfl) <;> simp only [wz, wd, ws, Nat.reduceAdd, Nat.reduceSub, Nat.reduceMul, Nat.reduceLeDiff, Nat.reduceEqDiff, Nat.reduceLT, Nat.reduceBEq, reduceIte, reduceCtorEq, Int.reduceToNat, Nat.reduceShiftRight, Nat.reduceAnd, Nat.reduceBneDiff, Nat.reduceBNe, wi, er_nil]
theorem f_ref10_Head_ok (gen : Int) (used : Int) (y_ : Str) (h : f_ref10_Head gen used = some y_) : Fun Try.prog glP 15 [.b (.s (.d (.int .i64 gen))), .b (.s (.d (.int .i64 used)))] (.b (.s (.d (.str y_)))) := by
  refine fun_walk [] Try.func15 Try.ntmps15 cc15 cr15 (by kernel_rfl) (by simp only [List.length_cons, List.length_nil]; decide) ?_
  generalize hR : Ret _ _ _ _ _ = R_
  simp only [wz, wd, ws, Nat.reduceAdd, Nat.reduceSub, Nat.reduceMul, Nat.reduceLeDiff, Nat.reduceEqDiff, Nat.reduceLT, Nat.reduceBEq, reduceIte, reduceCtorEq, Int.reduceToNat, Nat.reduceShiftRight, Nat.reduceAnd, Nat.reduceBneDiff, Nat.reduceBNe]
  unfold f_ref10_Head at h; unfold c15
  refine .seq ?_
  refine Rw.walk ?_
  simp only [wz, wd, ws, Nat.reduceAdd, Nat.reduceSub, Nat.reduceMul, Nat.reduceLeDiff, Nat.reduceEqDiff, Nat.reduceLT, Nat.reduceBEq, reduceIte, reduceCtorEq, Int.reduceToNat, Nat.reduceShiftRight, Nat.reduceAnd, Nat.reduceBneDiff, Nat.reduceBNe, c15r0, semI.eq_10, semI.eq_11, semI.eq_3, semI.eq_5, semI.eq_7]
  refine .seq ?_
  refine Rw.walk ?_
  simp only [wz, wd, ws, Nat.reduceAdd, Nat.reduceSub, Nat.reduceMul, Nat.reduceLeDiff, Nat.reduceEqDiff, Nat.reduceLT, Nat.reduceBEq, reduceIte, reduceCtorEq, Int.reduceToNat, Nat.reduceShiftRight, Nat.reduceAnd, Nat.reduceBneDiff, Nat.reduceBNe, c15r1, semI.eq_10, semI.eq_11, semI.eq_3, semI.eq_5, semI.eq_7]
  obtain ⟨t, e1, h⟩ := Option.bind_eq_some_iff.1 h
  refine call_fun [] false ⟨trivial, trivial, trivial, trivial⟩ rfl ?_ (f_ref01_Wide_ok _ _ _ e1) (fun _ => rfl) (fun i hi => by cases hi) ?_
  · simp only [wz, wd, ws, Nat.reduceAdd, Nat.reduceSub, Nat.reduceMul, Nat.reduceLeDiff, Nat.reduceEqDiff, Nat.reduceLT, Nat.reduceBEq, reduceIte, reduceCtorEq, Int.reduceToNat, Nat.reduceShiftRight, Nat.reduceAnd, Nat.reduceBneDiff, Nat.reduceBNe]
  simp only [wz, wd, ws, Nat.reduceAdd, Nat.reduceSub, Nat.reduceMul, Nat.reduceLeDiff, Nat.reduceEqDiff, Nat.reduceLT, Nat.reduceBEq, reduceIte, reduceCtorEq, Int.reduceToNat, Nat.reduceShiftRight, Nat.reduceAnd, Nat.reduceBneDiff, Nat.reduceBNe, c15r1, semI.eq_10, semI.eq_11, semI.eq_3, semI.eq_5, semI.eq_7]
  obtain ⟨g2, h⟩ := gd_iff.1 h
  repeat (refine And.intro ?_ ?_; · first | omega | (simp only [List.length_append, List.length_cons, List.length_nil] at *; omega) | (intro q; simp only [wz, wd, ws, Nat.reduceAdd, Nat.reduceSub, Nat.reduceMul, Nat.reduceLeDiff, Nat.reduceEqDiff, Nat.reduceLT, Nat.reduceBEq, reduceIte, reduceCtorEq, Int.reduceToNat, Nat.reduceShiftRight, Nat.reduceAnd, Nat.reduceBneDiff, Nat.reduceBNe, q]; done))
  obtain ⟨t2, e3, h⟩ := Option.bind_eq_some_iff.1 h
  refine call_fun [] false ⟨trivial, trivial, trivial, trivial⟩ rfl ?_ (f_ref01_Wide_ok _ _ _ e3) (fun _ => rfl) (fun i hi => by cases hi) ?_
  · simp only [wz, wd, ws, Nat.reduceAdd, Nat.reduceSub, Nat.reduceMul, Nat.reduceLeDiff, Nat.reduceEqDiff, Nat.reduceLT, Nat.reduceBEq, reduceIte, reduceCtorEq, Int.reduceToNat, Nat.reduceShiftRight, Nat.reduceAnd, Nat.reduceBneDiff, Nat.reduceBNe]
  simp only [wz, wd, ws, Nat.reduceAdd, Nat.reduceSub, Nat.reduceMul, Nat.reduceLeDiff, Nat.reduceEqDiff, Nat.reduceLT, Nat.reduceBEq, reduceIte, reduceCtorEq, Int.reduceToNat, Nat.reduceShiftRight, Nat.reduceAnd, Nat.reduceBneDiff, Nat.reduceBNe, c15r1, semI.eq_10, semI.eq_11, semI.eq_3, semI.eq_5, semI.eq_7]
  obtain ⟨g4, h⟩ := gd_iff.1 h
  repeat (refine And.intro ?_ ?_; · first | omega | (simp only [List.length_append, List.length_cons, List.length_nil] at *; omega) | (intro q; simp only [wz, wd, ws, Nat.reduceAdd, Nat.reduceSub, Nat.reduceMul, Nat.reduceLeDiff, Nat.reduceEqDiff, Nat.reduceLT, Nat.reduceBEq, reduceIte, reduceCtorEq, Int.reduceToNat, Nat.reduceShiftRight, Nat.reduceAnd, Nat.reduceBneDiff, Nat.reduceBNe, q]; done))
  refine .seq ?_
  refine .blk ?_
  obtain ⟨s, hf, h⟩ := Option.bind_eq_some_iff.1 h
  refine .loop (.weak (Imp.co [] _ _ ?c1 ?c2 ?c3 ?c4 ?c5) (f_ref10_Head_l4_ok _ _ hR _ _ _ hf _ ?_))
  case c1 | c2 | c3 | c4 | c5 => simp only [wz, wd, ws, Nat.reduceAdd, Nat.reduceSub, Nat.reduceMul, Nat.reduceLeDiff, Nat.reduceEqDiff, Nat.reduceLT, Nat.reduceBEq, reduceIte, reduceCtorEq, Int.reduceToNat, Nat.reduceShiftRight, Nat.reduceAnd, Nat.reduceBneDiff, Nat.reduceBNe, wi, er_nil]
  · intro s_ hs; subst hs
    refine .seq ?_
    refine Rw.walk ?_
    simp only [wz, wd, ws, Nat.reduceAdd, Nat.reduceSub, Nat.reduceMul, Nat.reduceLeDiff, Nat.reduceEqDiff, Nat.reduceLT, Nat.reduceBEq, reduceIte, reduceCtorEq, Int.reduceToNat, Nat.reduceShiftRight, Nat.reduceAnd, Nat.reduceBneDiff, Nat.reduceBNe, c15r4, semI.eq_10, semI.eq_11, semI.eq_3, semI.eq_5, semI.eq_7]
    obtain rfl := Option.some.inj h
    refine .ret ?_
    rw [← hR]
    simp only [wz, wd, ws, Nat.reduceAdd, Nat.reduceSub, Nat.reduceMul, Nat.reduceLeDiff, Nat.reduceEqDiff, Nat.reduceLT, Nat.reduceBEq, reduceIte, reduceCtorEq, Int.reduceToNat, Nat.reduceShiftRight, Nat.reduceAnd, Nat.reduceBneDiff, Nat.reduceBNe, rv15]
-- 36 consignor/consignorref10.Gen
def c36r0 : List Opn := [
  ⟨(some 2), none, .box 2 (.t 0)⟩, 
  ⟨(some 4), none, .mv (.c (.s (.d (.int .i64 0))))⟩]
def c36r1 : List Opn := [
  ⟨(some 8), none, .fadr 0 (.t 2)⟩, 
  ⟨(some 9), none, .load false 1 (.t 8)⟩, 
  ⟨(some 10), none, .load true 2 (.t 2)⟩, 
  ⟨(some 11), none, .mv (.t 1)⟩, 
  ⟨(some 12), none, .call (.fn 29) [(.t 10), (.t 11)]⟩, 
  ⟨(some 13), none, .iadr (.sl 1) (.t 9) (.t 12)⟩, 
  ⟨(some 14), none, .load false 1 (.t 13)⟩, 
  ⟨(some 5), none, .mv (.t 14)⟩]
def c36r2 : List Opn := [
  ⟨(some 15), none, .mv (.t 5)⟩, 
  ⟨(some 16), none, .slc .str (.t 15) (some (.c (.s (.d (.int .i64 3))))) (some (.c (.s (.d (.int .i64 9))))) none⟩, 
  ⟨(some 17), none, .call (.fn 55) [(.t 16)]⟩, 
  ⟨(some 6), none, .mv (.t 17)⟩]
def c36r3 : List Opn := [
  ⟨(some 18), none, .mv (.t 5)⟩, 
  ⟨(some 19), none, .slc .str (.t 18) (some (.c (.s (.d (.int .i64 9))))) (some (.c (.s (.d (.int .i64 12))))) none⟩, 
  ⟨(some 20), none, .call (.fn 55) [(.t 19)]⟩, 
  ⟨(some 7), none, .mv (.t 20)⟩]
def c36r4 : List Opn := [
  ⟨(some 21), none, .mv (.t 6)⟩, 
  ⟨(some 22), none, .bin .lss (.t 21) (.c (.s (.d (.int .u64 1))))⟩, 
  ⟨(some 23), none, .mv (.t 22)⟩, 
  ⟨(some 24), some (23, false), .mv (.t 6)⟩, 
  ⟨(some 25), some (23, false), .bin .gtr (.t 24) (.c (.s (.d (.int .u64 1099511627776))))⟩, 
  ⟨(some 26), none, .pick (.t 23) (.c (.s (.d (.bool true)))) (.t 25)⟩, 
  ⟨(some 27), none, .mv (.t 26)⟩, 
  ⟨(some 28), some (27, false), .mv (.t 7)⟩, 
  ⟨(some 29), some (27, false), .load true 2 (.t 2)⟩, 
  ⟨(some 30), some (27, false), .mv (.t 1)⟩, 
  ⟨(some 31), some (27, false), .call (.fn 25) [(.t 29), (.t 30)]⟩, 
  ⟨(some 32), some (27, false), .len .str (.t 31)⟩, 
  ⟨(some 33), some (27, false), .cv (.toInt .u64) (.t 32)⟩, 
  ⟨(some 34), some (27, false), .bin .gtr (.t 28) (.t 33)⟩, 
  ⟨(some 35), none, .pick (.t 27) (.c (.s (.d (.bool true)))) (.t 34)⟩, 
  ⟨(some 36), none, .mv (.t 35)⟩, 
  ⟨(some 37), some (36, false), .mv (.t 6)⟩, 
  ⟨(some 38), some (36, false), .cv (.toInt .i64) (.t 37)⟩, 
  ⟨(some 39), some (36, false), .mv (.t 7)⟩, 
  ⟨(some 40), some (36, false), .cv (.toInt .i64) (.t 39)⟩, 
  ⟨(some 41), some (36, false), .call (.fn 15) [(.t 38), (.t 40)]⟩, 
  ⟨(some 42), some (36, false), .mv (.t 5)⟩, 
  ⟨(some 43), some (36, false), .bin .neq (.t 41) (.t 42)⟩, 
  ⟨(some 44), none, .pick (.t 36) (.c (.s (.d (.bool true)))) (.t 43)⟩]
def c36r5 : List Opn := [
  ⟨(some 4), none, .mv (.c (.s (.d (.int .i64 0))))⟩]
def c36r6 : List Opn := [
  ⟨(some 45), none, .mv (.t 6)⟩, 
  ⟨(some 46), none, .cv (.toInt .i64) (.t 45)⟩, 
  ⟨(some 4), none, .mv (.t 46)⟩]
def c36 : C := .seq (.reg c36r0 none [1, 2]) (.seq (.reg c36r1 (some [0, 1, 0, 0, 12, 31, 63, 127]) [1, 2, 5]) (.seq (.reg c36r2 none [1, 2, 5, 6]) (.seq (.reg c36r3 none [1, 2, 5, 6, 7]) (.seq (.seq (.reg c36r4 none [6, 44]) (.cond (.t 44) (.seq (.reg c36r5 none [4]) (.ret)) (.skip))) (.seq (.reg c36r6 none [4]) (.ret))))))
def k36 : List (Nat × List Nat) := [(6, [4]), (5, [4]), (4, [6, 44]), (3, [1, 2, 5, 6, 7]), (2, [1, 2, 5, 6]), (1, [1, 2, 5]), (0, [1, 2])]
theorem cc36 : (Try.f36.body).bind (cC Try.prog 47 k36) = some c36 := by kernel_rfl
def rv36 : List RV := [.t 4]
theorem cr36 : cRVs Try.prog Try.f36.results.toList = some rv36 := by kernel_rfl
theorem f_ref10_Gen_ok (d : api_Disk) (half : Int) (y_ : Int) (h : f_ref10_Gen d half = some y_) : Fun Try.prog glP 36 [.b (.agg ((e_api_Disk d).map Lc.d)), .b (.s (.d (.int .i64 half)))] (.b (.s (.d (.int .i64 y_)))) := by
  refine fun_walk [] Try.func36 Try.ntmps36 cc36 cr36 (by kernel_rfl) (by simp only [List.length_cons, List.length_nil]; decide) ?_
  generalize hR : Ret _ _ _ _ _ = R_
  simp only [wz, wd, ws, Nat.reduceAdd, Nat.reduceSub, Nat.reduceMul, Nat.reduceLeDiff, Nat.reduceEqDiff, Nat.reduceLT, Nat.reduceBEq, reduceIte, reduceCtorEq, Int.reduceToNat, Nat.reduceShiftRight, Nat.reduceAnd, Nat.reduceBneDiff, Nat.reduceBNe, e_api_Disk, e_api_Write]
  unfold f_ref10_Gen at h; unfold c36
  refine .seq ?_
  refine Rw.walk ?_
  simp only [wz, wd, ws, Nat.reduceAdd, Nat.reduceSub, Nat.reduceMul, Nat.reduceLeDiff, Nat.reduceEqDiff, Nat.reduceLT, Nat.reduceBEq, reduceIte, reduceCtorEq, Int.reduceToNat, Nat.reduceShiftRight, Nat.reduceAnd, Nat.reduceBneDiff, Nat.reduceBNe, c36r0, semI.eq_10, semI.eq_11, semI.eq_3, semI.eq_5, semI.eq_7, e_api_Disk, e_api_Write]
  refine .seq ?_
  refine RwD.walk ?_
  simp only [wz, wd, ws, Nat.reduceAdd, Nat.reduceSub, Nat.reduceMul, Nat.reduceLeDiff, Nat.reduceEqDiff, Nat.reduceLT, Nat.reduceBEq, reduceIte, reduceCtorEq, Int.reduceToNat, Nat.reduceShiftRight, Nat.reduceAnd, Nat.reduceBneDiff, Nat.reduceBNe, c36r1, semI.eq_10, semI.eq_11, semI.eq_3, semI.eq_5, semI.eq_7, e_api_Disk, e_api_Write]
  obtain ⟨t, e1, h⟩ := Option.bind_eq_some_iff.1 h
  refine call_fun [] false ⟨trivial, trivial, trivial, trivial⟩ rfl ?_ (f_ref10_At_ok _ _ _ e1) (fun _ => rfl) (fun i hi => by cases hi) ?_
  · simp only [wz, wd, ws, Nat.reduceAdd, Nat.reduceSub, Nat.reduceMul, Nat.reduceLeDiff, Nat.reduceEqDiff, Nat.reduceLT, Nat.reduceBEq, reduceIte, reduceCtorEq, Int.reduceToNat, Nat.reduceShiftRight, Nat.reduceAnd, Nat.reduceBneDiff, Nat.reduceBNe, e_api_Disk, e_api_Write]
  simp only [wz, wd, ws, Nat.reduceAdd, Nat.reduceSub, Nat.reduceMul, Nat.reduceLeDiff, Nat.reduceEqDiff, Nat.reduceLT, Nat.reduceBEq, reduceIte, reduceCtorEq, Int.reduceToNat, Nat.reduceShiftRight, Nat.reduceAnd, Nat.reduceBneDiff, Nat.reduceBNe, c36r1, semI.eq_10, semI.eq_11, semI.eq_3, semI.eq_5, semI.eq_7, e_api_Disk, e_api_Write]
  obtain ⟨x, e2, h⟩ := Option.bind_eq_some_iff.1 h
  refine GoD1.of (sem_iadr eS_len e2 (by rfl) (by rfl)) ?_
  simp only [wz, wd, ws, Nat.reduceAdd, Nat.reduceSub, Nat.reduceMul, Nat.reduceLeDiff, Nat.reduceEqDiff, Nat.reduceLT, Nat.reduceBEq, reduceIte, reduceCtorEq, Int.reduceToNat, Nat.reduceShiftRight, Nat.reduceAnd, Nat.reduceBneDiff, Nat.reduceBNe, c36r1, semI.eq_10, semI.eq_11, semI.eq_3, semI.eq_5, semI.eq_7, e_api_Disk, e_api_Write]
  refine .seq ?_
  refine Rw.walk ?_
  obtain ⟨g3, h⟩ := gd_iff.1 h
  simp only [wz, wd, ws, Nat.reduceAdd, Nat.reduceSub, Nat.reduceMul, Nat.reduceLeDiff, Nat.reduceEqDiff, Nat.reduceLT, Nat.reduceBEq, reduceIte, reduceCtorEq, Int.reduceToNat, Nat.reduceShiftRight, Nat.reduceAnd, Nat.reduceBneDiff, Nat.reduceBNe, c36r2, semI.eq_10, semI.eq_11, semI.eq_3, semI.eq_5, semI.eq_7, e_api_Disk, e_api_Write]
  repeat (refine And.intro ?_ ?_; · first | omega | (simp only [List.length_append, List.length_cons, List.length_nil] at *; omega) | (intro q; simp only [wz, wd, ws, Nat.reduceAdd, Nat.reduceSub, Nat.reduceMul, Nat.reduceLeDiff, Nat.reduceEqDiff, Nat.reduceLT, Nat.reduceBEq, reduceIte, reduceCtorEq, Int.reduceToNat, Nat.reduceShiftRight, Nat.reduceAnd, Nat.reduceBneDiff, Nat.reduceBNe, q]; done))
  obtain ⟨t2, e4, h⟩ := Option.bind_eq_some_iff.1 h
  refine call_fun [] false ⟨trivial, trivial, trivial⟩ rfl ?_ (f_ref01_Whole_ok _ _ e4) (fun _ => rfl) (fun i hi => by cases hi) ?_
  · simp only [wz, wd, ws, Nat.reduceAdd, Nat.reduceSub, Nat.reduceMul, Nat.reduceLeDiff, Nat.reduceEqDiff, Nat.reduceLT, Nat.reduceBEq, reduceIte, reduceCtorEq, Int.reduceToNat, Nat.reduceShiftRight, Nat.reduceAnd, Nat.reduceBneDiff, Nat.reduceBNe, e_api_Disk, e_api_Write]
  simp only [wz, wd, ws, Nat.reduceAdd, Nat.reduceSub, Nat.reduceMul, Nat.reduceLeDiff, Nat.reduceEqDiff, Nat.reduceLT, Nat.reduceBEq, reduceIte, reduceCtorEq, Int.reduceToNat, Nat.reduceShiftRight, Nat.reduceAnd, Nat.reduceBneDiff, Nat.reduceBNe, c36r2, semI.eq_10, semI.eq_11, semI.eq_3, semI.eq_5, semI.eq_7, e_api_Disk, e_api_Write]
  refine .seq ?_
  refine Rw.walk ?_
  obtain ⟨g5, h⟩ := gd_iff.1 h
  simp only [wz, wd, ws, Nat.reduceAdd, Nat.reduceSub, Nat.reduceMul, Nat.reduceLeDiff, Nat.reduceEqDiff, Nat.reduceLT, Nat.reduceBEq, reduceIte, reduceCtorEq, Int.reduceToNat, Nat.reduceShiftRight, Nat.reduceAnd, Nat.reduceBneDiff, Nat.reduceBNe, c36r3, semI.eq_10, semI.eq_11, semI.eq_3, semI.eq_5, semI.eq_7, e_api_Disk, e_api_Write]
  repeat (refine And.intro ?_ ?_; · first | omega | (simp only [List.length_append, List.length_cons, List.length_nil] at *; omega) | (intro q; simp only [wz, wd, ws, Nat.reduceAdd, Nat.reduceSub, Nat.reduceMul, Nat.reduceLeDiff, Nat.reduceEqDiff, Nat.reduceLT, Nat.reduceBEq, reduceIte, reduceCtorEq, Int.reduceToNat, Nat.reduceShiftRight, Nat.reduceAnd, Nat.reduceBneDiff, Nat.reduceBNe, q]; done))
  obtain ⟨t3, e6, h⟩ := Option.bind_eq_some_iff.1 h
  refine call_fun [] false ⟨trivial, trivial, trivial⟩ rfl ?_ (f_ref01_Whole_ok _ _ e6) (fun _ => rfl) (fun i hi => by cases hi) ?_
  · simp only [wz, wd, ws, Nat.reduceAdd, Nat.reduceSub, Nat.reduceMul, Nat.reduceLeDiff, Nat.reduceEqDiff, Nat.reduceLT, Nat.reduceBEq, reduceIte, reduceCtorEq, Int.reduceToNat, Nat.reduceShiftRight, Nat.reduceAnd, Nat.reduceBneDiff, Nat.reduceBNe, e_api_Disk, e_api_Write]
  simp only [wz, wd, ws, Nat.reduceAdd, Nat.reduceSub, Nat.reduceMul, Nat.reduceLeDiff, Nat.reduceEqDiff, Nat.reduceLT, Nat.reduceBEq, reduceIte, reduceCtorEq, Int.reduceToNat, Nat.reduceShiftRight, Nat.reduceAnd, Nat.reduceBneDiff, Nat.reduceBNe, c36r3, semI.eq_10, semI.eq_11, semI.eq_3, semI.eq_5, semI.eq_7, e_api_Disk, e_api_Write]
  refine .seq ?_
  refine .seq ?_
  refine Rw.walk ?_
  simp only [wz, wd, ws, Nat.reduceAdd, Nat.reduceSub, Nat.reduceMul, Nat.reduceLeDiff, Nat.reduceEqDiff, Nat.reduceLT, Nat.reduceBEq, reduceIte, reduceCtorEq, Int.reduceToNat, Nat.reduceShiftRight, Nat.reduceAnd, Nat.reduceBneDiff, Nat.reduceBNe, c36r4, semI.eq_10, semI.eq_11, semI.eq_3, semI.eq_5, semI.eq_7, e_api_Disk, e_api_Write]
  repeat (refine And.intro ?_ ?_; · first | omega | (simp only [List.length_append, List.length_cons, List.length_nil] at *; omega) | (intro q; simp only [wz, wd, ws, Nat.reduceAdd, Nat.reduceSub, Nat.reduceMul, Nat.reduceLeDiff, Nat.reduceEqDiff, Nat.reduceLT, Nat.reduceBEq, reduceIte, reduceCtorEq, Int.reduceToNat, Nat.reduceShiftRight, Nat.reduceAnd, Nat.reduceBneDiff, Nat.reduceBNe, q]; done))
  refine call_alt (v := .b (.agg [(.d (.sl (d.Sectors.map eS))), (.d (.sl (d.Dirty.map e_api_Write)))])) rfl rfl (by simp only [wz, wd, ws, Nat.reduceAdd, Nat.reduceSub, Nat.reduceMul, Nat.reduceLeDiff, Nat.reduceEqDiff, Nat.reduceLT, Nat.reduceBEq, reduceIte, reduceCtorEq, Int.reduceToNat, Nat.reduceShiftRight, Nat.reduceAnd, Nat.reduceBneDiff, Nat.reduceBNe]) (fun q => ⟨_, by simp only [wz, wd, ws, Nat.reduceAdd, Nat.reduceSub, Nat.reduceMul, Nat.reduceLeDiff, Nat.reduceEqDiff, Nat.reduceLT, Nat.reduceBEq, reduceIte, reduceCtorEq, Int.reduceToNat, Nat.reduceShiftRight, Nat.reduceAnd, Nat.reduceBneDiff, Nat.reduceBNe, semI.eq_10, e_api_Disk, e_api_Write], trivial⟩) ?_
  simp only [wz, wd, ws, Nat.reduceAdd, Nat.reduceSub, Nat.reduceMul, Nat.reduceLeDiff, Nat.reduceEqDiff, Nat.reduceLT, Nat.reduceBEq, reduceIte, reduceCtorEq, Int.reduceToNat, Nat.reduceShiftRight, Nat.reduceAnd, Nat.reduceBneDiff, Nat.reduceBNe, c36r4, semI.eq_10, semI.eq_11, semI.eq_3, semI.eq_5, semI.eq_7, e_api_Disk, e_api_Write]
  obtain ⟨t4, e7, h⟩ := Option.bind_eq_some_iff.1 h
  refine call_funG [] rfl (by simp only [wz, wd, ws, Nat.reduceAdd, Nat.reduceSub, Nat.reduceMul, Nat.reduceLeDiff, Nat.reduceEqDiff, Nat.reduceLT, Nat.reduceBEq, reduceIte, reduceCtorEq, Int.reduceToNat, Nat.reduceShiftRight, Nat.reduceAnd, Nat.reduceBneDiff, Nat.reduceBNe]) rfl ?_ (fun q => (f_ref10_Room_ok _ _ _ (gx_iff e7 (by simpa using q)))) rfl (fun i hi => by cases hi) ?_
  · simp only [wz, wd, ws, Nat.reduceAdd, Nat.reduceSub, Nat.reduceMul, Nat.reduceLeDiff, Nat.reduceEqDiff, Nat.reduceLT, Nat.reduceBEq, reduceIte, reduceCtorEq, Int.reduceToNat, Nat.reduceShiftRight, Nat.reduceAnd, Nat.reduceBneDiff, Nat.reduceBNe, e_api_Disk, e_api_Write]
  simp only [wz, wd, ws, Nat.reduceAdd, Nat.reduceSub, Nat.reduceMul, Nat.reduceLeDiff, Nat.reduceEqDiff, Nat.reduceLT, Nat.reduceBEq, reduceIte, reduceCtorEq, Int.reduceToNat, Nat.reduceShiftRight, Nat.reduceAnd, Nat.reduceBneDiff, Nat.reduceBNe, c36r4, semI.eq_10, semI.eq_11, semI.eq_3, semI.eq_5, semI.eq_7, e_api_Disk, e_api_Write]
  repeat (refine And.intro ?_ ?_; · first | omega | (simp only [List.length_append, List.length_cons, List.length_nil] at *; omega) | (intro q; simp only [wz, wd, ws, Nat.reduceAdd, Nat.reduceSub, Nat.reduceMul, Nat.reduceLeDiff, Nat.reduceEqDiff, Nat.reduceLT, Nat.reduceBEq, reduceIte, reduceCtorEq, Int.reduceToNat, Nat.reduceShiftRight, Nat.reduceAnd, Nat.reduceBneDiff, Nat.reduceBNe, q]; done))
  obtain ⟨t5, e8, h⟩ := Option.bind_eq_some_iff.1 h
  refine call_funG [] rfl (by simp only [wz, wd, ws, Nat.reduceAdd, Nat.reduceSub, Nat.reduceMul, Nat.reduceLeDiff, Nat.reduceEqDiff, Nat.reduceLT, Nat.reduceBEq, reduceIte, reduceCtorEq, Int.reduceToNat, Nat.reduceShiftRight, Nat.reduceAnd, Nat.reduceBneDiff, Nat.reduceBNe]) rfl ?_ (fun q => (f_ref10_Head_ok _ _ _ (gx_iff e8 (by simpa using q)))) rfl (fun i hi => by cases hi) ?_
  · simp only [wz, wd, ws, Nat.reduceAdd, Nat.reduceSub, Nat.reduceMul, Nat.reduceLeDiff, Nat.reduceEqDiff, Nat.reduceLT, Nat.reduceBEq, reduceIte, reduceCtorEq, Int.reduceToNat, Nat.reduceShiftRight, Nat.reduceAnd, Nat.reduceBneDiff, Nat.reduceBNe, e_api_Disk, e_api_Write]
  simp only [wz, wd, ws, Nat.reduceAdd, Nat.reduceSub, Nat.reduceMul, Nat.reduceLeDiff, Nat.reduceEqDiff, Nat.reduceLT, Nat.reduceBEq, reduceIte, reduceCtorEq, Int.reduceToNat, Nat.reduceShiftRight, Nat.reduceAnd, Nat.reduceBneDiff, Nat.reduceBNe, c36r4, semI.eq_10, semI.eq_11, semI.eq_3, semI.eq_5, semI.eq_7, e_api_Disk, e_api_Write]
  repeat (refine And.intro ?_ ?_; · first | omega | (simp only [List.length_append, List.length_cons, List.length_nil] at *; omega) | (intro q; simp only [wz, wd, ws, Nat.reduceAdd, Nat.reduceSub, Nat.reduceMul, Nat.reduceLeDiff, Nat.reduceEqDiff, Nat.reduceLT, Nat.reduceBEq, reduceIte, reduceCtorEq, Int.reduceToNat, Nat.reduceShiftRight, Nat.reduceAnd, Nat.reduceBneDiff, Nat.reduceBNe, q]; done))
  refine .cond (p := ((((decide (t2 < 1)) || (decide (t2 > 1099511627776))) || (decide (t3 > (IntKind.u64.wrap (t4.length : Int))))) || (!(t5 == x)))) (by first | rfl | simp only [wz, wd, ws, Nat.reduceAdd, Nat.reduceSub, Nat.reduceMul, Nat.reduceLeDiff, Nat.reduceEqDiff, Nat.reduceLT, Nat.reduceBEq, reduceIte, reduceCtorEq, Int.reduceToNat, Nat.reduceShiftRight, Nat.reduceAnd, Nat.reduceBneDiff, Nat.reduceBNe]) (fun h1 => ?_) (fun h1 => ?_)
  · rw [ite_t h1] at h
    refine .seq ?_
    refine Rw.walk ?_
    simp only [wz, wd, ws, Nat.reduceAdd, Nat.reduceSub, Nat.reduceMul, Nat.reduceLeDiff, Nat.reduceEqDiff, Nat.reduceLT, Nat.reduceBEq, reduceIte, reduceCtorEq, Int.reduceToNat, Nat.reduceShiftRight, Nat.reduceAnd, Nat.reduceBneDiff, Nat.reduceBNe, c36r5, semI.eq_10, semI.eq_11, semI.eq_3, semI.eq_5, semI.eq_7, e_api_Disk, e_api_Write]
    obtain rfl := Option.some.inj h
    refine .ret ?_
    rw [← hR]
    simp only [wz, wd, ws, Nat.reduceAdd, Nat.reduceSub, Nat.reduceMul, Nat.reduceLeDiff, Nat.reduceEqDiff, Nat.reduceLT, Nat.reduceBEq, reduceIte, reduceCtorEq, Int.reduceToNat, Nat.reduceShiftRight, Nat.reduceAnd, Nat.reduceBneDiff, Nat.reduceBNe, rv36, e_api_Disk, e_api_Write]
  · rw [ite_f h1] at h
    refine .skip ?_
    refine .seq ?_
    refine Rw.walk ?_
    simp only [wz, wd, ws, Nat.reduceAdd, Nat.reduceSub, Nat.reduceMul, Nat.reduceLeDiff, Nat.reduceEqDiff, Nat.reduceLT, Nat.reduceBEq, reduceIte, reduceCtorEq, Int.reduceToNat, Nat.reduceShiftRight, Nat.reduceAnd, Nat.reduceBneDiff, Nat.reduceBNe, c36r6, semI.eq_10, semI.eq_11, semI.eq_3, semI.eq_5, semI.eq_7, e_api_Disk, e_api_Write]
    obtain rfl := Option.some.inj h
    refine .ret ?_
    rw [← hR]
    simp only [wz, wd, ws, Nat.reduceAdd, Nat.reduceSub, Nat.reduceMul, Nat.reduceLeDiff, Nat.reduceEqDiff, Nat.reduceLT, Nat.reduceBEq, reduceIte, reduceCtorEq, Int.reduceToNat, Nat.reduceShiftRight, Nat.reduceAnd, Nat.reduceBneDiff, Nat.reduceBNe, rv36, e_api_Disk, e_api_Write]
-- 37 consignor/consignorref10.Used
def c37r0 : List Opn := [
  ⟨(some 2), none, .box 2 (.t 0)⟩, 
  ⟨(some 4), none, .mv (.c (.s (.d (.int .i64 0))))⟩]
def c37r1 : List Opn := [
  ⟨(some 6), none, .fadr 0 (.t 2)⟩, 
  ⟨(some 7), none, .load false 1 (.t 6)⟩, 
  ⟨(some 8), none, .load true 2 (.t 2)⟩, 
  ⟨(some 9), none, .mv (.t 1)⟩, 
  ⟨(some 10), none, .call (.fn 29) [(.t 8), (.t 9)]⟩, 
  ⟨(some 11), none, .iadr (.sl 1) (.t 7) (.t 10)⟩, 
  ⟨(some 12), none, .load false 1 (.t 11)⟩, 
  ⟨(some 5), none, .mv (.t 12)⟩]
def c37r2 : List Opn := [
  ⟨(some 13), none, .mv (.t 5)⟩, 
  ⟨(some 14), none, .slc .str (.t 13) (some (.c (.s (.d (.int .i64 9))))) (some (.c (.s (.d (.int .i64 12))))) none⟩, 
  ⟨(some 15), none, .call (.fn 55) [(.t 14)]⟩, 
  ⟨(some 16), none, .cv (.toInt .i64) (.t 15)⟩, 
  ⟨(some 4), none, .mv (.t 16)⟩]
def c37 : C := .seq (.reg c37r0 none [1, 2]) (.seq (.reg c37r1 (some [0, 1, 0, 0, 12, 31, 63, 127]) [5]) (.seq (.reg c37r2 none [4]) (.ret)))
def k37 : List (Nat × List Nat) := [(2, [4]), (1, [5]), (0, [1, 2])]
theorem cc37 : (Try.f37.body).bind (cC Try.prog 17 k37) = some c37 := by kernel_rfl
def rv37 : List RV := [.t 4]
theorem cr37 : cRVs Try.prog Try.f37.results.toList = some rv37 := by kernel_rfl
theorem f_ref10_Used_ok (d : api_Disk) (half : Int) (y_ : Int) (h : f_ref10_Used d half = some y_) : Fun Try.prog glP 37 [.b (.agg ((e_api_Disk d).map Lc.d)), .b (.s (.d (.int .i64 half)))] (.b (.s (.d (.int .i64 y_)))) := by
  refine fun_walk [] Try.func37 Try.ntmps37 cc37 cr37 (by kernel_rfl) (by simp only [List.length_cons, List.length_nil]; decide) ?_
  generalize hR : Ret _ _ _ _ _ = R_
  simp only [wz, wd, ws, Nat.reduceAdd, Nat.reduceSub, Nat.reduceMul, Nat.reduceLeDiff, Nat.reduceEqDiff, Nat.reduceLT, Nat.reduceBEq, reduceIte, reduceCtorEq, Int.reduceToNat, Nat.reduceShiftRight, Nat.reduceAnd, Nat.reduceBneDiff, Nat.reduceBNe, e_api_Disk, e_api_Write]
  unfold f_ref10_Used at h; unfold c37
  refine .seq ?_
  refine Rw.walk ?_
  simp only [wz, wd, ws, Nat.reduceAdd, Nat.reduceSub, Nat.reduceMul, Nat.reduceLeDiff, Nat.reduceEqDiff, Nat.reduceLT, Nat.reduceBEq, reduceIte, reduceCtorEq, Int.reduceToNat, Nat.reduceShiftRight, Nat.reduceAnd, Nat.reduceBneDiff, Nat.reduceBNe, c37r0, semI.eq_10, semI.eq_11, semI.eq_3, semI.eq_5, semI.eq_7, e_api_Disk, e_api_Write]
  refine .seq ?_
  refine RwD.walk ?_
  simp only [wz, wd, ws, Nat.reduceAdd, Nat.reduceSub, Nat.reduceMul, Nat.reduceLeDiff, Nat.reduceEqDiff, Nat.reduceLT, Nat.reduceBEq, reduceIte, reduceCtorEq, Int.reduceToNat, Nat.reduceShiftRight, Nat.reduceAnd, Nat.reduceBneDiff, Nat.reduceBNe, c37r1, semI.eq_10, semI.eq_11, semI.eq_3, semI.eq_5, semI.eq_7, e_api_Disk, e_api_Write]
  obtain ⟨t, e1, h⟩ := Option.bind_eq_some_iff.1 h
  refine call_fun [] false ⟨trivial, trivial, trivial, trivial⟩ rfl ?_ (f_ref10_At_ok _ _ _ e1) (fun _ => rfl) (fun i hi => by cases hi) ?_
  · simp only [wz, wd, ws, Nat.reduceAdd, Nat.reduceSub, Nat.reduceMul, Nat.reduceLeDiff, Nat.reduceEqDiff, Nat.reduceLT, Nat.reduceBEq, reduceIte, reduceCtorEq, Int.reduceToNat, Nat.reduceShiftRight, Nat.reduceAnd, Nat.reduceBneDiff, Nat.reduceBNe, e_api_Disk, e_api_Write]
  simp only [wz, wd, ws, Nat.reduceAdd, Nat.reduceSub, Nat.reduceMul, Nat.reduceLeDiff, Nat.reduceEqDiff, Nat.reduceLT, Nat.reduceBEq, reduceIte, reduceCtorEq, Int.reduceToNat, Nat.reduceShiftRight, Nat.reduceAnd, Nat.reduceBneDiff, Nat.reduceBNe, c37r1, semI.eq_10, semI.eq_11, semI.eq_3, semI.eq_5, semI.eq_7, e_api_Disk, e_api_Write]
  obtain ⟨x, e2, h⟩ := Option.bind_eq_some_iff.1 h
  refine GoD1.of (sem_iadr eS_len e2 (by rfl) (by rfl)) ?_
  simp only [wz, wd, ws, Nat.reduceAdd, Nat.reduceSub, Nat.reduceMul, Nat.reduceLeDiff, Nat.reduceEqDiff, Nat.reduceLT, Nat.reduceBEq, reduceIte, reduceCtorEq, Int.reduceToNat, Nat.reduceShiftRight, Nat.reduceAnd, Nat.reduceBneDiff, Nat.reduceBNe, c37r1, semI.eq_10, semI.eq_11, semI.eq_3, semI.eq_5, semI.eq_7, e_api_Disk, e_api_Write]
  refine .seq ?_
  refine Rw.walk ?_
  obtain ⟨g3, h⟩ := gd_iff.1 h
  simp only [wz, wd, ws, Nat.reduceAdd, Nat.reduceSub, Nat.reduceMul, Nat.reduceLeDiff, Nat.reduceEqDiff, Nat.reduceLT, Nat.reduceBEq, reduceIte, reduceCtorEq, Int.reduceToNat, Nat.reduceShiftRight, Nat.reduceAnd, Nat.reduceBneDiff, Nat.reduceBNe, c37r2, semI.eq_10, semI.eq_11, semI.eq_3, semI.eq_5, semI.eq_7, e_api_Disk, e_api_Write]
  repeat (refine And.intro ?_ ?_; · first | omega | (simp only [List.length_append, List.length_cons, List.length_nil] at *; omega) | (intro q; simp only [wz, wd, ws, Nat.reduceAdd, Nat.reduceSub, Nat.reduceMul, Nat.reduceLeDiff, Nat.reduceEqDiff, Nat.reduceLT, Nat.reduceBEq, reduceIte, reduceCtorEq, Int.reduceToNat, Nat.reduceShiftRight, Nat.reduceAnd, Nat.reduceBneDiff, Nat.reduceBNe, q]; done))
  obtain ⟨t2, e4, h⟩ := Option.bind_eq_some_iff.1 h
  refine call_fun [] false ⟨trivial, trivial, trivial⟩ rfl ?_ (f_ref01_Whole_ok _ _ e4) (fun _ => rfl) (fun i hi => by cases hi) ?_
  · simp only [wz, wd, ws, Nat.reduceAdd, Nat.reduceSub, Nat.reduceMul, Nat.reduceLeDiff, Nat.reduceEqDiff, Nat.reduceLT, Nat.reduceBEq, reduceIte, reduceCtorEq, Int.reduceToNat, Nat.reduceShiftRight, Nat.reduceAnd, Nat.reduceBneDiff, Nat.reduceBNe, e_api_Disk, e_api_Write]
  simp only [wz, wd, ws, Nat.reduceAdd, Nat.reduceSub, Nat.reduceMul, Nat.reduceLeDiff, Nat.reduceEqDiff, Nat.reduceLT, Nat.reduceBEq, reduceIte, reduceCtorEq, Int.reduceToNat, Nat.reduceShiftRight, Nat.reduceAnd, Nat.reduceBneDiff, Nat.reduceBNe, c37r2, semI.eq_10, semI.eq_11, semI.eq_3, semI.eq_5, semI.eq_7, e_api_Disk, e_api_Write]
  obtain rfl := Option.some.inj h
  refine .ret ?_
  rw [← hR]
  simp only [wz, wd, ws, Nat.reduceAdd, Nat.reduceSub, Nat.reduceMul, Nat.reduceLeDiff, Nat.reduceEqDiff, Nat.reduceLT, Nat.reduceBEq, reduceIte, reduceCtorEq, Int.reduceToNat, Nat.reduceShiftRight, Nat.reduceAnd, Nat.reduceBneDiff, Nat.reduceBNe, rv37, e_api_Disk, e_api_Write]
-- 38 consignor/consignorref10.Entries
def c38r0 : List Opn := [
  ⟨(some 2), none, .mv (.c (.s .nils))⟩, 
  ⟨(some 3), none, .mv (.c (.s (.d (.bool false))))⟩]
def c38r1 : List Opn := [
  ⟨(some 7), none, .bsl 1 []⟩, 
  ⟨(some 4), none, .mv (.t 7)⟩]
def c38r2 : List Opn := [
  ⟨(some 5), none, .mv (.c (.s (.d (.int .i64 0))))⟩]
def c38r3 : List Opn := [
  ⟨(some 8), none, .mv (.t 5)⟩, 
  ⟨(some 9), none, .mv (.t 0)⟩, 
  ⟨(some 10), none, .len .str (.t 9)⟩, 
  ⟨(some 11), none, .bin .lss (.t 8) (.t 10)⟩]
def c38r4 : List Opn := [
  ⟨(some 12), none, .mv (.t 0)⟩, 
  ⟨(some 13), none, .len .str (.t 12)⟩, 
  ⟨(some 14), none, .mv (.t 5)⟩, 
  ⟨(some 15), none, .bin .sub (.t 13) (.t 14)⟩, 
  ⟨(some 16), none, .bin .lss (.t 15) (.c (.s (.d (.int .i64 2))))⟩]
def c38r5 : List Opn := [
  ⟨(some 2), none, .mv (.c (.s .nils))⟩, 
  ⟨(some 3), none, .mv (.c (.s (.d (.bool false))))⟩]
def c38r6 : List Opn := [
  ⟨(some 17), none, .mv (.t 0)⟩, 
  ⟨(some 18), none, .mv (.t 5)⟩, 
  ⟨(some 19), none, .mv (.t 5)⟩, 
  ⟨(some 20), none, .bin .add (.t 19) (.c (.s (.d (.int .i64 2))))⟩, 
  ⟨(some 21), none, .slc .str (.t 17) (some (.t 18)) (some (.t 20)) none⟩, 
  ⟨(some 22), none, .call (.fn 55) [(.t 21)]⟩, 
  ⟨(some 23), none, .cv (.toInt .i64) (.t 22)⟩, 
  ⟨(some 6), none, .mv (.t 23)⟩]
def c38r7 : List Opn := [
  ⟨(some 24), none, .mv (.t 6)⟩, 
  ⟨(some 25), none, .bin .gtr (.t 24) (.c (.s (.d (.int .i64 4096))))⟩, 
  ⟨(some 26), none, .mv (.t 25)⟩, 
  ⟨(some 27), some (26, false), .mv (.t 6)⟩, 
  ⟨(some 28), some (26, false), .mv (.t 0)⟩, 
  ⟨(some 29), some (26, false), .len .str (.t 28)⟩, 
  ⟨(some 30), some (26, false), .mv (.t 5)⟩, 
  ⟨(some 31), some (26, false), .bin .sub (.t 29) (.t 30)⟩, 
  ⟨(some 32), some (26, false), .bin .sub (.t 31) (.c (.s (.d (.int .i64 2))))⟩, 
  ⟨(some 33), some (26, false), .bin .gtr (.t 27) (.t 32)⟩, 
  ⟨(some 34), none, .pick (.t 26) (.c (.s (.d (.bool true)))) (.t 33)⟩]
def c38r8 : List Opn := [
  ⟨(some 2), none, .mv (.c (.s .nils))⟩, 
  ⟨(some 3), none, .mv (.c (.s (.d (.bool false))))⟩]
def c38r9 : List Opn := [
  ⟨(some 35), none, .mv (.t 4)⟩, 
  ⟨(some 36), none, .mv (.t 0)⟩, 
  ⟨(some 37), none, .mv (.t 5)⟩, 
  ⟨(some 38), none, .bin .add (.t 37) (.c (.s (.d (.int .i64 2))))⟩, 
  ⟨(some 39), none, .mv (.t 5)⟩, 
  ⟨(some 40), none, .bin .add (.t 39) (.c (.s (.d (.int .i64 2))))⟩, 
  ⟨(some 41), none, .mv (.t 6)⟩, 
  ⟨(some 42), none, .bin .add (.t 40) (.t 41)⟩, 
  ⟨(some 43), none, .slc .str (.t 36) (some (.t 38)) (some (.t 42)) none⟩, 
  ⟨(some 44), none, .bsl 1 [(.t 43)]⟩, 
  ⟨(some 45), none, .app 1 16 false (.t 35) (.t 44)⟩, 
  ⟨(some 4), none, .mv (.t 45)⟩]
def c38r10 : List Opn := [
  ⟨(some 46), none, .mv (.t 5)⟩, 
  ⟨(some 47), none, .bin .add (.t 46) (.c (.s (.d (.int .i64 2))))⟩, 
  ⟨(some 48), none, .mv (.t 6)⟩, 
  ⟨(some 49), none, .bin .add (.t 47) (.t 48)⟩, 
  ⟨(some 5), none, .mv (.t 49)⟩]
def c38l11 : C := .seq (.seq (.reg c38r3 none [0, 4, 5, 11]) (.cond (.t 11) (.skip) (.exit 0))) (.blk 1 (.seq (.seq (.reg c38r4 none [0, 4, 5, 16]) (.cond (.t 16) (.seq (.reg c38r5 none [2, 3]) (.ret)) (.skip))) (.seq (.reg c38r6 none [0, 4, 5, 6]) (.seq (.seq (.reg c38r7 none [0, 4, 5, 6, 34]) (.cond (.t 34) (.seq (.reg c38r8 none [2, 3]) (.ret)) (.skip))) (.seq (.reg c38r9 none [0, 4, 5, 6]) (.reg c38r10 none [0, 4, 5]))))))
def c38r11 : List Opn := [
  ⟨(some 50), none, .mv (.t 4)⟩, 
  ⟨(some 2), none, .mv (.t 50)⟩, 
  ⟨(some 3), none, .mv (.c (.s (.d (.bool true))))⟩]
def c38 : C := .seq (.reg c38r0 none [0]) (.seq (.reg c38r1 none [0, 4]) (.seq (.reg c38r2 none [0, 4, 5]) (.seq (.blk 0 (.loop c38l11)) (.seq (.reg c38r11 none [2, 3]) (.ret)))))
def k38 : List (Nat × List Nat) := [(11, [2, 3]), (10, [0, 4, 5]), (9, [0, 4, 5, 6]), (8, [2, 3]), (7, [0, 4, 5, 6, 34]), (6, [0, 4, 5, 6]), (5, [2, 3]), (4, [0, 4, 5, 16]), (3, [0, 4, 5, 11]), (2, [0, 4, 5]), (1, [0, 4]), (0, [0])]
theorem cc38 : (Try.f38.body).bind (cC Try.prog 51 k38) = some c38 := by kernel_rfl
def rv38 : List RV := [.t 2, .t 3]
theorem cr38 : cRVs Try.prog Try.f38.results.toList = some rv38 := by kernel_rfl
theorem f_ref10_Entries_l11_ok (s : Str) (y_ : (List Str) × Bool) (R_ : St → Prop) (hR : (Ret Try.prog glP [7] rv38 (.tup [.s (.d (.sl (y_.1.map eS))), .s (.d (.bool y_.2))])) = R_) : ∀ (m_ : Nat) (atv : Int) (out : (List Str)) (res_ : (Int × (List Str)) ⊕ ((List Str) × Bool)) (h : f_ref10_Entries_l11 s m_ atv out = some res_) (k_ : List It) (hx : ∀ s_ : Int × (List Str), res_ = .inl s_ → W Try.prog glP 51 k_ ⟨lkT [(0, .b (.s (.d (.str s)))), (4, .b (.s (.own 7 s_.2.length))), (5, .b (.s (.d (.int .i64 s_.1))))], lkG [(7, ⟨1, er eS s_.2, false⟩)]⟩ R_) (hr : ∀ z_ : (List Str) × Bool, res_ = .inr z_ → z_ = y_), W Try.prog glP 51 (.c c38l11 :: .lp c38l11 :: .blk 0 :: k_) ⟨lkT [(0, .b (.s (.d (.str s)))), (4, .b (.s (.own 7 out.length))), (5, .b (.s (.d (.int .i64 atv))))], lkG [(7, ⟨1, er eS out, false⟩)]⟩ R_ := by
  intro m_; induction m_ with
  | zero => intro atv out res_ h; rw [f_ref10_Entries_l11.eq_1] at h; cases h
  | succ m_ ih =>
    intro atv out res_ h k_ hx hr; rw [f_ref10_Entries_l11.eq_2] at h; refine W.cdef c38l11.eq_1 ?_
    refine .seq ?_
    refine .seq ?_
    refine Rw.walk ?_
    simp only [wz, wd, ws, Nat.reduceAdd, Nat.reduceSub, Nat.reduceMul, Nat.reduceLeDiff, Nat.reduceEqDiff, Nat.reduceLT, Nat.reduceBEq, reduceIte, reduceCtorEq, Int.reduceToNat, Nat.reduceShiftRight, Nat.reduceAnd, Nat.reduceBneDiff, Nat.reduceBNe, c38r3, semI.eq_10, semI.eq_11, semI.eq_3, semI.eq_5, semI.eq_7]
    refine .cond (p := (decide (atv < (s.length : Int)))) (by first | rfl | simp only [wz, wd, ws, Nat.reduceAdd, Nat.reduceSub, Nat.reduceMul, Nat.reduceLeDiff, Nat.reduceEqDiff, Nat.reduceLT, Nat.reduceBEq, reduceIte, reduceCtorEq, Int.reduceToNat, Nat.reduceShiftRight, Nat.reduceAnd, Nat.reduceBneDiff, Nat.reduceBNe]) (fun h1 => ?_) (fun h1 => ?_)
    · rw [ite_t h1] at h
      refine .skip ?_
      refine .blk ?_
      refine .seq ?_
      refine .seq ?_
      refine Rw.walk ?_
      simp only [wz, wd, ws, Nat.reduceAdd, Nat.reduceSub, Nat.reduceMul, Nat.reduceLeDiff, Nat.reduceEqDiff, Nat.reduceLT, Nat.reduceBEq, reduceIte, reduceCtorEq, Int.reduceToNat, Nat.reduceShiftRight, Nat.reduceAnd, Nat.reduceBneDiff, Nat.reduceBNe, c38r4, semI.eq_10, semI.eq_11, semI.eq_3, semI.eq_5, semI.eq_7]
      refine .cond (p := (decide ((IntKind.i64.wrap ((s.length : Int) - atv)) < 2))) (by first | rfl | simp only [wz, wd, ws, Nat.reduceAdd, Nat.reduceSub, Nat.reduceMul, Nat.reduceLeDiff, Nat.reduceEqDiff, Nat.reduceLT, Nat.reduceBEq, reduceIte, reduceCtorEq, Int.reduceToNat, Nat.reduceShiftRight, Nat.reduceAnd, Nat.reduceBneDiff, Nat.reduceBNe]) (fun h1 => ?_) (fun h1 => ?_)
      · rw [ite_t h1] at h
        refine .seq ?_
        refine Rw.walk ?_
        simp only [wz, wd, ws, Nat.reduceAdd, Nat.reduceSub, Nat.reduceMul, Nat.reduceLeDiff, Nat.reduceEqDiff, Nat.reduceLT, Nat.reduceBEq, reduceIte, reduceCtorEq, Int.reduceToNat, Nat.reduceShiftRight, Nat.reduceAnd, Nat.reduceBneDiff, Nat.reduceBNe, c38r5, semI.eq_10, semI.eq_11, semI.eq_3, semI.eq_5, semI.eq_7]
        obtain rfl := Option.some.inj h; obtain rfl := hr _ rfl
        refine .ret ?_
        rw [← hR]
        simp only [wz, wd, ws, Nat.reduceAdd, Nat.reduceSub, Nat.reduceMul, Nat.reduceLeDiff, Nat.reduceEqDiff, Nat.reduceLT, Nat.reduceBEq, reduceIte, reduceCtorEq, Int.reduceToNat, Nat.reduceShiftRight, Nat.reduceAnd, Nat.reduceBneDiff, Nat.reduceBNe, rv38]
      · rw [ite_f h1] at h
        refine .skip ?_
        refine .seq ?_
        refine Rw.walk ?_
        obtain ⟨g1, h⟩ := gd_iff.1 h
        simp only [wz, wd, ws, Nat.reduceAdd, Nat.reduceSub, Nat.reduceMul, Nat.reduceLeDiff, Nat.reduceEqDiff, Nat.reduceLT, Nat.reduceBEq, reduceIte, reduceCtorEq, Int.reduceToNat, Nat.reduceShiftRight, Nat.reduceAnd, Nat.reduceBneDiff, Nat.reduceBNe, c38r6, semI.eq_10, semI.eq_11, semI.eq_3, semI.eq_5, semI.eq_7]
        repeat (refine And.intro ?_ ?_; · first | omega | (simp only [List.length_append, List.length_cons, List.length_nil] at *; omega) | (intro q; simp only [wz, wd, ws, Nat.reduceAdd, Nat.reduceSub, Nat.reduceMul, Nat.reduceLeDiff, Nat.reduceEqDiff, Nat.reduceLT, Nat.reduceBEq, reduceIte, reduceCtorEq, Int.reduceToNat, Nat.reduceShiftRight, Nat.reduceAnd, Nat.reduceBneDiff, Nat.reduceBNe, q]; done))
        obtain ⟨t, e2, h⟩ := Option.bind_eq_some_iff.1 h
        refine call_fun [] false ⟨trivial, trivial, trivial⟩ rfl ?_ (f_ref01_Whole_ok _ _ e2) (fun _ => rfl) (fun i hi => by cases hi) ?_
        · simp only [wz, wd, ws, Nat.reduceAdd, Nat.reduceSub, Nat.reduceMul, Nat.reduceLeDiff, Nat.reduceEqDiff, Nat.reduceLT, Nat.reduceBEq, reduceIte, reduceCtorEq, Int.reduceToNat, Nat.reduceShiftRight, Nat.reduceAnd, Nat.reduceBneDiff, Nat.reduceBNe]
        simp only [wz, wd, ws, Nat.reduceAdd, Nat.reduceSub, Nat.reduceMul, Nat.reduceLeDiff, Nat.reduceEqDiff, Nat.reduceLT, Nat.reduceBEq, reduceIte, reduceCtorEq, Int.reduceToNat, Nat.reduceShiftRight, Nat.reduceAnd, Nat.reduceBneDiff, Nat.reduceBNe, c38r6, semI.eq_10, semI.eq_11, semI.eq_3, semI.eq_5, semI.eq_7]
        refine .seq ?_
        refine .seq ?_
        refine Rw.walk ?_
        simp only [wz, wd, ws, Nat.reduceAdd, Nat.reduceSub, Nat.reduceMul, Nat.reduceLeDiff, Nat.reduceEqDiff, Nat.reduceLT, Nat.reduceBEq, reduceIte, reduceCtorEq, Int.reduceToNat, Nat.reduceShiftRight, Nat.reduceAnd, Nat.reduceBneDiff, Nat.reduceBNe, c38r7, semI.eq_10, semI.eq_11, semI.eq_3, semI.eq_5, semI.eq_7]
        repeat (refine And.intro ?_ ?_; · first | omega | (simp only [List.length_append, List.length_cons, List.length_nil] at *; omega) | (intro q; simp only [wz, wd, ws, Nat.reduceAdd, Nat.reduceSub, Nat.reduceMul, Nat.reduceLeDiff, Nat.reduceEqDiff, Nat.reduceLT, Nat.reduceBEq, reduceIte, reduceCtorEq, Int.reduceToNat, Nat.reduceShiftRight, Nat.reduceAnd, Nat.reduceBneDiff, Nat.reduceBNe, q]; done))
        refine .cond (p := ((decide ((IntKind.i64.wrap t) > 4096)) || (decide ((IntKind.i64.wrap t) > (IntKind.i64.wrap ((IntKind.i64.wrap ((s.length : Int) - atv)) - 2)))))) (by first | rfl | simp only [wz, wd, ws, Nat.reduceAdd, Nat.reduceSub, Nat.reduceMul, Nat.reduceLeDiff, Nat.reduceEqDiff, Nat.reduceLT, Nat.reduceBEq, reduceIte, reduceCtorEq, Int.reduceToNat, Nat.reduceShiftRight, Nat.reduceAnd, Nat.reduceBneDiff, Nat.reduceBNe]) (fun h1 => ?_) (fun h1 => ?_)
        · rw [ite_t h1] at h
          refine .seq ?_
          refine Rw.walk ?_
          simp only [wz, wd, ws, Nat.reduceAdd, Nat.reduceSub, Nat.reduceMul, Nat.reduceLeDiff, Nat.reduceEqDiff, Nat.reduceLT, Nat.reduceBEq, reduceIte, reduceCtorEq, Int.reduceToNat, Nat.reduceShiftRight, Nat.reduceAnd, Nat.reduceBneDiff, Nat.reduceBNe, c38r8, semI.eq_10, semI.eq_11, semI.eq_3, semI.eq_5, semI.eq_7]
          obtain rfl := Option.some.inj h; obtain rfl := hr _ rfl
          refine .ret ?_
          rw [← hR]
          simp only [wz, wd, ws, Nat.reduceAdd, Nat.reduceSub, Nat.reduceMul, Nat.reduceLeDiff, Nat.reduceEqDiff, Nat.reduceLT, Nat.reduceBEq, reduceIte, reduceCtorEq, Int.reduceToNat, Nat.reduceShiftRight, Nat.reduceAnd, Nat.reduceBneDiff, Nat.reduceBNe, rv38]
        · rw [ite_f h1] at h
          refine .skip ?_
          refine .seq ?_
          refine Rw.walk ?_
          obtain ⟨g3, h⟩ := gd_iff.1 h
          simp only [wz, wd, ws, Nat.reduceAdd, Nat.reduceSub, Nat.reduceMul, Nat.reduceLeDiff, Nat.reduceEqDiff, Nat.reduceLT, Nat.reduceBEq, reduceIte, reduceCtorEq, Int.reduceToNat, Nat.reduceShiftRight, Nat.reduceAnd, Nat.reduceBneDiff, Nat.reduceBNe, c38r9, semI.eq_10, semI.eq_11, semI.eq_3, semI.eq_5, semI.eq_7]
          repeat (refine And.intro ?_ ?_; · first | omega | (simp only [List.length_append, List.length_cons, List.length_nil] at *; omega) | (intro q; simp only [wz, wd, ws, Nat.reduceAdd, Nat.reduceSub, Nat.reduceMul, Nat.reduceLeDiff, Nat.reduceEqDiff, Nat.reduceLT, Nat.reduceBEq, reduceIte, reduceCtorEq, Int.reduceToNat, Nat.reduceShiftRight, Nat.reduceAnd, Nat.reduceBneDiff, Nat.reduceBNe, q]; done))
          refine Go1.of (sem_bsl (enc := eS) (m := ([(cut s (IntKind.i64.wrap (atv + 2)) (IntKind.i64.wrap ((IntKind.i64.wrap (atv + 2)) + (IntKind.i64.wrap t))))] : List Str)) eS_len (by rfl) (by rfl) (by rfl) ⟨trivial, trivial⟩) ?_
          simp only [wz, wd, ws, Nat.reduceAdd, Nat.reduceSub, Nat.reduceMul, Nat.reduceLeDiff, Nat.reduceEqDiff, Nat.reduceLT, Nat.reduceBEq, reduceIte, reduceCtorEq, Int.reduceToNat, Nat.reduceShiftRight, Nat.reduceAnd, Nat.reduceBneDiff, Nat.reduceBNe, c38r9, semI.eq_10, semI.eq_11, semI.eq_3, semI.eq_5, semI.eq_7]
          obtain ⟨g4, h⟩ := gd_iff.1 h
          refine Go1.of (sem_app (enc := eS) (l := out) (m := ([(cut s (IntKind.i64.wrap (atv + 2)) (IntKind.i64.wrap ((IntKind.i64.wrap (atv + 2)) + (IntKind.i64.wrap t))))] : List Str)) eS_len (by rfl) (by rfl) (newV_own (m := ([(cut s (IntKind.i64.wrap (atv + 2)) (IntKind.i64.wrap ((IntKind.i64.wrap (atv + 2)) + (IntKind.i64.wrap t))))] : List Str)) (by rfl) (by rfl))) ?_
          simp only [wz, wd, ws, Nat.reduceAdd, Nat.reduceSub, Nat.reduceMul, Nat.reduceLeDiff, Nat.reduceEqDiff, Nat.reduceLT, Nat.reduceBEq, reduceIte, reduceCtorEq, Int.reduceToNat, Nat.reduceShiftRight, Nat.reduceAnd, Nat.reduceBneDiff, Nat.reduceBNe, c38r9, semI.eq_10, semI.eq_11, semI.eq_3, semI.eq_5, semI.eq_7]
          repeat (refine And.intro ?_ ?_; · first | omega | (simp only [List.length_append, List.length_cons, List.length_nil] at *; omega) | (intro q; simp only [wz, wd, ws, Nat.reduceAdd, Nat.reduceSub, Nat.reduceMul, Nat.reduceLeDiff, Nat.reduceEqDiff, Nat.reduceLT, Nat.reduceBEq, reduceIte, reduceCtorEq, Int.reduceToNat, Nat.reduceShiftRight, Nat.reduceAnd, Nat.reduceBneDiff, Nat.reduceBNe, q]; done))
          refine Rw.walk ?_
          simp only [wz, wd, ws, Nat.reduceAdd, Nat.reduceSub, Nat.reduceMul, Nat.reduceLeDiff, Nat.reduceEqDiff, Nat.reduceLT, Nat.reduceBEq, reduceIte, reduceCtorEq, Int.reduceToNat, Nat.reduceShiftRight, Nat.reduceAnd, Nat.reduceBneDiff, Nat.reduceBNe, c38r10, semI.eq_10, semI.eq_11, semI.eq_3, semI.eq_5, semI.eq_7]
          refine .eblk ?_
          refine .lp ?_
          refine .weak (Imp.co [] _ _ ?_ ?_ ?_ ?_ ?_) (ih (IntKind.i64.wrap ((IntKind.i64.wrap (atv + 2)) + (IntKind.i64.wrap t))) (out ++ ([(cut s (IntKind.i64.wrap (atv + 2)) (IntKind.i64.wrap ((IntKind.i64.wrap (atv + 2)) + (IntKind.i64.wrap t))))] : List Str)) _ h k_ hx hr) <;> simp only [wz, wd, ws, Nat.reduceAdd, Nat.reduceSub, Nat.reduceMul, Nat.reduceLeDiff, Nat.reduceEqDiff, Nat.reduceLT, Nat.reduceBEq, reduceIte, reduceCtorEq, Int.reduceToNat, Nat.reduceShiftRight, Nat.reduceAnd, Nat.reduceBneDiff, Nat.reduceBNe, wi, er_nil]
    · rw [ite_f h1] at h
      refine .exit rfl ?_
      obtain rfl := Option.some.inj h
      refine .weak (Imp.co [] _ _ ?_ ?_ ?_ ?_ ?_) (hx _ rfl) <;> simp only [wz, wd, ws, Nat.reduceAdd, Nat.reduceSub, Nat.reduceMul, Nat.reduceLeDiff, Nat.reduceEqDiff, Nat.reduceLT, Nat.reduceBEq, reduceIte, reduceCtorEq, Int.reduceToNat, Nat.reduceShiftRight, Nat.reduceAnd, Nat.reduceBneDiff, Nat.reduceBNe, wi, er_nil]
theorem f_ref10_Entries_ok (s : Str) (y_ : (List Str) × Bool) (h : f_ref10_Entries s = some y_) : Fun Try.prog glP 38 [.b (.s (.d (.str s)))] (.tup [.s (.d (.sl (y_.1.map eS))), .s (.d (.bool y_.2))]) := by
  refine fun_walk [7] Try.func38 Try.ntmps38 cc38 cr38 (by kernel_rfl) (by simp only [List.length_cons, List.length_nil]; decide) ?_
  generalize hR : Ret _ _ _ _ _ = R_
  simp only [wz, wd, ws, Nat.reduceAdd, Nat.reduceSub, Nat.reduceMul, Nat.reduceLeDiff, Nat.reduceEqDiff, Nat.reduceLT, Nat.reduceBEq, reduceIte, reduceCtorEq, Int.reduceToNat, Nat.reduceShiftRight, Nat.reduceAnd, Nat.reduceBneDiff, Nat.reduceBNe]
  unfold f_ref10_Entries at h; unfold c38
  refine .seq ?_
  refine Rw.walk ?_
  simp only [wz, wd, ws, Nat.reduceAdd, Nat.reduceSub, Nat.reduceMul, Nat.reduceLeDiff, Nat.reduceEqDiff, Nat.reduceLT, Nat.reduceBEq, reduceIte, reduceCtorEq, Int.reduceToNat, Nat.reduceShiftRight, Nat.reduceAnd, Nat.reduceBneDiff, Nat.reduceBNe, c38r0, semI.eq_10, semI.eq_11, semI.eq_3, semI.eq_5, semI.eq_7]
  refine .seq ?_
  refine Rw.walk ?_
  simp only [wz, wd, ws, Nat.reduceAdd, Nat.reduceSub, Nat.reduceMul, Nat.reduceLeDiff, Nat.reduceEqDiff, Nat.reduceLT, Nat.reduceBEq, reduceIte, reduceCtorEq, Int.reduceToNat, Nat.reduceShiftRight, Nat.reduceAnd, Nat.reduceBneDiff, Nat.reduceBNe, c38r1, semI.eq_10, semI.eq_11, semI.eq_3, semI.eq_5, semI.eq_7]
  refine Go1.of (sem_bsl (enc := eS) (m := ([] : List Str)) eS_len (by rfl) (by rfl) (by rfl) trivial) ?_
  simp only [wz, wd, ws, Nat.reduceAdd, Nat.reduceSub, Nat.reduceMul, Nat.reduceLeDiff, Nat.reduceEqDiff, Nat.reduceLT, Nat.reduceBEq, reduceIte, reduceCtorEq, Int.reduceToNat, Nat.reduceShiftRight, Nat.reduceAnd, Nat.reduceBneDiff, Nat.reduceBNe, c38r1, semI.eq_10, semI.eq_11, semI.eq_3, semI.eq_5, semI.eq_7]
  refine .seq ?_
  refine Rw.walk ?_
  simp only [wz, wd, ws, Nat.reduceAdd, Nat.reduceSub, Nat.reduceMul, Nat.reduceLeDiff, Nat.reduceEqDiff, Nat.reduceLT, Nat.reduceBEq, reduceIte, reduceCtorEq, Int.reduceToNat, Nat.reduceShiftRight, Nat.reduceAnd, Nat.reduceBneDiff, Nat.reduceBNe, c38r2, semI.eq_10, semI.eq_11, semI.eq_3, semI.eq_5, semI.eq_7]
  refine .seq ?_
  refine .blk ?_
  obtain ⟨s2, hf, h⟩ := Option.bind_eq_some_iff.1 h
  refine .loop (.weak (Imp.co [] _ _ ?c1 ?c2 ?c3 ?c4 ?c5) (f_ref10_Entries_l11_ok s _ _ hR _ _ _ _ hf _ ?_ ?_))
  case c1 | c2 | c3 | c4 | c5 => simp only [wz, wd, ws, Nat.reduceAdd, Nat.reduceSub, Nat.reduceMul, Nat.reduceLeDiff, Nat.reduceEqDiff, Nat.reduceLT, Nat.reduceBEq, reduceIte, reduceCtorEq, Int.reduceToNat, Nat.reduceShiftRight, Nat.reduceAnd, Nat.reduceBneDiff, Nat.reduceBNe, wi, er_nil]
  · intro s3 hs; subst hs; dsimp only at h
    refine .seq ?_
    refine Rw.walk ?_
    simp only [wz, wd, ws, Nat.reduceAdd, Nat.reduceSub, Nat.reduceMul, Nat.reduceLeDiff, Nat.reduceEqDiff, Nat.reduceLT, Nat.reduceBEq, reduceIte, reduceCtorEq, Int.reduceToNat, Nat.reduceShiftRight, Nat.reduceAnd, Nat.reduceBneDiff, Nat.reduceBNe, c38r11, semI.eq_10, semI.eq_11, semI.eq_3, semI.eq_5, semI.eq_7]
    obtain rfl := Option.some.inj h
    refine .ret ?_
    rw [← hR]
    simp only [wz, wd, ws, Nat.reduceAdd, Nat.reduceSub, Nat.reduceMul, Nat.reduceLeDiff, Nat.reduceEqDiff, Nat.reduceLT, Nat.reduceBEq, reduceIte, reduceCtorEq, Int.reduceToNat, Nat.reduceShiftRight, Nat.reduceAnd, Nat.reduceBneDiff, Nat.reduceBNe, rv38]
  · intro z hz; subst hz; dsimp only at h
    exact Option.some.inj h
end Go.Proofs.Ytjhelpeglgigbaa.V
end
