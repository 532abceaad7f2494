/- Ledger: what is told of a disk; entries behind entries; a ledger that was added to, or renewed. -/
import Derived.Test.YtjhelpeglgigbaaProg
import Derived.Test.YtjhelpeglgigbaaQLedgerFillsB
import Derived.Test.YtjhelpeglgigbaaQLedgerFillsC
import Derived.Test.YtjhelpeglgigbaaQLedgerFillsE
import Derived.KernelRfl
import Derived.Lib.Join
import Derived.Lib.Repeat
section
/- Go functions compute what Lean functions do. -/
namespace Go.Proofs.Ytjhelpeglgigbaa.V
open Go Go.RowKit
set_option linter.unusedVariables false
set_option linter.unusedSimpArgs false
set_option maxHeartbeats 1000000
set_option maxRecDepth 20000
-- 6 consignor/consignorlaw10.LedgerGoes
def c6r0 : List Opn := [
  ⟨(some 6), none, .mv (.c (.s (.d (.bool false))))⟩]
def c6r1 : List Opn := [
  ⟨(some 17), none, .mv (.t 0)⟩, 
  ⟨(some 18), none, .mm true (.t 17) (.c (.s (.d (.int .i64 4))))⟩, 
  ⟨(some 19), none, .mm false (.t 18) (.c (.s (.d (.int .i64 64))))⟩, 
  ⟨(some 0), none, .mv (.t 19)⟩]
def c6r2 : List Opn := [
  ⟨(some 21), none, .mv (.t 0)⟩, 
  ⟨(some 22), none, .call (.fn 12) [(.t 21)]⟩, 
  ⟨(some 20), none, .mv (.t 22)⟩, 
  ⟨(some 23), none, .ext (.t 20) 0⟩, 
  ⟨(some 24), none, .ext (.t 20) 1⟩, 
  ⟨(some 7), none, .new [.nils, .nils, (.d (.int .i64 0)), (.d (.int .i64 0)), (.d (.int .i64 0)), .nils]⟩, 
  ⟨none, none, .store 6 (.t 7) (.t 23)⟩, 
  ⟨(some 8), none, .mv (.t 24)⟩]
def c6r3 : List Opn := [
  ⟨(some 9), none, .mv (.c (.s .nils))⟩]
def c6r4 : List Opn := [
  ⟨(some 25), none, .mv (.t 1)⟩, 
  ⟨(some 26), none, .len (.sl 0) (.t 25)⟩, 
  ⟨(some 27), none, .mv (.c (.s (.d (.int .i64 0))))⟩]
def c6r5 : List Opn := [
  ⟨(some 28), none, .bin .lss (.t 27) (.t 26)⟩]
def c6r6 : List Opn := [
  ⟨(some 29), none, .mv (.t 27)⟩, 
  ⟨(some 30), none, .iadr (.sl 1) (.t 25) (.t 27)⟩, 
  ⟨(some 31), none, .load false 1 (.t 30)⟩, 
  ⟨(some 10), none, .mv (.t 29)⟩, 
  ⟨(some 11), none, .mv (.t 31)⟩]
def c6r7 : List Opn := [
  ⟨(some 32), none, .mv (.t 10)⟩, 
  ⟨(some 33), none, .bin .geq (.t 32) (.c (.s (.d (.int .i64 16))))⟩]
def c6r8 : List Opn := [
  ⟨(some 34), none, .mv (.t 11)⟩, 
  ⟨(some 35), none, .call (.fn 17) [(.t 34)]⟩, 
  ⟨(some 11), none, .mv (.t 35)⟩]
def c6r9 : List Opn := [
  ⟨(some 36), none, .mv (.t 10)⟩, 
  ⟨(some 37), none, .mv (.t 2)⟩, 
  ⟨(some 38), none, .len (.sl 0) (.t 37)⟩, 
  ⟨(some 39), none, .bin .lss (.t 36) (.t 38)⟩, 
  ⟨(some 40), none, .mv (.t 39)⟩, 
  ⟨(some 41), some (40, true), .mv (.t 2)⟩, 
  ⟨(some 42), some (40, true), .mv (.t 10)⟩, 
  ⟨(some 43), some (40, true), .iadr (.sl 1) (.t 41) (.t 42)⟩, 
  ⟨(some 44), some (40, true), .load false 1 (.t 43)⟩, 
  ⟨(some 45), none, .pick (.t 40) (.t 44) (.c (.s (.d (.bool false))))⟩, 
  ⟨(some 12), none, .mv (.t 45)⟩]
def c6r10 : List Opn := [
  ⟨(some 13), none, .new [.nils, .nils, (.d (.int .i64 0)), (.d (.int .i64 0)), (.d (.int .i64 0)), .nils]⟩]
def c6r11 : List Opn := [
  ⟨(some 14), none, .mv (.c (.s (.d (.int .i64 0))))⟩]
def c6r12 : List Opn := [
  ⟨(some 46), none, .mv (.t 12)⟩]
def c6r13 : List Opn := [
  ⟨(some 48), none, .load true 6 (.t 7)⟩, 
  ⟨(some 49), none, .mv (.t 11)⟩, 
  ⟨(some 50), none, .call (.fn 22) [(.t 48), (.t 49)]⟩, 
  ⟨(some 47), none, .mv (.t 50)⟩, 
  ⟨(some 51), none, .ext (.t 47) 0⟩, 
  ⟨(some 52), none, .ext (.t 47) 1⟩, 
  ⟨none, none, .store 6 (.t 13) (.t 51)⟩, 
  ⟨(some 14), none, .mv (.t 52)⟩]
def c6r14 : List Opn := [
  ⟨(some 54), none, .load true 6 (.t 7)⟩, 
  ⟨(some 55), none, .mv (.t 11)⟩, 
  ⟨(some 56), none, .call (.fn 18) [(.t 54), (.t 55)]⟩, 
  ⟨(some 53), none, .mv (.t 56)⟩, 
  ⟨(some 57), none, .ext (.t 53) 0⟩, 
  ⟨(some 58), none, .ext (.t 53) 1⟩, 
  ⟨none, none, .store 6 (.t 13) (.t 57)⟩, 
  ⟨(some 14), none, .mv (.t 58)⟩]
def c6r15 : List Opn := [
  ⟨(some 59), none, .mv (.t 14)⟩, 
  ⟨(some 60), none, .bin .neq (.t 59) (.c (.s (.d (.int .i64 0))))⟩]
def c6r16 : List Opn := [
  ⟨(some 61), none, .mv (.t 14)⟩, 
  ⟨(some 62), none, .bin .neq (.t 61) (.c (.s (.d (.int .i64 13))))⟩, 
  ⟨(some 63), none, .mv (.t 62)⟩, 
  ⟨(some 64), some (63, true), .mv (.t 14)⟩, 
  ⟨(some 65), some (63, true), .bin .neq (.t 64) (.c (.s (.d (.int .i64 2))))⟩, 
  ⟨(some 66), none, .pick (.t 63) (.t 65) (.c (.s (.d (.bool false))))⟩]
def c6r17 : List Opn := [
  ⟨(some 6), none, .mv (.c (.s (.d (.bool false))))⟩]
def c6r18 : List Opn := [
  ⟨(some 67), none, .bsl 1 []⟩, 
  ⟨(some 68), none, .mv (.t 9)⟩, 
  ⟨(some 69), none, .app 1 16 false (.t 67) (.t 68)⟩, 
  ⟨(some 70), none, .mv (.t 11)⟩, 
  ⟨(some 71), none, .app 1 16 false (.t 69) (.t 70)⟩, 
  ⟨(some 9), none, .mv (.t 71)⟩]
def c6r19 : List Opn := [
  ⟨(some 72), none, .mv (.t 12)⟩]
def c6r20 : List Opn := [
  ⟨(some 73), none, .mv (.t 11)⟩, 
  ⟨(some 9), none, .mv (.t 73)⟩]
def c6r21 : List Opn := [
  ⟨(some 75), none, .fadr 0 (.t 13)⟩, 
  ⟨(some 76), none, .load true 2 (.t 75)⟩, 
  ⟨(some 77), none, .call (.fn 10) [(.t 76)]⟩, 
  ⟨(some 74), none, .mv (.t 77)⟩, 
  ⟨(some 78), none, .ext (.t 74) 0⟩, 
  ⟨(some 79), none, .ext (.t 74) 1⟩, 
  ⟨(some 15), none, .new [.nils, .nils, (.d (.int .i64 0)), (.d (.int .i64 0)), (.d (.int .i64 0)), .nils]⟩, 
  ⟨none, none, .store 6 (.t 15) (.t 78)⟩, 
  ⟨(some 16), none, .mv (.t 79)⟩]
def c6r22 : List Opn := [
  ⟨(some 80), none, .load true 6 (.t 13)⟩, 
  ⟨none, none, .store 6 (.t 7) (.t 80)⟩]
def c6r23 : List Opn := [
  ⟨(some 81), none, .mv (.t 16)⟩, 
  ⟨(some 82), none, .bin .neq (.t 81) (.c (.s (.d (.int .i64 0))))⟩, 
  ⟨(some 83), none, .mv (.t 82)⟩, 
  ⟨(some 84), some (83, false), .fadr 5 (.t 7)⟩, 
  ⟨(some 85), some (83, false), .load false 1 (.t 84)⟩, 
  ⟨(some 86), some (83, false), .mv (.t 9)⟩, 
  ⟨(some 87), some (83, false), .call (.fn 19) [(.t 85), (.t 86)]⟩, 
  ⟨(some 88), some (83, false), .un .not (.t 87)⟩, 
  ⟨(some 89), none, .pick (.t 83) (.c (.s (.d (.bool true)))) (.t 88)⟩, 
  ⟨(some 90), none, .mv (.t 89)⟩, 
  ⟨(some 91), some (90, false), .fadr 5 (.t 15)⟩, 
  ⟨(some 92), some (90, false), .load false 1 (.t 91)⟩, 
  ⟨(some 93), some (90, false), .mv (.t 9)⟩, 
  ⟨(some 94), some (90, false), .call (.fn 19) [(.t 92), (.t 93)]⟩, 
  ⟨(some 95), some (90, false), .un .not (.t 94)⟩, 
  ⟨(some 96), none, .pick (.t 90) (.c (.s (.d (.bool true)))) (.t 95)⟩, 
  ⟨(some 97), none, .mv (.t 96)⟩, 
  ⟨(some 98), some (97, false), .load true 6 (.t 7)⟩, 
  ⟨(some 99), some (97, false), .call (.fn 16) [(.t 98)]⟩, 
  ⟨(some 100), some (97, false), .un .not (.t 99)⟩, 
  ⟨(some 101), none, .pick (.t 97) (.c (.s (.d (.bool true)))) (.t 100)⟩]
def c6r24 : List Opn := [
  ⟨(some 6), none, .mv (.c (.s (.d (.bool false))))⟩]
def c6r25 : List Opn := [
  ⟨(some 102), none, .bin .add (.t 27) (.c (.s (.d (.int .i64 1))))⟩, 
  ⟨(some 27), none, .mv (.t 102)⟩]
def c6l26 : C := .seq (.reg c6r5 none [2, 7, 8, 9, 25, 26, 27, 28]) (.seq (.cond (.t 28) (.skip) (.exit 0)) (.seq (.blk 1 (.seq (.reg c6r6 none [2, 7, 8, 9, 10, 11, 25, 26, 27]) (.seq (.seq (.reg c6r7 none [2, 7, 8, 9, 10, 11, 25, 26, 27, 33]) (.cond (.t 33) (.exit 0) (.skip))) (.seq (.reg c6r8 none [2, 7, 8, 9, 10, 11, 25, 26, 27]) (.seq (.reg c6r9 none [2, 7, 8, 9, 11, 12, 25, 26, 27]) (.seq (.reg c6r10 none [2, 7, 8, 9, 11, 12, 13, 25, 26, 27]) (.seq (.reg c6r11 none [2, 7, 8, 9, 11, 12, 13, 25, 26, 27]) (.seq (.seq (.reg c6r12 none [2, 7, 8, 9, 11, 12, 13, 25, 26, 27, 46]) (.cond (.t 46) (.reg c6r13 none [2, 7, 8, 9, 11, 12, 13, 14, 25, 26, 27]) (.reg c6r14 none [2, 7, 8, 9, 11, 12, 13, 14, 25, 26, 27]))) (.seq (.seq (.reg c6r15 none [2, 7, 8, 9, 11, 12, 13, 14, 25, 26, 27, 60]) (.cond (.t 60) (.seq (.seq (.reg c6r16 none [2, 7, 8, 9, 25, 26, 27, 66]) (.cond (.t 66) (.seq (.reg c6r17 none [6]) (.ret)) (.skip))) (.exit 1)) (.skip))) (.seq (.seq (.reg c6r18 none [2, 7, 8, 9, 11, 12, 13, 25, 26, 27]) (.seq (.reg c6r19 none [2, 7, 8, 9, 11, 13, 25, 26, 27, 72]) (.cond (.t 72) (.reg c6r20 none [2, 7, 8, 9, 13, 25, 26, 27]) (.skip)))) (.seq (.reg c6r21 none [2, 7, 8, 9, 13, 15, 16, 25, 26, 27]) (.seq (.reg c6r22 none [2, 7, 8, 9, 15, 16, 25, 26, 27]) (.seq (.reg c6r23 none [2, 7, 8, 9, 25, 26, 27, 101]) (.cond (.t 101) (.seq (.reg c6r24 none [6]) (.ret)) (.skip))))))))))))))) (.reg c6r25 none [2, 7, 8, 9, 25, 26, 27])))
def c6r26 : List Opn := [
  ⟨(some 103), none, .call (.fn 14) []⟩, 
  ⟨(some 104), none, .mv (.t 103)⟩, 
  ⟨(some 105), some (104, true), .mv (.t 8)⟩, 
  ⟨(some 106), some (104, true), .bin .eql (.t 105) (.c (.s (.d (.int .i64 0))))⟩, 
  ⟨(some 107), none, .pick (.t 104) (.t 106) (.c (.s (.d (.bool false))))⟩, 
  ⟨(some 6), none, .mv (.t 107)⟩]
def c6 : C := .seq (.reg c6r0 none [0, 1, 2]) (.seq (.reg c6r1 none [0, 1, 2]) (.seq (.reg c6r2 none [1, 2, 7, 8]) (.seq (.reg c6r3 none [1, 2, 7, 8, 9]) (.seq (.seq (.reg c6r4 none [2, 7, 8, 9, 25, 26, 27]) (.blk 0 (.loop c6l26))) (.seq (.reg c6r26 none [6]) (.ret))))))
def k6 : List (Nat × List Nat) := [(26, [6]), (25, [2, 7, 8, 9, 25, 26, 27]), (24, [6]), (23, [2, 7, 8, 9, 25, 26, 27, 101]), (22, [2, 7, 8, 9, 15, 16, 25, 26, 27]), (21, [2, 7, 8, 9, 13, 15, 16, 25, 26, 27]), (20, [2, 7, 8, 9, 13, 25, 26, 27]), (19, [2, 7, 8, 9, 11, 13, 25, 26, 27, 72]), (18, [2, 7, 8, 9, 11, 12, 13, 25, 26, 27]), (17, [6]), (16, [2, 7, 8, 9, 25, 26, 27, 66]), (15, [2, 7, 8, 9, 11, 12, 13, 14, 25, 26, 27, 60]), (13, [2, 7, 8, 9, 11, 12, 13, 14, 25, 26, 27]), (14, [2, 7, 8, 9, 11, 12, 13, 14, 25, 26, 27]), (12, [2, 7, 8, 9, 11, 12, 13, 25, 26, 27, 46]), (11, [2, 7, 8, 9, 11, 12, 13, 25, 26, 27]), (10, [2, 7, 8, 9, 11, 12, 13, 25, 26, 27]), (9, [2, 7, 8, 9, 11, 12, 25, 26, 27]), (8, [2, 7, 8, 9, 10, 11, 25, 26, 27]), (7, [2, 7, 8, 9, 10, 11, 25, 26, 27, 33]), (6, [2, 7, 8, 9, 10, 11, 25, 26, 27]), (5, [2, 7, 8, 9, 25, 26, 27, 28]), (4, [2, 7, 8, 9, 25, 26, 27]), (3, [1, 2, 7, 8, 9]), (2, [1, 2, 7, 8]), (1, [0, 1, 2]), (0, [0, 1, 2])]
theorem cc6 : (Try.f6.body).bind (cC Try.prog 108 k6) = some c6 := by kernel_rfl
def rv6 : List RV := [.t 6]
theorem cr6 : cRVs Try.prog Try.f6.results.toList = some rv6 := by kernel_rfl
theorem f_law10_LedgerGoes_l26_ok (rows : (List (List Str))) (renews : (List Bool)) (t : api_Ledger × Int) (y_ : Bool) (R_ : St → Prop) (hR : (Ret Try.prog glP [] rv6 (.b (.s (.d (.bool y_))))) = R_) : ∀ (m_ : Nat) (all : (List Str)) (v27 : Int) (l : (List Str)) (l2 : (List api_Write)) (l3 : Int) (l4 : Int) (l5 : Int) (l6 : (List Str)) (res_ : ((List Str) × Int × (List Str) × (List api_Write) × Int × Int × Int × (List Str)) ⊕ (Bool)) (h : f_law10_LedgerGoes_l26 rows renews t m_ all v27 l l2 l3 l4 l5 l6 = some res_) (k_ : List It) (hx : ∀ s_ : (List Str) × Int × (List Str) × (List api_Write) × Int × Int × Int × (List Str), res_ = .inl s_ → W Try.prog glP 108 k_ ⟨lkT [(2, .b (.s (.d (.sl (renews.map eB))))), (7, .b (.s (.ptr 7 1 0 0))), (8, .b (.s (.d (.int .i64 t.2)))), (9, .b (.s (.d (.sl (s_.1.map eS))))), (25, .b (.s (.d (.sl (rows.map (eL eS)))))), (26, .b (.s (.d (.int .i64 (rows.length : Int))))), (27, .b (.s (.d (.int .i64 s_.2.1))))], lkG [(7, ⟨6, [[(.d (.sl (s_.2.2.1.map eS))), (.d (.sl (s_.2.2.2.1.map e_api_Write))), (.d (.int .i64 s_.2.2.2.2.1)), (.d (.int .i64 s_.2.2.2.2.2.1)), (.d (.int .i64 s_.2.2.2.2.2.2.1)), (.d (.sl (s_.2.2.2.2.2.2.2.map eS)))]], false⟩)]⟩ R_) (hr : ∀ z_ : Bool, res_ = .inr z_ → z_ = y_), W Try.prog glP 108 (.c c6l26 :: .lp c6l26 :: .blk 0 :: k_) ⟨lkT [(2, .b (.s (.d (.sl (renews.map eB))))), (7, .b (.s (.ptr 7 1 0 0))), (8, .b (.s (.d (.int .i64 t.2)))), (9, .b (.s (.d (.sl (all.map eS))))), (25, .b (.s (.d (.sl (rows.map (eL eS)))))), (26, .b (.s (.d (.int .i64 (rows.length : Int))))), (27, .b (.s (.d (.int .i64 v27))))], lkG [(7, ⟨6, [[(.d (.sl (l.map eS))), (.d (.sl (l2.map e_api_Write))), (.d (.int .i64 l3)), (.d (.int .i64 l4)), (.d (.int .i64 l5)), (.d (.sl (l6.map eS)))]], false⟩)]⟩ R_ := by
  intro m_; induction m_ with
  | zero => intro all v27 l l2 l3 l4 l5 l6 res_ h; rw [f_law10_LedgerGoes_l26.eq_1] at h; cases h
  | succ m_ ih =>
    intro all v27 l l2 l3 l4 l5 l6 res_ h k_ hx hr; rw [f_law10_LedgerGoes_l26.eq_2] at h; refine W.cdef c6l26.eq_1 ?_
    refine .seq ?_
    refine Rw.walk ?_
    simp only [wz, wd, ws, Nat.reduceAdd, Nat.reduceSub, Nat.reduceMul, Nat.reduceLeDiff, Nat.reduceEqDiff, Nat.reduceLT, Nat.reduceBEq, reduceIte, reduceCtorEq, Int.reduceToNat, Nat.reduceShiftRight, Nat.reduceAnd, Nat.reduceBneDiff, Nat.reduceBNe, c6r5, semI.eq_10, semI.eq_11, semI.eq_3, semI.eq_5, semI.eq_7, e_api_Ledger, e_api_Disk, e_api_Write]
    refine .seq ?_
    refine .cond (p := (decide (v27 < (rows.length : Int)))) (by first | rfl | simp only [wz, wd, ws, Nat.reduceAdd, Nat.reduceSub, Nat.reduceMul, Nat.reduceLeDiff, Nat.reduceEqDiff, Nat.reduceLT, Nat.reduceBEq, reduceIte, reduceCtorEq, Int.reduceToNat, Nat.reduceShiftRight, Nat.reduceAnd, Nat.reduceBneDiff, Nat.reduceBNe]) (fun h1 => ?_) (fun h1 => ?_)
    · rw [ite_t h1] at h
      refine .skip ?_
      refine .seq ?_
      refine .blk ?_
      refine .seq ?_
      refine Rw.walk ?_
      simp only [wz, wd, ws, Nat.reduceAdd, Nat.reduceSub, Nat.reduceMul, Nat.reduceLeDiff, Nat.reduceEqDiff, Nat.reduceLT, Nat.reduceBEq, reduceIte, reduceCtorEq, Int.reduceToNat, Nat.reduceShiftRight, Nat.reduceAnd, Nat.reduceBneDiff, Nat.reduceBNe, c6r6, semI.eq_10, semI.eq_11, semI.eq_3, semI.eq_5, semI.eq_7, e_api_Ledger, e_api_Disk, e_api_Write]
      obtain ⟨x, e3, h⟩ := Option.bind_eq_some_iff.1 h
      refine Go1.of (sem_iadr (eL_len _) e3 (by rfl) (by rfl)) ?_
      simp only [wz, wd, ws, Nat.reduceAdd, Nat.reduceSub, Nat.reduceMul, Nat.reduceLeDiff, Nat.reduceEqDiff, Nat.reduceLT, Nat.reduceBEq, reduceIte, reduceCtorEq, Int.reduceToNat, Nat.reduceShiftRight, Nat.reduceAnd, Nat.reduceBneDiff, Nat.reduceBNe, c6r6, semI.eq_10, semI.eq_11, semI.eq_3, semI.eq_5, semI.eq_7, e_api_Ledger, e_api_Disk, e_api_Write]
      refine .seq ?_
      refine .seq ?_
      refine Rw.walk ?_
      simp only [wz, wd, ws, Nat.reduceAdd, Nat.reduceSub, Nat.reduceMul, Nat.reduceLeDiff, Nat.reduceEqDiff, Nat.reduceLT, Nat.reduceBEq, reduceIte, reduceCtorEq, Int.reduceToNat, Nat.reduceShiftRight, Nat.reduceAnd, Nat.reduceBneDiff, Nat.reduceBNe, c6r7, semI.eq_10, semI.eq_11, semI.eq_3, semI.eq_5, semI.eq_7, e_api_Ledger, e_api_Disk, e_api_Write]
      refine .cond (p := (decide (v27 ≥ 16))) (by first | rfl | simp only [wz, wd, ws, Nat.reduceAdd, Nat.reduceSub, Nat.reduceMul, Nat.reduceLeDiff, Nat.reduceEqDiff, Nat.reduceLT, Nat.reduceBEq, reduceIte, reduceCtorEq, Int.reduceToNat, Nat.reduceShiftRight, Nat.reduceAnd, Nat.reduceBneDiff, Nat.reduceBNe]) (fun h1 => ?_) (fun h1 => ?_)
      · rw [ite_t h1] at h
        refine .exit rfl ?_
        obtain rfl := Option.some.inj h
        refine .weak (Imp.co [] _ _ ?_ ?_ ?_ ?_ ?_) (hx _ rfl) <;> simp only [wz, wd, ws, Nat.reduceAdd, Nat.reduceSub, Nat.reduceMul, Nat.reduceLeDiff, Nat.reduceEqDiff, Nat.reduceLT, Nat.reduceBEq, reduceIte, reduceCtorEq, Int.reduceToNat, Nat.reduceShiftRight, Nat.reduceAnd, Nat.reduceBneDiff, Nat.reduceBNe, wi, er_nil, e_api_Ledger, e_api_Disk, e_api_Write]
      · rw [ite_f h1] at h
        refine .skip ?_
        refine .seq ?_
        refine Rw.walk ?_
        simp only [wz, wd, ws, Nat.reduceAdd, Nat.reduceSub, Nat.reduceMul, Nat.reduceLeDiff, Nat.reduceEqDiff, Nat.reduceLT, Nat.reduceBEq, reduceIte, reduceCtorEq, Int.reduceToNat, Nat.reduceShiftRight, Nat.reduceAnd, Nat.reduceBneDiff, Nat.reduceBNe, c6r8, semI.eq_10, semI.eq_11, semI.eq_3, semI.eq_5, semI.eq_7, e_api_Ledger, e_api_Disk, e_api_Write]
        obtain ⟨t2, e4, h⟩ := Option.bind_eq_some_iff.1 h
        refine call_funO' [] ⟨trivial, trivial, trivial⟩ rfl ?_ (f_law10_texts_ok _ _ e4) rfl (.inl rfl) ?_
        · simp only [wz, wd, ws, Nat.reduceAdd, Nat.reduceSub, Nat.reduceMul, Nat.reduceLeDiff, Nat.reduceEqDiff, Nat.reduceLT, Nat.reduceBEq, reduceIte, reduceCtorEq, Int.reduceToNat, Nat.reduceShiftRight, Nat.reduceAnd, Nat.reduceBneDiff, Nat.reduceBNe, e_api_Ledger, e_api_Disk, e_api_Write]
        simp only [wz, wd, ws, Nat.reduceAdd, Nat.reduceSub, Nat.reduceMul, Nat.reduceLeDiff, Nat.reduceEqDiff, Nat.reduceLT, Nat.reduceBEq, reduceIte, reduceCtorEq, Int.reduceToNat, Nat.reduceShiftRight, Nat.reduceAnd, Nat.reduceBneDiff, Nat.reduceBNe, c6r8, semI.eq_10, semI.eq_11, semI.eq_3, semI.eq_5, semI.eq_7, e_api_Ledger, e_api_Disk, e_api_Write]
        refine .seq ?_
        refine Rw.walk ?_
        simp only [wz, wd, ws, Nat.reduceAdd, Nat.reduceSub, Nat.reduceMul, Nat.reduceLeDiff, Nat.reduceEqDiff, Nat.reduceLT, Nat.reduceBEq, reduceIte, reduceCtorEq, Int.reduceToNat, Nat.reduceShiftRight, Nat.reduceAnd, Nat.reduceBneDiff, Nat.reduceBNe, c6r9, semI.eq_10, semI.eq_11, semI.eq_3, semI.eq_5, semI.eq_7, e_api_Ledger, e_api_Disk, e_api_Write]
        obtain ⟨x2, e5, h⟩ := Option.bind_eq_some_iff.1 h
        refine call_alt (v := .b (.s (.d (.ref [(.bool x2)] 0)))) rfl rfl (by simp only [wz, wd, ws, Nat.reduceAdd, Nat.reduceSub, Nat.reduceMul, Nat.reduceLeDiff, Nat.reduceEqDiff, Nat.reduceLT, Nat.reduceBEq, reduceIte, reduceCtorEq, Int.reduceToNat, Nat.reduceShiftRight, Nat.reduceAnd, Nat.reduceBneDiff, Nat.reduceBNe]) (fun q => ⟨_, sem_iadr (enc := eB) (l := renews) eB_len (gx_iff e5 (by simpa using q)) rfl rfl, trivial⟩) ?_
        simp only [wz, wd, ws, Nat.reduceAdd, Nat.reduceSub, Nat.reduceMul, Nat.reduceLeDiff, Nat.reduceEqDiff, Nat.reduceLT, Nat.reduceBEq, reduceIte, reduceCtorEq, Int.reduceToNat, Nat.reduceShiftRight, Nat.reduceAnd, Nat.reduceBneDiff, Nat.reduceBNe, c6r9, semI.eq_10, semI.eq_11, semI.eq_3, semI.eq_5, semI.eq_7, e_api_Ledger, e_api_Disk, e_api_Write]
        refine call_alt (v := .b (.s (.d (.bool x2)))) rfl rfl (by simp only [wz, wd, ws, Nat.reduceAdd, Nat.reduceSub, Nat.reduceMul, Nat.reduceLeDiff, Nat.reduceEqDiff, Nat.reduceLT, Nat.reduceBEq, reduceIte, reduceCtorEq, Int.reduceToNat, Nat.reduceShiftRight, Nat.reduceAnd, Nat.reduceBneDiff, Nat.reduceBNe]) (fun q => ⟨_, by simp only [wz, wd, ws, Nat.reduceAdd, Nat.reduceSub, Nat.reduceMul, Nat.reduceLeDiff, Nat.reduceEqDiff, Nat.reduceLT, Nat.reduceBEq, reduceIte, reduceCtorEq, Int.reduceToNat, Nat.reduceShiftRight, Nat.reduceAnd, Nat.reduceBneDiff, Nat.reduceBNe, semI.eq_10, e_api_Ledger, e_api_Disk, e_api_Write], trivial⟩) ?_
        simp only [wz, wd, ws, Nat.reduceAdd, Nat.reduceSub, Nat.reduceMul, Nat.reduceLeDiff, Nat.reduceEqDiff, Nat.reduceLT, Nat.reduceBEq, reduceIte, reduceCtorEq, Int.reduceToNat, Nat.reduceShiftRight, Nat.reduceAnd, Nat.reduceBneDiff, Nat.reduceBNe, c6r9, semI.eq_10, semI.eq_11, semI.eq_3, semI.eq_5, semI.eq_7, e_api_Ledger, e_api_Disk, e_api_Write]
        repeat (refine And.intro ?_ ?_; · first | omega | (simp only [List.length_append, List.length_cons, List.length_nil] at *; omega) | (intro q; simp only [wz, wd, ws, Nat.reduceAdd, Nat.reduceSub, Nat.reduceMul, Nat.reduceLeDiff, Nat.reduceEqDiff, Nat.reduceLT, Nat.reduceBEq, reduceIte, reduceCtorEq, Int.reduceToNat, Nat.reduceShiftRight, Nat.reduceAnd, Nat.reduceBneDiff, Nat.reduceBNe, q]; done))
        refine .seq ?_
        refine Rw.walk ?_
        simp only [wz, wd, ws, Nat.reduceAdd, Nat.reduceSub, Nat.reduceMul, Nat.reduceLeDiff, Nat.reduceEqDiff, Nat.reduceLT, Nat.reduceBEq, reduceIte, reduceCtorEq, Int.reduceToNat, Nat.reduceShiftRight, Nat.reduceAnd, Nat.reduceBneDiff, Nat.reduceBNe, c6r10, semI.eq_10, semI.eq_11, semI.eq_3, semI.eq_5, semI.eq_7, e_api_Ledger, e_api_Disk, e_api_Write]
        refine .seq ?_
        refine Rw.walk ?_
        simp only [wz, wd, ws, Nat.reduceAdd, Nat.reduceSub, Nat.reduceMul, Nat.reduceLeDiff, Nat.reduceEqDiff, Nat.reduceLT, Nat.reduceBEq, reduceIte, reduceCtorEq, Int.reduceToNat, Nat.reduceShiftRight, Nat.reduceAnd, Nat.reduceBneDiff, Nat.reduceBNe, c6r11, semI.eq_10, semI.eq_11, semI.eq_3, semI.eq_5, semI.eq_7, e_api_Ledger, e_api_Disk, e_api_Write]
        refine .seq ?_
        obtain ⟨s, hf, h⟩ := Option.bind_eq_some_iff.1 h
        refine W.cut1 ⟨lkT [(2, .b (.s (.d (.sl (renews.map eB))))), (7, .b (.s (.ptr 7 1 0 0))), (8, .b (.s (.d (.int .i64 t.2)))), (9, .b (.s (.d (.sl (all.map eS))))), (11, .b (.s (.own 35 t2.length))), (12, .b (.s (.d (.bool ((decide (v27 < (renews.length : Int))) && x2))))), (13, .b (.s (.ptr 13 1 0 0))), (14, .b (.s (.d (.int .i64 s.1)))), (25, .b (.s (.d (.sl (rows.map (eL eS)))))), (26, .b (.s (.d (.int .i64 (rows.length : Int))))), (27, .b (.s (.d (.int .i64 v27))))], lkG [(7, ⟨6, [[(.d (.sl (l.map eS))), (.d (.sl (l2.map e_api_Write))), (.d (.int .i64 l3)), (.d (.int .i64 l4)), (.d (.int .i64 l5)), (.d (.sl (l6.map eS)))]], false⟩), (35, ⟨1, er eS t2, true⟩), (13, ⟨6, [[(.d (.sl (s.2.1.map eS))), (.d (.sl (s.2.2.1.map e_api_Write))), (.d (.int .i64 s.2.2.2.1)), (.d (.int .i64 s.2.2.2.2.1)), (.d (.int .i64 s.2.2.2.2.2.1)), (.d (.sl (s.2.2.2.2.2.2.map eS)))]], false⟩)]⟩ ?_ (fun tail => ?_)
        · skip
          refine .seq ?_
          refine .seq ?_
          refine Rw.walk ?_
          simp only [wz, wd, ws, Nat.reduceAdd, Nat.reduceSub, Nat.reduceMul, Nat.reduceLeDiff, Nat.reduceEqDiff, Nat.reduceLT, Nat.reduceBEq, reduceIte, reduceCtorEq, Int.reduceToNat, Nat.reduceShiftRight, Nat.reduceAnd, Nat.reduceBneDiff, Nat.reduceBNe, c6r15, semI.eq_10, semI.eq_11, semI.eq_3, semI.eq_5, semI.eq_7, e_api_Ledger, e_api_Disk, e_api_Write]
          refine .cond (p := (s.1 != 0)) (by first | rfl | simp only [wz, wd, ws, Nat.reduceAdd, Nat.reduceSub, Nat.reduceMul, Nat.reduceLeDiff, Nat.reduceEqDiff, Nat.reduceLT, Nat.reduceBEq, reduceIte, reduceCtorEq, Int.reduceToNat, Nat.reduceShiftRight, Nat.reduceAnd, Nat.reduceBneDiff, Nat.reduceBNe]) (fun h1 => ?_) (fun h1 => ?_)
          · rw [ite_t h1] at h
            refine .seq ?_
            refine .seq ?_
            refine Rw.walk ?_
            simp only [wz, wd, ws, Nat.reduceAdd, Nat.reduceSub, Nat.reduceMul, Nat.reduceLeDiff, Nat.reduceEqDiff, Nat.reduceLT, Nat.reduceBEq, reduceIte, reduceCtorEq, Int.reduceToNat, Nat.reduceShiftRight, Nat.reduceAnd, Nat.reduceBneDiff, Nat.reduceBNe, c6r16, semI.eq_10, semI.eq_11, semI.eq_3, semI.eq_5, semI.eq_7, e_api_Ledger, e_api_Disk, e_api_Write]
            repeat (refine And.intro ?_ ?_; · first | omega | (simp only [List.length_append, List.length_cons, List.length_nil] at *; omega) | (intro q; simp only [wz, wd, ws, Nat.reduceAdd, Nat.reduceSub, Nat.reduceMul, Nat.reduceLeDiff, Nat.reduceEqDiff, Nat.reduceLT, Nat.reduceBEq, reduceIte, reduceCtorEq, Int.reduceToNat, Nat.reduceShiftRight, Nat.reduceAnd, Nat.reduceBneDiff, Nat.reduceBNe, q]; done))
            refine .cond (p := ((s.1 != 13) && (s.1 != 2))) (by first | rfl | simp only [wz, wd, ws, Nat.reduceAdd, Nat.reduceSub, Nat.reduceMul, Nat.reduceLeDiff, Nat.reduceEqDiff, Nat.reduceLT, Nat.reduceBEq, reduceIte, reduceCtorEq, Int.reduceToNat, Nat.reduceShiftRight, Nat.reduceAnd, Nat.reduceBneDiff, Nat.reduceBNe]) (fun h1 => ?_) (fun h1 => ?_)
            · rw [ite_t h1] at h
              refine .seq ?_
              refine Rw.walk ?_
              simp only [wz, wd, ws, Nat.reduceAdd, Nat.reduceSub, Nat.reduceMul, Nat.reduceLeDiff, Nat.reduceEqDiff, Nat.reduceLT, Nat.reduceBEq, reduceIte, reduceCtorEq, Int.reduceToNat, Nat.reduceShiftRight, Nat.reduceAnd, Nat.reduceBneDiff, Nat.reduceBNe, c6r17, semI.eq_10, semI.eq_11, semI.eq_3, semI.eq_5, semI.eq_7, e_api_Ledger, e_api_Disk, e_api_Write]
              obtain rfl := Option.some.inj h; obtain rfl := hr _ rfl
              refine .ret ?_
              rw [← hR]
              simp only [wz, wd, ws, Nat.reduceAdd, Nat.reduceSub, Nat.reduceMul, Nat.reduceLeDiff, Nat.reduceEqDiff, Nat.reduceLT, Nat.reduceBEq, reduceIte, reduceCtorEq, Int.reduceToNat, Nat.reduceShiftRight, Nat.reduceAnd, Nat.reduceBneDiff, Nat.reduceBNe, rv6, e_api_Ledger, e_api_Disk, e_api_Write]
            · rw [ite_f h1] at h
              refine .skip ?_
              refine .exit rfl ?_
              refine Rw.walk ?_
              simp only [wz, wd, ws, Nat.reduceAdd, Nat.reduceSub, Nat.reduceMul, Nat.reduceLeDiff, Nat.reduceEqDiff, Nat.reduceLT, Nat.reduceBEq, reduceIte, reduceCtorEq, Int.reduceToNat, Nat.reduceShiftRight, Nat.reduceAnd, Nat.reduceBneDiff, Nat.reduceBNe, c6r25, semI.eq_10, semI.eq_11, semI.eq_3, semI.eq_5, semI.eq_7, e_api_Ledger, e_api_Disk, e_api_Write]
              refine .lp ?_
              refine .weak (Imp.co [] _ _ ?_ ?_ ?_ ?_ ?_) (ih all (IntKind.i64.wrap (v27 + 1)) l l2 l3 l4 l5 l6 _ h k_ hx hr) <;> simp only [wz, wd, ws, Nat.reduceAdd, Nat.reduceSub, Nat.reduceMul, Nat.reduceLeDiff, Nat.reduceEqDiff, Nat.reduceLT, Nat.reduceBEq, reduceIte, reduceCtorEq, Int.reduceToNat, Nat.reduceShiftRight, Nat.reduceAnd, Nat.reduceBneDiff, Nat.reduceBNe, wi, er_nil, e_api_Ledger, e_api_Disk, e_api_Write]
          · rw [ite_f h1] at h
            refine .skip ?_
            refine .seq ?_
            obtain ⟨s2, hf, h⟩ := Option.bind_eq_some_iff.1 h
            refine W.cut1 ⟨lkT [(2, .b (.s (.d (.sl (renews.map eB))))), (7, .b (.s (.ptr 7 1 0 0))), (8, .b (.s (.d (.int .i64 t.2)))), (9, .b (.s (.d (.sl (s2.map eS))))), (13, .b (.s (.ptr 13 1 0 0))), (25, .b (.s (.d (.sl (rows.map (eL eS)))))), (26, .b (.s (.d (.int .i64 (rows.length : Int))))), (27, .b (.s (.d (.int .i64 v27))))], lkG [(7, ⟨6, [[(.d (.sl (l.map eS))), (.d (.sl (l2.map e_api_Write))), (.d (.int .i64 l3)), (.d (.int .i64 l4)), (.d (.int .i64 l5)), (.d (.sl (l6.map eS)))]], false⟩), (13, ⟨6, [[(.d (.sl (s.2.1.map eS))), (.d (.sl (s.2.2.1.map e_api_Write))), (.d (.int .i64 s.2.2.2.1)), (.d (.int .i64 s.2.2.2.2.1)), (.d (.int .i64 s.2.2.2.2.2.1)), (.d (.sl (s.2.2.2.2.2.2.map eS)))]], false⟩)]⟩ ?_ (fun tail => ?_)
            · skip
              refine .seq ?_
              refine Rw.walk ?_
              simp only [wz, wd, ws, Nat.reduceAdd, Nat.reduceSub, Nat.reduceMul, Nat.reduceLeDiff, Nat.reduceEqDiff, Nat.reduceLT, Nat.reduceBEq, reduceIte, reduceCtorEq, Int.reduceToNat, Nat.reduceShiftRight, Nat.reduceAnd, Nat.reduceBneDiff, Nat.reduceBNe, c6r21, semI.eq_10, semI.eq_11, semI.eq_3, semI.eq_5, semI.eq_7, e_api_Ledger, e_api_Disk, e_api_Write]
              obtain ⟨t3, e6, h⟩ := Option.bind_eq_some_iff.1 h
              refine call_fun [] true ⟨trivial, trivial, trivial⟩ rfl ?_ (f_ledger_Open_ok _ _ e6) (fun h => by cases h) (fun i hi => by cases hi) ?_
              · simp only [wz, wd, ws, Nat.reduceAdd, Nat.reduceSub, Nat.reduceMul, Nat.reduceLeDiff, Nat.reduceEqDiff, Nat.reduceLT, Nat.reduceBEq, reduceIte, reduceCtorEq, Int.reduceToNat, Nat.reduceShiftRight, Nat.reduceAnd, Nat.reduceBneDiff, Nat.reduceBNe, e_api_Ledger, e_api_Disk, e_api_Write]
              simp only [wz, wd, ws, Nat.reduceAdd, Nat.reduceSub, Nat.reduceMul, Nat.reduceLeDiff, Nat.reduceEqDiff, Nat.reduceLT, Nat.reduceBEq, reduceIte, reduceCtorEq, Int.reduceToNat, Nat.reduceShiftRight, Nat.reduceAnd, Nat.reduceBneDiff, Nat.reduceBNe, c6r21, semI.eq_10, semI.eq_11, semI.eq_3, semI.eq_5, semI.eq_7, e_api_Ledger, e_api_Disk, e_api_Write]
              refine .seq ?_
              refine Rw.walk ?_
              simp only [wz, wd, ws, Nat.reduceAdd, Nat.reduceSub, Nat.reduceMul, Nat.reduceLeDiff, Nat.reduceEqDiff, Nat.reduceLT, Nat.reduceBEq, reduceIte, reduceCtorEq, Int.reduceToNat, Nat.reduceShiftRight, Nat.reduceAnd, Nat.reduceBneDiff, Nat.reduceBNe, c6r22, semI.eq_10, semI.eq_11, semI.eq_3, semI.eq_5, semI.eq_7, e_api_Ledger, e_api_Disk, e_api_Write]
              refine .seq ?_
              refine Rw.walk ?_
              simp only [wz, wd, ws, Nat.reduceAdd, Nat.reduceSub, Nat.reduceMul, Nat.reduceLeDiff, Nat.reduceEqDiff, Nat.reduceLT, Nat.reduceBEq, reduceIte, reduceCtorEq, Int.reduceToNat, Nat.reduceShiftRight, Nat.reduceAnd, Nat.reduceBneDiff, Nat.reduceBNe, c6r23, semI.eq_10, semI.eq_11, semI.eq_3, semI.eq_5, semI.eq_7, e_api_Ledger, e_api_Disk, e_api_Write]
              refine call_alt (v := .b (.s (.d (.sl (s.2.2.2.2.2.2.map eS))))) rfl rfl (by simp only [wz, wd, ws, Nat.reduceAdd, Nat.reduceSub, Nat.reduceMul, Nat.reduceLeDiff, Nat.reduceEqDiff, Nat.reduceLT, Nat.reduceBEq, reduceIte, reduceCtorEq, Int.reduceToNat, Nat.reduceShiftRight, Nat.reduceAnd, Nat.reduceBneDiff, Nat.reduceBNe]) (fun q => ⟨_, by simp only [wz, wd, ws, Nat.reduceAdd, Nat.reduceSub, Nat.reduceMul, Nat.reduceLeDiff, Nat.reduceEqDiff, Nat.reduceLT, Nat.reduceBEq, reduceIte, reduceCtorEq, Int.reduceToNat, Nat.reduceShiftRight, Nat.reduceAnd, Nat.reduceBneDiff, Nat.reduceBNe, semI.eq_10, e_api_Ledger, e_api_Disk, e_api_Write], trivial⟩) ?_
              simp only [wz, wd, ws, Nat.reduceAdd, Nat.reduceSub, Nat.reduceMul, Nat.reduceLeDiff, Nat.reduceEqDiff, Nat.reduceLT, Nat.reduceBEq, reduceIte, reduceCtorEq, Int.reduceToNat, Nat.reduceShiftRight, Nat.reduceAnd, Nat.reduceBneDiff, Nat.reduceBNe, c6r23, semI.eq_10, semI.eq_11, semI.eq_3, semI.eq_5, semI.eq_7, e_api_Ledger, e_api_Disk, e_api_Write]
              obtain ⟨t4, e7, h⟩ := Option.bind_eq_some_iff.1 h
              refine call_funG [] rfl (by simp only [wz, wd, ws, Nat.reduceAdd, Nat.reduceSub, Nat.reduceMul, Nat.reduceLeDiff, Nat.reduceEqDiff, Nat.reduceLT, Nat.reduceBEq, reduceIte, reduceCtorEq, Int.reduceToNat, Nat.reduceShiftRight, Nat.reduceAnd, Nat.reduceBneDiff, Nat.reduceBNe]) rfl ?_ (fun q => (f_ref01_Same_ok _ _ _ (gx_iff e7 (by simpa using q)))) rfl (fun i hi => by cases hi) ?_
              · simp only [wz, wd, ws, Nat.reduceAdd, Nat.reduceSub, Nat.reduceMul, Nat.reduceLeDiff, Nat.reduceEqDiff, Nat.reduceLT, Nat.reduceBEq, reduceIte, reduceCtorEq, Int.reduceToNat, Nat.reduceShiftRight, Nat.reduceAnd, Nat.reduceBneDiff, Nat.reduceBNe, e_api_Ledger, e_api_Disk, e_api_Write]
              simp only [wz, wd, ws, Nat.reduceAdd, Nat.reduceSub, Nat.reduceMul, Nat.reduceLeDiff, Nat.reduceEqDiff, Nat.reduceLT, Nat.reduceBEq, reduceIte, reduceCtorEq, Int.reduceToNat, Nat.reduceShiftRight, Nat.reduceAnd, Nat.reduceBneDiff, Nat.reduceBNe, c6r23, semI.eq_10, semI.eq_11, semI.eq_3, semI.eq_5, semI.eq_7, e_api_Ledger, e_api_Disk, e_api_Write]
              repeat (refine And.intro ?_ ?_; · first | omega | (simp only [List.length_append, List.length_cons, List.length_nil] at *; omega) | (intro q; simp only [wz, wd, ws, Nat.reduceAdd, Nat.reduceSub, Nat.reduceMul, Nat.reduceLeDiff, Nat.reduceEqDiff, Nat.reduceLT, Nat.reduceBEq, reduceIte, reduceCtorEq, Int.reduceToNat, Nat.reduceShiftRight, Nat.reduceAnd, Nat.reduceBneDiff, Nat.reduceBNe, q]; done))
              refine call_alt (v := .b (.s (.d (.sl (t3.1.Entries.map eS))))) rfl rfl (by simp only [wz, wd, ws, Nat.reduceAdd, Nat.reduceSub, Nat.reduceMul, Nat.reduceLeDiff, Nat.reduceEqDiff, Nat.reduceLT, Nat.reduceBEq, reduceIte, reduceCtorEq, Int.reduceToNat, Nat.reduceShiftRight, Nat.reduceAnd, Nat.reduceBneDiff, Nat.reduceBNe]) (fun q => ⟨_, by simp only [wz, wd, ws, Nat.reduceAdd, Nat.reduceSub, Nat.reduceMul, Nat.reduceLeDiff, Nat.reduceEqDiff, Nat.reduceLT, Nat.reduceBEq, reduceIte, reduceCtorEq, Int.reduceToNat, Nat.reduceShiftRight, Nat.reduceAnd, Nat.reduceBneDiff, Nat.reduceBNe, semI.eq_10, e_api_Ledger, e_api_Disk, e_api_Write], trivial⟩) ?_
              simp only [wz, wd, ws, Nat.reduceAdd, Nat.reduceSub, Nat.reduceMul, Nat.reduceLeDiff, Nat.reduceEqDiff, Nat.reduceLT, Nat.reduceBEq, reduceIte, reduceCtorEq, Int.reduceToNat, Nat.reduceShiftRight, Nat.reduceAnd, Nat.reduceBneDiff, Nat.reduceBNe, c6r23, semI.eq_10, semI.eq_11, semI.eq_3, semI.eq_5, semI.eq_7, e_api_Ledger, e_api_Disk, e_api_Write]
              obtain ⟨t5, e8, h⟩ := Option.bind_eq_some_iff.1 h
              refine call_funG [] rfl (by simp only [wz, wd, ws, Nat.reduceAdd, Nat.reduceSub, Nat.reduceMul, Nat.reduceLeDiff, Nat.reduceEqDiff, Nat.reduceLT, Nat.reduceBEq, reduceIte, reduceCtorEq, Int.reduceToNat, Nat.reduceShiftRight, Nat.reduceAnd, Nat.reduceBneDiff, Nat.reduceBNe]) rfl ?_ (fun q => (f_ref01_Same_ok _ _ _ (gx_iff e8 (by simpa using q)))) rfl (fun i hi => by cases hi) ?_
              · simp only [wz, wd, ws, Nat.reduceAdd, Nat.reduceSub, Nat.reduceMul, Nat.reduceLeDiff, Nat.reduceEqDiff, Nat.reduceLT, Nat.reduceBEq, reduceIte, reduceCtorEq, Int.reduceToNat, Nat.reduceShiftRight, Nat.reduceAnd, Nat.reduceBneDiff, Nat.reduceBNe, e_api_Ledger, e_api_Disk, e_api_Write]
              simp only [wz, wd, ws, Nat.reduceAdd, Nat.reduceSub, Nat.reduceMul, Nat.reduceLeDiff, Nat.reduceEqDiff, Nat.reduceLT, Nat.reduceBEq, reduceIte, reduceCtorEq, Int.reduceToNat, Nat.reduceShiftRight, Nat.reduceAnd, Nat.reduceBneDiff, Nat.reduceBNe, c6r23, semI.eq_10, semI.eq_11, semI.eq_3, semI.eq_5, semI.eq_7, e_api_Ledger, e_api_Disk, e_api_Write]
              repeat (refine And.intro ?_ ?_; · first | omega | (simp only [List.length_append, List.length_cons, List.length_nil] at *; omega) | (intro q; simp only [wz, wd, ws, Nat.reduceAdd, Nat.reduceSub, Nat.reduceMul, Nat.reduceLeDiff, Nat.reduceEqDiff, Nat.reduceLT, Nat.reduceBEq, reduceIte, reduceCtorEq, Int.reduceToNat, Nat.reduceShiftRight, Nat.reduceAnd, Nat.reduceBneDiff, Nat.reduceBNe, q]; done))
              refine call_alt (v := .b (.agg [(.d (.sl (s.2.1.map eS))), (.d (.sl (s.2.2.1.map e_api_Write))), (.d (.int .i64 s.2.2.2.1)), (.d (.int .i64 s.2.2.2.2.1)), (.d (.int .i64 s.2.2.2.2.2.1)), (.d (.sl (s.2.2.2.2.2.2.map eS)))])) rfl rfl (by simp only [wz, wd, ws, Nat.reduceAdd, Nat.reduceSub, Nat.reduceMul, Nat.reduceLeDiff, Nat.reduceEqDiff, Nat.reduceLT, Nat.reduceBEq, reduceIte, reduceCtorEq, Int.reduceToNat, Nat.reduceShiftRight, Nat.reduceAnd, Nat.reduceBneDiff, Nat.reduceBNe]) (fun q => ⟨_, by simp only [wz, wd, ws, Nat.reduceAdd, Nat.reduceSub, Nat.reduceMul, Nat.reduceLeDiff, Nat.reduceEqDiff, Nat.reduceLT, Nat.reduceBEq, reduceIte, reduceCtorEq, Int.reduceToNat, Nat.reduceShiftRight, Nat.reduceAnd, Nat.reduceBneDiff, Nat.reduceBNe, semI.eq_10, e_api_Ledger, e_api_Disk, e_api_Write], trivial⟩) ?_
              simp only [wz, wd, ws, Nat.reduceAdd, Nat.reduceSub, Nat.reduceMul, Nat.reduceLeDiff, Nat.reduceEqDiff, Nat.reduceLT, Nat.reduceBEq, reduceIte, reduceCtorEq, Int.reduceToNat, Nat.reduceShiftRight, Nat.reduceAnd, Nat.reduceBneDiff, Nat.reduceBNe, c6r23, semI.eq_10, semI.eq_11, semI.eq_3, semI.eq_5, semI.eq_7, e_api_Ledger, e_api_Disk, e_api_Write]
              obtain ⟨t6, e9, h⟩ := Option.bind_eq_some_iff.1 h
              refine call_funG [] rfl (by simp only [wz, wd, ws, Nat.reduceAdd, Nat.reduceSub, Nat.reduceMul, Nat.reduceLeDiff, Nat.reduceEqDiff, Nat.reduceLT, Nat.reduceBEq, reduceIte, reduceCtorEq, Int.reduceToNat, Nat.reduceShiftRight, Nat.reduceAnd, Nat.reduceBneDiff, Nat.reduceBNe]) rfl ?_ (fun q => (f_ledger_Right_ok _ _ (gx_iff e9 (by simpa using q)))) rfl (fun i hi => by cases hi) ?_
              · simp only [wz, wd, ws, Nat.reduceAdd, Nat.reduceSub, Nat.reduceMul, Nat.reduceLeDiff, Nat.reduceEqDiff, Nat.reduceLT, Nat.reduceBEq, reduceIte, reduceCtorEq, Int.reduceToNat, Nat.reduceShiftRight, Nat.reduceAnd, Nat.reduceBneDiff, Nat.reduceBNe, e_api_Ledger, e_api_Disk, e_api_Write]
              simp only [wz, wd, ws, Nat.reduceAdd, Nat.reduceSub, Nat.reduceMul, Nat.reduceLeDiff, Nat.reduceEqDiff, Nat.reduceLT, Nat.reduceBEq, reduceIte, reduceCtorEq, Int.reduceToNat, Nat.reduceShiftRight, Nat.reduceAnd, Nat.reduceBneDiff, Nat.reduceBNe, c6r23, semI.eq_10, semI.eq_11, semI.eq_3, semI.eq_5, semI.eq_7, e_api_Ledger, e_api_Disk, e_api_Write]
              repeat (refine And.intro ?_ ?_; · first | omega | (simp only [List.length_append, List.length_cons, List.length_nil] at *; omega) | (intro q; simp only [wz, wd, ws, Nat.reduceAdd, Nat.reduceSub, Nat.reduceMul, Nat.reduceLeDiff, Nat.reduceEqDiff, Nat.reduceLT, Nat.reduceBEq, reduceIte, reduceCtorEq, Int.reduceToNat, Nat.reduceShiftRight, Nat.reduceAnd, Nat.reduceBneDiff, Nat.reduceBNe, q]; done))
              refine .cond (p := ((((t3.2 != 0) || (!t4)) || (!t5)) || (!t6))) (by first | rfl | simp only [wz, wd, ws, Nat.reduceAdd, Nat.reduceSub, Nat.reduceMul, Nat.reduceLeDiff, Nat.reduceEqDiff, Nat.reduceLT, Nat.reduceBEq, reduceIte, reduceCtorEq, Int.reduceToNat, Nat.reduceShiftRight, Nat.reduceAnd, Nat.reduceBneDiff, Nat.reduceBNe]) (fun h1 => ?_) (fun h1 => ?_)
              · rw [ite_t h1] at h
                refine .seq ?_
                refine Rw.walk ?_
                simp only [wz, wd, ws, Nat.reduceAdd, Nat.reduceSub, Nat.reduceMul, Nat.reduceLeDiff, Nat.reduceEqDiff, Nat.reduceLT, Nat.reduceBEq, reduceIte, reduceCtorEq, Int.reduceToNat, Nat.reduceShiftRight, Nat.reduceAnd, Nat.reduceBneDiff, Nat.reduceBNe, c6r24, semI.eq_10, semI.eq_11, semI.eq_3, semI.eq_5, semI.eq_7, e_api_Ledger, e_api_Disk, e_api_Write]
                obtain rfl := Option.some.inj h; obtain rfl := hr _ rfl
                refine .ret ?_
                rw [← hR]
                simp only [wz, wd, ws, Nat.reduceAdd, Nat.reduceSub, Nat.reduceMul, Nat.reduceLeDiff, Nat.reduceEqDiff, Nat.reduceLT, Nat.reduceBEq, reduceIte, reduceCtorEq, Int.reduceToNat, Nat.reduceShiftRight, Nat.reduceAnd, Nat.reduceBneDiff, Nat.reduceBNe, rv6, e_api_Ledger, e_api_Disk, e_api_Write]
              · rw [ite_f h1] at h
                refine .skip ?_
                refine .eblk ?_
                refine Rw.walk ?_
                simp only [wz, wd, ws, Nat.reduceAdd, Nat.reduceSub, Nat.reduceMul, Nat.reduceLeDiff, Nat.reduceEqDiff, Nat.reduceLT, Nat.reduceBEq, reduceIte, reduceCtorEq, Int.reduceToNat, Nat.reduceShiftRight, Nat.reduceAnd, Nat.reduceBneDiff, Nat.reduceBNe, c6r25, semI.eq_10, semI.eq_11, semI.eq_3, semI.eq_5, semI.eq_7, e_api_Ledger, e_api_Disk, e_api_Write]
                refine .lp ?_
                refine .weak (Imp.co [] _ _ ?_ ?_ ?_ ?_ ?_) (ih s2 (IntKind.i64.wrap (v27 + 1)) s.2.1 s.2.2.1 s.2.2.2.1 s.2.2.2.2.1 s.2.2.2.2.2.1 s.2.2.2.2.2.2 _ h k_ hx hr) <;> simp only [wz, wd, ws, Nat.reduceAdd, Nat.reduceSub, Nat.reduceMul, Nat.reduceLeDiff, Nat.reduceEqDiff, Nat.reduceLT, Nat.reduceBEq, reduceIte, reduceCtorEq, Int.reduceToNat, Nat.reduceShiftRight, Nat.reduceAnd, Nat.reduceBneDiff, Nat.reduceBNe, wi, er_nil, e_api_Ledger, e_api_Disk, e_api_Write]
            replace h := hf
            refine .seq ?_
            refine Rw.walk ?_
            simp only [wz, wd, ws, Nat.reduceAdd, Nat.reduceSub, Nat.reduceMul, Nat.reduceLeDiff, Nat.reduceEqDiff, Nat.reduceLT, Nat.reduceBEq, reduceIte, reduceCtorEq, Int.reduceToNat, Nat.reduceShiftRight, Nat.reduceAnd, Nat.reduceBneDiff, Nat.reduceBNe, c6r18, semI.eq_10, semI.eq_11, semI.eq_3, semI.eq_5, semI.eq_7, e_api_Ledger, e_api_Disk, e_api_Write]
            refine Go1.of (sem_bsl (enc := eS) (m := ([] : List Str)) eS_len (by rfl) (by rfl) (by rfl) trivial) ?_
            simp only [wz, wd, ws, Nat.reduceAdd, Nat.reduceSub, Nat.reduceMul, Nat.reduceLeDiff, Nat.reduceEqDiff, Nat.reduceLT, Nat.reduceBEq, reduceIte, reduceCtorEq, Int.reduceToNat, Nat.reduceShiftRight, Nat.reduceAnd, Nat.reduceBneDiff, Nat.reduceBNe, c6r18, semI.eq_10, semI.eq_11, semI.eq_3, semI.eq_5, semI.eq_7, e_api_Ledger, e_api_Disk, e_api_Write]
            obtain ⟨g10, h⟩ := gd_iff.1 h
            refine Go1.of (sem_app (enc := eS) (l := ([] : List Str)) (m := all) eS_len (by rfl) (by rfl) ((by rfl))) ?_
            simp only [wz, wd, ws, Nat.reduceAdd, Nat.reduceSub, Nat.reduceMul, Nat.reduceLeDiff, Nat.reduceEqDiff, Nat.reduceLT, Nat.reduceBEq, reduceIte, reduceCtorEq, Int.reduceToNat, Nat.reduceShiftRight, Nat.reduceAnd, Nat.reduceBneDiff, Nat.reduceBNe, c6r18, semI.eq_10, semI.eq_11, semI.eq_3, semI.eq_5, semI.eq_7, e_api_Ledger, e_api_Disk, e_api_Write]
            repeat (refine And.intro ?_ ?_; · first | omega | (simp only [List.length_append, List.length_cons, List.length_nil] at *; omega) | (intro q; simp only [wz, wd, ws, Nat.reduceAdd, Nat.reduceSub, Nat.reduceMul, Nat.reduceLeDiff, Nat.reduceEqDiff, Nat.reduceLT, Nat.reduceBEq, reduceIte, reduceCtorEq, Int.reduceToNat, Nat.reduceShiftRight, Nat.reduceAnd, Nat.reduceBneDiff, Nat.reduceBNe, q]; done))
            obtain ⟨g11, h⟩ := gd_iff.1 h
            refine Go1.of (sem_app (enc := eS) (l := (([] : List Str) ++ all)) (m := t2) eS_len (by rfl) (by rfl) (newV_own (m := t2) (by rfl) (by rfl))) ?_
            simp only [wz, wd, ws, Nat.reduceAdd, Nat.reduceSub, Nat.reduceMul, Nat.reduceLeDiff, Nat.reduceEqDiff, Nat.reduceLT, Nat.reduceBEq, reduceIte, reduceCtorEq, Int.reduceToNat, Nat.reduceShiftRight, Nat.reduceAnd, Nat.reduceBneDiff, Nat.reduceBNe, c6r18, semI.eq_10, semI.eq_11, semI.eq_3, semI.eq_5, semI.eq_7, e_api_Ledger, e_api_Disk, e_api_Write]
            repeat (refine And.intro ?_ ?_; · first | omega | (simp only [List.length_append, List.length_cons, List.length_nil] at *; omega) | (intro q; simp only [wz, wd, ws, Nat.reduceAdd, Nat.reduceSub, Nat.reduceMul, Nat.reduceLeDiff, Nat.reduceEqDiff, Nat.reduceLT, Nat.reduceBEq, reduceIte, reduceCtorEq, Int.reduceToNat, Nat.reduceShiftRight, Nat.reduceAnd, Nat.reduceBneDiff, Nat.reduceBNe, q]; done))
            refine .seq ?_
            refine Rw.walk ?_
            simp only [wz, wd, ws, Nat.reduceAdd, Nat.reduceSub, Nat.reduceMul, Nat.reduceLeDiff, Nat.reduceEqDiff, Nat.reduceLT, Nat.reduceBEq, reduceIte, reduceCtorEq, Int.reduceToNat, Nat.reduceShiftRight, Nat.reduceAnd, Nat.reduceBneDiff, Nat.reduceBNe, c6r19, semI.eq_10, semI.eq_11, semI.eq_3, semI.eq_5, semI.eq_7, e_api_Ledger, e_api_Disk, e_api_Write]
            refine .cond (p := ((decide (v27 < (renews.length : Int))) && x2)) (by first | rfl | simp only [wz, wd, ws, Nat.reduceAdd, Nat.reduceSub, Nat.reduceMul, Nat.reduceLeDiff, Nat.reduceEqDiff, Nat.reduceLT, Nat.reduceBEq, reduceIte, reduceCtorEq, Int.reduceToNat, Nat.reduceShiftRight, Nat.reduceAnd, Nat.reduceBneDiff, Nat.reduceBNe]) (fun h1 => ?_) (fun h1 => ?_)
            · rw [ite_t h1] at h
              refine Rw.walk ?_
              simp only [wz, wd, ws, Nat.reduceAdd, Nat.reduceSub, Nat.reduceMul, Nat.reduceLeDiff, Nat.reduceEqDiff, Nat.reduceLT, Nat.reduceBEq, reduceIte, reduceCtorEq, Int.reduceToNat, Nat.reduceShiftRight, Nat.reduceAnd, Nat.reduceBneDiff, Nat.reduceBNe, c6r20, semI.eq_10, semI.eq_11, semI.eq_3, semI.eq_5, semI.eq_7, e_api_Ledger, e_api_Disk, e_api_Write]
              obtain rfl := Option.some.inj h
              refine .weak (Imp.co [35] _ _ ?_ ?_ ?_ ?_ ?_) (tail) <;> simp only [wz, wd, ws, Nat.reduceAdd, Nat.reduceSub, Nat.reduceMul, Nat.reduceLeDiff, Nat.reduceEqDiff, Nat.reduceLT, Nat.reduceBEq, reduceIte, reduceCtorEq, Int.reduceToNat, Nat.reduceShiftRight, Nat.reduceAnd, Nat.reduceBneDiff, Nat.reduceBNe, wi, er_nil, e_api_Ledger, e_api_Disk, e_api_Write]
            · rw [ite_f h1] at h
              refine .skip ?_
              obtain rfl := Option.some.inj h
              refine .weak (Imp.co [67] _ _ ?_ ?_ ?_ ?_ ?_) (tail) <;> simp only [wz, wd, ws, Nat.reduceAdd, Nat.reduceSub, Nat.reduceMul, Nat.reduceLeDiff, Nat.reduceEqDiff, Nat.reduceLT, Nat.reduceBEq, reduceIte, reduceCtorEq, Int.reduceToNat, Nat.reduceShiftRight, Nat.reduceAnd, Nat.reduceBneDiff, Nat.reduceBNe, wi, er_nil, e_api_Ledger, e_api_Disk, e_api_Write]
        replace h := hf
        refine .seq ?_
        refine Rw.walk ?_
        simp only [wz, wd, ws, Nat.reduceAdd, Nat.reduceSub, Nat.reduceMul, Nat.reduceLeDiff, Nat.reduceEqDiff, Nat.reduceLT, Nat.reduceBEq, reduceIte, reduceCtorEq, Int.reduceToNat, Nat.reduceShiftRight, Nat.reduceAnd, Nat.reduceBneDiff, Nat.reduceBNe, c6r12, semI.eq_10, semI.eq_11, semI.eq_3, semI.eq_5, semI.eq_7, e_api_Ledger, e_api_Disk, e_api_Write]
        refine .cond (p := ((decide (v27 < (renews.length : Int))) && x2)) (by first | rfl | simp only [wz, wd, ws, Nat.reduceAdd, Nat.reduceSub, Nat.reduceMul, Nat.reduceLeDiff, Nat.reduceEqDiff, Nat.reduceLT, Nat.reduceBEq, reduceIte, reduceCtorEq, Int.reduceToNat, Nat.reduceShiftRight, Nat.reduceAnd, Nat.reduceBneDiff, Nat.reduceBNe]) (fun h1 => ?_) (fun h1 => ?_)
        · rw [ite_t h1] at h
          refine Rw.walk ?_
          simp only [wz, wd, ws, Nat.reduceAdd, Nat.reduceSub, Nat.reduceMul, Nat.reduceLeDiff, Nat.reduceEqDiff, Nat.reduceLT, Nat.reduceBEq, reduceIte, reduceCtorEq, Int.reduceToNat, Nat.reduceShiftRight, Nat.reduceAnd, Nat.reduceBneDiff, Nat.reduceBNe, c6r13, semI.eq_10, semI.eq_11, semI.eq_3, semI.eq_5, semI.eq_7, e_api_Ledger, e_api_Disk, e_api_Write]
          obtain ⟨t3, e12, h⟩ := Option.bind_eq_some_iff.1 h
          refine call_fun [35] true ⟨trivial, trivial, trivial, trivial⟩ rfl ?_ (f_ledger_Renew_ok _ _ _ e12) (fun h => by cases h) (fun i hi e he => coF_get (l := [35]) (by simp only [wz, wd, ws, Nat.reduceAdd, Nat.reduceSub, Nat.reduceMul, Nat.reduceLeDiff, Nat.reduceEqDiff, Nat.reduceLT, Nat.reduceBEq, reduceIte, reduceCtorEq, Int.reduceToNat, Nat.reduceShiftRight, Nat.reduceAnd, Nat.reduceBneDiff, Nat.reduceBNe, wi, e_api_Ledger, e_api_Disk, e_api_Write]) i e hi he) ?_
          · simp only [wz, wd, ws, Nat.reduceAdd, Nat.reduceSub, Nat.reduceMul, Nat.reduceLeDiff, Nat.reduceEqDiff, Nat.reduceLT, Nat.reduceBEq, reduceIte, reduceCtorEq, Int.reduceToNat, Nat.reduceShiftRight, Nat.reduceAnd, Nat.reduceBneDiff, Nat.reduceBNe, e_api_Ledger, e_api_Disk, e_api_Write, frz.eq_1, er_back]
          simp only [wz, wd, ws, Nat.reduceAdd, Nat.reduceSub, Nat.reduceMul, Nat.reduceLeDiff, Nat.reduceEqDiff, Nat.reduceLT, Nat.reduceBEq, reduceIte, reduceCtorEq, Int.reduceToNat, Nat.reduceShiftRight, Nat.reduceAnd, Nat.reduceBneDiff, Nat.reduceBNe, c6r13, semI.eq_10, semI.eq_11, semI.eq_3, semI.eq_5, semI.eq_7, e_api_Ledger, e_api_Disk, e_api_Write, frz.eq_1, er_back]
          obtain rfl := Option.some.inj h
          refine .weak (Imp.co [] _ _ ?_ ?_ ?_ ?_ ?_) (tail) <;> simp only [wz, wd, ws, Nat.reduceAdd, Nat.reduceSub, Nat.reduceMul, Nat.reduceLeDiff, Nat.reduceEqDiff, Nat.reduceLT, Nat.reduceBEq, reduceIte, reduceCtorEq, Int.reduceToNat, Nat.reduceShiftRight, Nat.reduceAnd, Nat.reduceBneDiff, Nat.reduceBNe, wi, er_nil, e_api_Ledger, e_api_Disk, e_api_Write]
        · rw [ite_f h1] at h
          refine Rw.walk ?_
          simp only [wz, wd, ws, Nat.reduceAdd, Nat.reduceSub, Nat.reduceMul, Nat.reduceLeDiff, Nat.reduceEqDiff, Nat.reduceLT, Nat.reduceBEq, reduceIte, reduceCtorEq, Int.reduceToNat, Nat.reduceShiftRight, Nat.reduceAnd, Nat.reduceBneDiff, Nat.reduceBNe, c6r14, semI.eq_10, semI.eq_11, semI.eq_3, semI.eq_5, semI.eq_7, e_api_Ledger, e_api_Disk, e_api_Write]
          obtain ⟨t3, e13, h⟩ := Option.bind_eq_some_iff.1 h
          refine call_fun [35] true ⟨trivial, trivial, trivial, trivial⟩ rfl ?_ (f_ledger_Add_ok _ _ _ e13) (fun h => by cases h) (fun i hi e he => coF_get (l := [35]) (by simp only [wz, wd, ws, Nat.reduceAdd, Nat.reduceSub, Nat.reduceMul, Nat.reduceLeDiff, Nat.reduceEqDiff, Nat.reduceLT, Nat.reduceBEq, reduceIte, reduceCtorEq, Int.reduceToNat, Nat.reduceShiftRight, Nat.reduceAnd, Nat.reduceBneDiff, Nat.reduceBNe, wi, e_api_Ledger, e_api_Disk, e_api_Write]) i e hi he) ?_
          · simp only [wz, wd, ws, Nat.reduceAdd, Nat.reduceSub, Nat.reduceMul, Nat.reduceLeDiff, Nat.reduceEqDiff, Nat.reduceLT, Nat.reduceBEq, reduceIte, reduceCtorEq, Int.reduceToNat, Nat.reduceShiftRight, Nat.reduceAnd, Nat.reduceBneDiff, Nat.reduceBNe, e_api_Ledger, e_api_Disk, e_api_Write, frz.eq_1, er_back]
          simp only [wz, wd, ws, Nat.reduceAdd, Nat.reduceSub, Nat.reduceMul, Nat.reduceLeDiff, Nat.reduceEqDiff, Nat.reduceLT, Nat.reduceBEq, reduceIte, reduceCtorEq, Int.reduceToNat, Nat.reduceShiftRight, Nat.reduceAnd, Nat.reduceBneDiff, Nat.reduceBNe, c6r14, semI.eq_10, semI.eq_11, semI.eq_3, semI.eq_5, semI.eq_7, e_api_Ledger, e_api_Disk, e_api_Write, frz.eq_1, er_back]
          obtain rfl := Option.some.inj h
          refine .weak (Imp.co [] _ _ ?_ ?_ ?_ ?_ ?_) (tail) <;> simp only [wz, wd, ws, Nat.reduceAdd, Nat.reduceSub, Nat.reduceMul, Nat.reduceLeDiff, Nat.reduceEqDiff, Nat.reduceLT, Nat.reduceBEq, reduceIte, reduceCtorEq, Int.reduceToNat, Nat.reduceShiftRight, Nat.reduceAnd, Nat.reduceBneDiff, Nat.reduceBNe, wi, er_nil, e_api_Ledger, e_api_Disk, e_api_Write]
    · rw [ite_f h1] at h
      refine .exit rfl ?_
      obtain rfl := Option.some.inj h
      refine .weak (Imp.co [] _ _ ?_ ?_ ?_ ?_ ?_) (hx _ rfl) <;> simp only [wz, wd, ws, Nat.reduceAdd, Nat.reduceSub, Nat.reduceMul, Nat.reduceLeDiff, Nat.reduceEqDiff, Nat.reduceLT, Nat.reduceBEq, reduceIte, reduceCtorEq, Int.reduceToNat, Nat.reduceShiftRight, Nat.reduceAnd, Nat.reduceBneDiff, Nat.reduceBNe, wi, er_nil, e_api_Ledger, e_api_Disk, e_api_Write]
theorem f_law10_LedgerGoes_ok (sectors : Int) (rows : (List (List Str))) (renews : (List Bool)) (y_ : Bool) (h : f_law10_LedgerGoes sectors rows renews = some y_) : Fun Try.prog glP 6 [.b (.s (.d (.int .i64 sectors))), .b (.s (.d (.sl (rows.map (eL eS))))), .b (.s (.d (.sl (renews.map eB))))] (.b (.s (.d (.bool y_)))) := by
  refine fun_walk [] Try.func6 Try.ntmps6 cc6 cr6 (by kernel_rfl) (by simp only [List.length_cons, List.length_nil]; decide) ?_
  generalize hR : Ret _ _ _ _ _ = R_
  simp only [wz, wd, ws, Nat.reduceAdd, Nat.reduceSub, Nat.reduceMul, Nat.reduceLeDiff, Nat.reduceEqDiff, Nat.reduceLT, Nat.reduceBEq, reduceIte, reduceCtorEq, Int.reduceToNat, Nat.reduceShiftRight, Nat.reduceAnd, Nat.reduceBneDiff, Nat.reduceBNe, e_api_Ledger, e_api_Disk, e_api_Write]
  unfold f_law10_LedgerGoes at h; unfold c6
  refine .seq ?_
  refine Rw.walk ?_
  simp only [wz, wd, ws, Nat.reduceAdd, Nat.reduceSub, Nat.reduceMul, Nat.reduceLeDiff, Nat.reduceEqDiff, Nat.reduceLT, Nat.reduceBEq, reduceIte, reduceCtorEq, Int.reduceToNat, Nat.reduceShiftRight, Nat.reduceAnd, Nat.reduceBneDiff, Nat.reduceBNe, c6r0, semI.eq_10, semI.eq_11, semI.eq_3, semI.eq_5, semI.eq_7, e_api_Ledger, e_api_Disk, e_api_Write]
  refine .seq ?_
  refine Rw.walk ?_
  simp only [wz, wd, ws, Nat.reduceAdd, Nat.reduceSub, Nat.reduceMul, Nat.reduceLeDiff, Nat.reduceEqDiff, Nat.reduceLT, Nat.reduceBEq, reduceIte, reduceCtorEq, Int.reduceToNat, Nat.reduceShiftRight, Nat.reduceAnd, Nat.reduceBneDiff, Nat.reduceBNe, c6r1, semI.eq_10, semI.eq_11, semI.eq_3, semI.eq_5, semI.eq_7, e_api_Ledger, e_api_Disk, e_api_Write]
  obtain ⟨sectors2, e1, h⟩ := Option.bind_eq_some_iff.1 h
  replace e1 := Option.some.inj e1
  first | simp only [e1] | (simp only [wz, wd, ws, Nat.reduceAdd, Nat.reduceSub, Nat.reduceMul, Nat.reduceLeDiff, Nat.reduceEqDiff, Nat.reduceLT, Nat.reduceBEq, reduceIte, reduceCtorEq, Int.reduceToNat, Nat.reduceShiftRight, Nat.reduceAnd, Nat.reduceBneDiff, Nat.reduceBNe, e_api_Ledger, e_api_Disk, e_api_Write] at e1; simp only [e1])
  refine .seq ?_
  refine Rw.walk ?_
  simp only [wz, wd, ws, Nat.reduceAdd, Nat.reduceSub, Nat.reduceMul, Nat.reduceLeDiff, Nat.reduceEqDiff, Nat.reduceLT, Nat.reduceBEq, reduceIte, reduceCtorEq, Int.reduceToNat, Nat.reduceShiftRight, Nat.reduceAnd, Nat.reduceBneDiff, Nat.reduceBNe, c6r2, semI.eq_10, semI.eq_11, semI.eq_3, semI.eq_5, semI.eq_7, e_api_Ledger, e_api_Disk, e_api_Write]
  obtain ⟨t, e2, h⟩ := Option.bind_eq_some_iff.1 h
  refine call_fun [] true ⟨trivial, trivial, trivial⟩ rfl ?_ (f_ledger_Format_ok _ _ e2) (fun h => by cases h) (fun i hi => by cases hi) ?_
  · simp only [wz, wd, ws, Nat.reduceAdd, Nat.reduceSub, Nat.reduceMul, Nat.reduceLeDiff, Nat.reduceEqDiff, Nat.reduceLT, Nat.reduceBEq, reduceIte, reduceCtorEq, Int.reduceToNat, Nat.reduceShiftRight, Nat.reduceAnd, Nat.reduceBneDiff, Nat.reduceBNe, e_api_Ledger, e_api_Disk, e_api_Write]
  simp only [wz, wd, ws, Nat.reduceAdd, Nat.reduceSub, Nat.reduceMul, Nat.reduceLeDiff, Nat.reduceEqDiff, Nat.reduceLT, Nat.reduceBEq, reduceIte, reduceCtorEq, Int.reduceToNat, Nat.reduceShiftRight, Nat.reduceAnd, Nat.reduceBneDiff, Nat.reduceBNe, c6r2, semI.eq_10, semI.eq_11, semI.eq_3, semI.eq_5, semI.eq_7, e_api_Ledger, e_api_Disk, e_api_Write]
  refine .seq ?_
  refine Rw.walk ?_
  simp only [wz, wd, ws, Nat.reduceAdd, Nat.reduceSub, Nat.reduceMul, Nat.reduceLeDiff, Nat.reduceEqDiff, Nat.reduceLT, Nat.reduceBEq, reduceIte, reduceCtorEq, Int.reduceToNat, Nat.reduceShiftRight, Nat.reduceAnd, Nat.reduceBneDiff, Nat.reduceBNe, c6r3, semI.eq_10, semI.eq_11, semI.eq_3, semI.eq_5, semI.eq_7, e_api_Ledger, e_api_Disk, e_api_Write]
  refine .seq ?_
  refine .seq ?_
  refine Rw.walk ?_
  simp only [wz, wd, ws, Nat.reduceAdd, Nat.reduceSub, Nat.reduceMul, Nat.reduceLeDiff, Nat.reduceEqDiff, Nat.reduceLT, Nat.reduceBEq, reduceIte, reduceCtorEq, Int.reduceToNat, Nat.reduceShiftRight, Nat.reduceAnd, Nat.reduceBneDiff, Nat.reduceBNe, c6r4, semI.eq_10, semI.eq_11, semI.eq_3, semI.eq_5, semI.eq_7, e_api_Ledger, e_api_Disk, e_api_Write]
  refine .blk ?_
  obtain ⟨s, hf, h⟩ := Option.bind_eq_some_iff.1 h
  refine .loop (.weak (Imp.co [] _ _ ?c1 ?c2 ?c3 ?c4 ?c5) (f_law10_LedgerGoes_l26_ok rows renews t _ _ hR _ _ _ _ _ _ _ _ _ _ hf _ ?_ ?_))
  case c1 | c2 | c3 | c4 | c5 => simp only [wz, wd, ws, Nat.reduceAdd, Nat.reduceSub, Nat.reduceMul, Nat.reduceLeDiff, Nat.reduceEqDiff, Nat.reduceLT, Nat.reduceBEq, reduceIte, reduceCtorEq, Int.reduceToNat, Nat.reduceShiftRight, Nat.reduceAnd, Nat.reduceBneDiff, Nat.reduceBNe, wi, er_nil, e_api_Ledger, e_api_Disk, e_api_Write]
  · intro s2 hs; subst hs; dsimp only at h
    refine .seq ?_
    refine Rw.walk ?_
    simp only [wz, wd, ws, Nat.reduceAdd, Nat.reduceSub, Nat.reduceMul, Nat.reduceLeDiff, Nat.reduceEqDiff, Nat.reduceLT, Nat.reduceBEq, reduceIte, reduceCtorEq, Int.reduceToNat, Nat.reduceShiftRight, Nat.reduceAnd, Nat.reduceBneDiff, Nat.reduceBNe, c6r26, semI.eq_10, semI.eq_11, semI.eq_3, semI.eq_5, semI.eq_7, e_api_Ledger, e_api_Disk, e_api_Write]
    obtain ⟨t2, e14, h⟩ := Option.bind_eq_some_iff.1 h
    refine call_fun [] false ⟨trivial, trivial⟩ rfl ?_ (f_law10_alive_ok _ e14) (fun _ => rfl) (fun i hi => by cases hi) ?_
    · simp only [wz, wd, ws, Nat.reduceAdd, Nat.reduceSub, Nat.reduceMul, Nat.reduceLeDiff, Nat.reduceEqDiff, Nat.reduceLT, Nat.reduceBEq, reduceIte, reduceCtorEq, Int.reduceToNat, Nat.reduceShiftRight, Nat.reduceAnd, Nat.reduceBneDiff, Nat.reduceBNe, e_api_Ledger, e_api_Disk, e_api_Write]
    simp only [wz, wd, ws, Nat.reduceAdd, Nat.reduceSub, Nat.reduceMul, Nat.reduceLeDiff, Nat.reduceEqDiff, Nat.reduceLT, Nat.reduceBEq, reduceIte, reduceCtorEq, Int.reduceToNat, Nat.reduceShiftRight, Nat.reduceAnd, Nat.reduceBneDiff, Nat.reduceBNe, c6r26, semI.eq_10, semI.eq_11, semI.eq_3, semI.eq_5, semI.eq_7, e_api_Ledger, e_api_Disk, e_api_Write]
    repeat (refine And.intro ?_ ?_; · first | omega | (simp only [List.length_append, List.length_cons, List.length_nil] at *; omega) | (intro q; simp only [wz, wd, ws, Nat.reduceAdd, Nat.reduceSub, Nat.reduceMul, Nat.reduceLeDiff, Nat.reduceEqDiff, Nat.reduceLT, Nat.reduceBEq, reduceIte, reduceCtorEq, Int.reduceToNat, Nat.reduceShiftRight, Nat.reduceAnd, Nat.reduceBneDiff, Nat.reduceBNe, q]; done))
    obtain rfl := Option.some.inj h
    refine .ret ?_
    rw [← hR]
    simp only [wz, wd, ws, Nat.reduceAdd, Nat.reduceSub, Nat.reduceMul, Nat.reduceLeDiff, Nat.reduceEqDiff, Nat.reduceLT, Nat.reduceBEq, reduceIte, reduceCtorEq, Int.reduceToNat, Nat.reduceShiftRight, Nat.reduceAnd, Nat.reduceBneDiff, Nat.reduceBNe, rv6, e_api_Ledger, e_api_Disk, e_api_Write]
  · intro z hz; subst hz; dsimp only at h
    exact Option.some.inj h
-- 7 consignor/consignorlaw10.LedgerHalves
def c7r0 : List Opn := [
  ⟨(some 8), none, .mv (.c (.s (.d (.bool false))))⟩]
def c7r1 : List Opn := [
  ⟨(some 20), none, .mv (.t 0)⟩, 
  ⟨(some 21), none, .mm true (.t 20) (.c (.s (.d (.int .i64 4))))⟩, 
  ⟨(some 22), none, .mm false (.t 21) (.c (.s (.d (.int .i64 64))))⟩, 
  ⟨(some 0), none, .mv (.t 22)⟩]
def c7r2 : List Opn := [
  ⟨(some 24), none, .mv (.t 0)⟩, 
  ⟨(some 25), none, .call (.fn 12) [(.t 24)]⟩, 
  ⟨(some 23), none, .mv (.t 25)⟩, 
  ⟨(some 26), none, .ext (.t 23) 0⟩, 
  ⟨(some 27), none, .ext (.t 23) 1⟩, 
  ⟨(some 9), none, .new [.nils, .nils, (.d (.int .i64 0)), (.d (.int .i64 0)), (.d (.int .i64 0)), .nils]⟩, 
  ⟨none, none, .store 6 (.t 9) (.t 26)⟩, 
  ⟨(some 10), none, .mv (.t 27)⟩]
def c7r3 : List Opn := [
  ⟨(some 29), none, .load true 6 (.t 9)⟩, 
  ⟨(some 30), none, .mv (.t 1)⟩, 
  ⟨(some 31), none, .call (.fn 17) [(.t 30)]⟩, 
  ⟨(some 32), none, .call (.fn 18) [(.t 29), (.t 31)]⟩, 
  ⟨(some 28), none, .mv (.t 32)⟩, 
  ⟨(some 33), none, .ext (.t 28) 0⟩, 
  ⟨(some 34), none, .ext (.t 28) 1⟩, 
  ⟨(some 11), none, .new [.nils, .nils, (.d (.int .i64 0)), (.d (.int .i64 0)), (.d (.int .i64 0)), .nils]⟩, 
  ⟨none, none, .store 6 (.t 11) (.t 33)⟩, 
  ⟨(some 12), none, .mv (.t 34)⟩]
def c7r4 : List Opn := [
  ⟨(some 35), none, .mv (.t 10)⟩, 
  ⟨(some 36), none, .bin .neq (.t 35) (.c (.s (.d (.int .i64 0))))⟩, 
  ⟨(some 37), none, .mv (.t 36)⟩, 
  ⟨(some 38), some (37, false), .call (.fn 14) []⟩, 
  ⟨(some 39), some (37, false), .un .not (.t 38)⟩, 
  ⟨(some 40), none, .pick (.t 37) (.c (.s (.d (.bool true)))) (.t 39)⟩]
def c7r5 : List Opn := [
  ⟨(some 8), none, .mv (.c (.s (.d (.bool false))))⟩]
def c7r6 : List Opn := [
  ⟨(some 41), none, .mv (.t 12)⟩, 
  ⟨(some 42), none, .bin .neq (.t 41) (.c (.s (.d (.int .i64 0))))⟩]
def c7r7 : List Opn := [
  ⟨(some 43), none, .mv (.t 12)⟩, 
  ⟨(some 44), none, .bin .eql (.t 43) (.c (.s (.d (.int .i64 13))))⟩, 
  ⟨(some 45), none, .mv (.t 44)⟩, 
  ⟨(some 46), some (45, false), .mv (.t 12)⟩, 
  ⟨(some 47), some (45, false), .bin .eql (.t 46) (.c (.s (.d (.int .i64 2))))⟩, 
  ⟨(some 48), none, .pick (.t 45) (.c (.s (.d (.bool true)))) (.t 47)⟩, 
  ⟨(some 8), none, .mv (.t 48)⟩]
def c7r8 : List Opn := [
  ⟨(some 13), none, .new [.nils, .nils, (.d (.int .i64 0)), (.d (.int .i64 0)), (.d (.int .i64 0)), .nils]⟩]
def c7r9 : List Opn := [
  ⟨(some 14), none, .mv (.c (.s (.d (.int .i64 0))))⟩]
def c7r10 : List Opn := [
  ⟨(some 49), none, .fadr 2 (.t 11)⟩, 
  ⟨(some 50), none, .load false 1 (.t 49)⟩, 
  ⟨(some 51), none, .fadr 3 (.t 11)⟩, 
  ⟨(some 52), none, .load false 1 (.t 51)⟩, 
  ⟨(some 15), none, .mv (.t 50)⟩, 
  ⟨(some 16), none, .mv (.t 52)⟩]
def c7r11 : List Opn := [
  ⟨(some 53), none, .mv (.t 3)⟩]
def c7r12 : List Opn := [
  ⟨(some 55), none, .load true 6 (.t 11)⟩, 
  ⟨(some 56), none, .mv (.t 2)⟩, 
  ⟨(some 57), none, .call (.fn 17) [(.t 56)]⟩, 
  ⟨(some 58), none, .call (.fn 22) [(.t 55), (.t 57)]⟩, 
  ⟨(some 54), none, .mv (.t 58)⟩, 
  ⟨(some 59), none, .ext (.t 54) 0⟩, 
  ⟨(some 60), none, .ext (.t 54) 1⟩, 
  ⟨none, none, .store 6 (.t 13) (.t 59)⟩, 
  ⟨(some 14), none, .mv (.t 60)⟩]
def c7r13 : List Opn := [
  ⟨(some 61), none, .fadr 2 (.t 11)⟩, 
  ⟨(some 62), none, .load false 1 (.t 61)⟩, 
  ⟨(some 63), none, .bin .sub (.c (.s (.d (.int .i64 1)))) (.t 62)⟩, 
  ⟨(some 64), none, .fadr 3 (.t 11)⟩, 
  ⟨(some 65), none, .load false 1 (.t 64)⟩, 
  ⟨(some 66), none, .bin .add (.t 65) (.c (.s (.d (.int .i64 1))))⟩, 
  ⟨(some 15), none, .mv (.t 63)⟩, 
  ⟨(some 16), none, .mv (.t 66)⟩]
def c7r14 : List Opn := [
  ⟨(some 68), none, .load true 6 (.t 11)⟩, 
  ⟨(some 69), none, .mv (.t 2)⟩, 
  ⟨(some 70), none, .call (.fn 17) [(.t 69)]⟩, 
  ⟨(some 71), none, .call (.fn 18) [(.t 68), (.t 70)]⟩, 
  ⟨(some 67), none, .mv (.t 71)⟩, 
  ⟨(some 72), none, .ext (.t 67) 0⟩, 
  ⟨(some 73), none, .ext (.t 67) 1⟩, 
  ⟨none, none, .store 6 (.t 13) (.t 72)⟩, 
  ⟨(some 14), none, .mv (.t 73)⟩]
def c7r15 : List Opn := [
  ⟨(some 74), none, .mv (.t 14)⟩, 
  ⟨(some 75), none, .bin .neq (.t 74) (.c (.s (.d (.int .i64 0))))⟩]
def c7r16 : List Opn := [
  ⟨(some 76), none, .mv (.t 14)⟩, 
  ⟨(some 77), none, .bin .eql (.t 76) (.c (.s (.d (.int .i64 13))))⟩, 
  ⟨(some 78), none, .mv (.t 77)⟩, 
  ⟨(some 79), some (78, false), .mv (.t 14)⟩, 
  ⟨(some 80), some (78, false), .bin .eql (.t 79) (.c (.s (.d (.int .i64 2))))⟩, 
  ⟨(some 81), none, .pick (.t 78) (.c (.s (.d (.bool true)))) (.t 80)⟩, 
  ⟨(some 8), none, .mv (.t 81)⟩]
def c7r17 : List Opn := [
  ⟨(some 82), none, .mv (.t 0)⟩, 
  ⟨(some 83), none, .bin .quo (.t 82) (.c (.s (.d (.int .i64 2))))⟩, 
  ⟨(some 17), none, .mv (.t 83)⟩]
def c7r18 : List Opn := [
  ⟨(some 84), none, .mv (.t 17)⟩, 
  ⟨(some 85), none, .mv (.c (.s (.d (.int .i64 0))))⟩]
def c7r19 : List Opn := [
  ⟨(some 86), none, .bin .lss (.t 85) (.t 84)⟩]
def c7r20 : List Opn := [
  ⟨(some 87), none, .mv (.t 85)⟩, 
  ⟨(some 18), none, .mv (.t 87)⟩]
def c7r21 : List Opn := [
  ⟨(some 88), none, .mv (.t 15)⟩, 
  ⟨(some 89), none, .bin .sub (.c (.s (.d (.int .i64 1)))) (.t 88)⟩, 
  ⟨(some 90), none, .mv (.t 17)⟩, 
  ⟨(some 91), none, .bin .mul (.t 89) (.t 90)⟩, 
  ⟨(some 92), none, .mv (.t 18)⟩, 
  ⟨(some 93), none, .bin .add (.t 91) (.t 92)⟩, 
  ⟨(some 19), none, .mv (.t 93)⟩]
def c7r22 : List Opn := [
  ⟨(some 94), none, .fadr 0 (.t 13)⟩, 
  ⟨(some 95), none, .fadr 0 (.t 94)⟩, 
  ⟨(some 96), none, .load false 1 (.t 95)⟩, 
  ⟨(some 97), none, .mv (.t 19)⟩, 
  ⟨(some 98), none, .iadr (.sl 1) (.t 96) (.t 97)⟩, 
  ⟨(some 99), none, .load false 1 (.t 98)⟩, 
  ⟨(some 100), none, .fadr 0 (.t 11)⟩, 
  ⟨(some 101), none, .fadr 0 (.t 100)⟩, 
  ⟨(some 102), none, .load false 1 (.t 101)⟩, 
  ⟨(some 103), none, .mv (.t 19)⟩, 
  ⟨(some 104), none, .iadr (.sl 1) (.t 102) (.t 103)⟩, 
  ⟨(some 105), none, .load false 1 (.t 104)⟩, 
  ⟨(some 106), none, .bin .neq (.t 99) (.t 105)⟩]
def c7r23 : List Opn := [
  ⟨(some 8), none, .mv (.c (.s (.d (.bool false))))⟩]
def c7r24 : List Opn := [
  ⟨(some 107), none, .bin .add (.t 85) (.c (.s (.d (.int .i64 1))))⟩, 
  ⟨(some 85), none, .mv (.t 107)⟩]
def c7l25 : C := .seq (.reg c7r19 none [11, 13, 15, 16, 17, 84, 85, 86]) (.seq (.cond (.t 86) (.skip) (.exit 0)) (.seq (.blk 1 (.seq (.reg c7r20 none [11, 13, 15, 16, 17, 18, 84, 85]) (.seq (.reg c7r21 none [11, 13, 15, 16, 17, 19, 84, 85]) (.seq (.reg c7r22 (some [0, 1, 3, 0, 15, 31, 0, 64, 192, 0, 960, 1984, 4095]) [11, 13, 15, 16, 17, 84, 85, 106]) (.cond (.t 106) (.seq (.reg c7r23 none [8]) (.ret)) (.skip)))))) (.reg c7r24 none [11, 13, 15, 16, 17, 84, 85])))
def c7r25 : List Opn := [
  ⟨(some 108), none, .fadr 2 (.t 13)⟩, 
  ⟨(some 109), none, .load false 1 (.t 108)⟩, 
  ⟨(some 110), none, .mv (.t 15)⟩, 
  ⟨(some 111), none, .bin .eql (.t 109) (.t 110)⟩, 
  ⟨(some 112), none, .mv (.t 111)⟩, 
  ⟨(some 113), some (112, true), .fadr 3 (.t 13)⟩, 
  ⟨(some 114), some (112, true), .load false 1 (.t 113)⟩, 
  ⟨(some 115), some (112, true), .mv (.t 16)⟩, 
  ⟨(some 116), some (112, true), .bin .eql (.t 114) (.t 115)⟩, 
  ⟨(some 117), none, .pick (.t 112) (.t 116) (.c (.s (.d (.bool false))))⟩, 
  ⟨(some 118), none, .mv (.t 117)⟩, 
  ⟨(some 119), some (118, true), .fadr 2 (.t 11)⟩, 
  ⟨(some 120), some (118, true), .load false 1 (.t 119)⟩, 
  ⟨(some 121), some (118, true), .bin .eql (.t 120) (.c (.s (.d (.int .i64 0))))⟩, 
  ⟨(some 122), none, .pick (.t 118) (.t 121) (.c (.s (.d (.bool false))))⟩, 
  ⟨(some 123), none, .mv (.t 122)⟩, 
  ⟨(some 124), some (123, true), .fadr 3 (.t 11)⟩, 
  ⟨(some 125), some (123, true), .load false 1 (.t 124)⟩, 
  ⟨(some 126), some (123, true), .bin .eql (.t 125) (.c (.s (.d (.int .i64 1))))⟩, 
  ⟨(some 127), none, .pick (.t 123) (.t 126) (.c (.s (.d (.bool false))))⟩, 
  ⟨(some 8), none, .mv (.t 127)⟩]
def c7 : C := .seq (.reg c7r0 none [0, 1, 2, 3]) (.seq (.reg c7r1 none [0, 1, 2, 3]) (.seq (.reg c7r2 none [0, 1, 2, 3, 9, 10]) (.seq (.reg c7r3 (some [0, 0, 2, 7, 15, 31, 31, 0, 191, 511]) [0, 2, 3, 10, 11, 12]) (.seq (.seq (.reg c7r4 none [0, 2, 3, 11, 12, 40]) (.cond (.t 40) (.seq (.reg c7r5 none [8]) (.ret)) (.skip))) (.seq (.seq (.reg c7r6 none [0, 2, 3, 11, 12, 42]) (.cond (.t 42) (.seq (.reg c7r7 none [8]) (.ret)) (.skip))) (.seq (.reg c7r8 none [0, 2, 3, 11, 13]) (.seq (.reg c7r9 none [0, 2, 3, 11, 13]) (.seq (.reg c7r10 (some [0, 1, 0, 4, 3, 31]) [0, 2, 3, 11, 13, 15, 16]) (.seq (.seq (.reg c7r11 none [0, 2, 11, 13, 15, 16, 53]) (.cond (.t 53) (.seq (.reg c7r12 (some [0, 0, 2, 7, 15, 31, 31, 63, 255]) [0, 11, 13, 14]) (.reg c7r13 (some [0, 1, 3, 0, 8, 24, 7, 127]) [0, 11, 13, 14, 15, 16])) (.reg c7r14 (some [0, 0, 2, 7, 15, 31, 31, 63, 255]) [0, 11, 13, 14, 15, 16]))) (.seq (.seq (.reg c7r15 none [0, 11, 13, 14, 15, 16, 75]) (.cond (.t 75) (.seq (.reg c7r16 none [8]) (.ret)) (.skip))) (.seq (.reg c7r17 none [11, 13, 15, 16, 17]) (.seq (.seq (.reg c7r18 none [11, 13, 15, 16, 17, 84, 85]) (.blk 0 (.loop c7l25))) (.seq (.reg c7r25 none [8]) (.ret))))))))))))))
def k7 : List (Nat × List Nat) := [(25, [8]), (24, [11, 13, 15, 16, 17, 84, 85]), (23, [8]), (22, [11, 13, 15, 16, 17, 84, 85, 106]), (21, [11, 13, 15, 16, 17, 19, 84, 85]), (20, [11, 13, 15, 16, 17, 18, 84, 85]), (19, [11, 13, 15, 16, 17, 84, 85, 86]), (18, [11, 13, 15, 16, 17, 84, 85]), (17, [11, 13, 15, 16, 17]), (16, [8]), (15, [0, 11, 13, 14, 15, 16, 75]), (13, [0, 11, 13, 14, 15, 16]), (12, [0, 11, 13, 14]), (14, [0, 11, 13, 14, 15, 16]), (11, [0, 2, 11, 13, 15, 16, 53]), (10, [0, 2, 3, 11, 13, 15, 16]), (9, [0, 2, 3, 11, 13]), (8, [0, 2, 3, 11, 13]), (7, [8]), (6, [0, 2, 3, 11, 12, 42]), (5, [8]), (4, [0, 2, 3, 11, 12, 40]), (3, [0, 2, 3, 10, 11, 12]), (2, [0, 1, 2, 3, 9, 10]), (1, [0, 1, 2, 3]), (0, [0, 1, 2, 3])]
theorem cc7 : (Try.f7.body).bind (cC Try.prog 128 k7) = some c7 := by kernel_rfl
def rv7 : List RV := [.t 8]
theorem cr7 : cRVs Try.prog Try.f7.results.toList = some rv7 := by kernel_rfl
theorem f_law10_LedgerHalves_l25_ok (sectors2 : Int) (t3 : api_Ledger × Int) (s : Int × Int × Int × (List Str) × (List api_Write) × Int × Int × Int × (List Str)) (y_ : Bool) (R_ : St → Prop) (hR : (Ret Try.prog glP [] rv7 (.b (.s (.d (.bool y_))))) = R_) : ∀ (m_ : Nat) (v85 : Int) (res_ : (Int) ⊕ (Bool)) (h : f_law10_LedgerHalves_l25 sectors2 t3 s m_ v85 = some res_) (k_ : List It) (hx : ∀ s_ : Int, res_ = .inl s_ → W Try.prog glP 128 k_ ⟨lkT [(11, .b (.s (.ptr 11 1 0 0))), (13, .b (.s (.ptr 13 1 0 0))), (15, .b (.s (.d (.int .i64 s.2.1)))), (16, .b (.s (.d (.int .i64 s.2.2.1)))), (17, .b (.s (.d (.int .i64 (IntKind.i64.wrap (sectors2.tdiv 2)))))), (84, .b (.s (.d (.int .i64 (IntKind.i64.wrap (sectors2.tdiv 2)))))), (85, .b (.s (.d (.int .i64 s_))))], lkG [(11, ⟨6, [[(.d (.sl (t3.1.Disk.Sectors.map eS))), (.d (.sl (t3.1.Disk.Dirty.map e_api_Write))), (.d (.int .i64 t3.1.Half)), (.d (.int .i64 t3.1.Gen)), (.d (.int .i64 t3.1.Used)), (.d (.sl (t3.1.Entries.map eS)))]], false⟩), (13, ⟨6, [[(.d (.sl (s.2.2.2.1.map eS))), (.d (.sl (s.2.2.2.2.1.map e_api_Write))), (.d (.int .i64 s.2.2.2.2.2.1)), (.d (.int .i64 s.2.2.2.2.2.2.1)), (.d (.int .i64 s.2.2.2.2.2.2.2.1)), (.d (.sl (s.2.2.2.2.2.2.2.2.map eS)))]], false⟩)]⟩ R_) (hr : ∀ z_ : Bool, res_ = .inr z_ → z_ = y_), W Try.prog glP 128 (.c c7l25 :: .lp c7l25 :: .blk 0 :: k_) ⟨lkT [(11, .b (.s (.ptr 11 1 0 0))), (13, .b (.s (.ptr 13 1 0 0))), (15, .b (.s (.d (.int .i64 s.2.1)))), (16, .b (.s (.d (.int .i64 s.2.2.1)))), (17, .b (.s (.d (.int .i64 (IntKind.i64.wrap (sectors2.tdiv 2)))))), (84, .b (.s (.d (.int .i64 (IntKind.i64.wrap (sectors2.tdiv 2)))))), (85, .b (.s (.d (.int .i64 v85))))], lkG [(11, ⟨6, [[(.d (.sl (t3.1.Disk.Sectors.map eS))), (.d (.sl (t3.1.Disk.Dirty.map e_api_Write))), (.d (.int .i64 t3.1.Half)), (.d (.int .i64 t3.1.Gen)), (.d (.int .i64 t3.1.Used)), (.d (.sl (t3.1.Entries.map eS)))]], false⟩), (13, ⟨6, [[(.d (.sl (s.2.2.2.1.map eS))), (.d (.sl (s.2.2.2.2.1.map e_api_Write))), (.d (.int .i64 s.2.2.2.2.2.1)), (.d (.int .i64 s.2.2.2.2.2.2.1)), (.d (.int .i64 s.2.2.2.2.2.2.2.1)), (.d (.sl (s.2.2.2.2.2.2.2.2.map eS)))]], false⟩)]⟩ R_ := by
  intro m_; induction m_ with
  | zero => intro v85 res_ h; rw [f_law10_LedgerHalves_l25.eq_1] at h; cases h
  | succ m_ ih =>
    intro v85 res_ h k_ hx hr; rw [f_law10_LedgerHalves_l25.eq_2] at h; refine W.cdef c7l25.eq_1 ?_
    refine .seq ?_
    refine Rw.walk ?_
    simp only [wz, wd, ws, Nat.reduceAdd, Nat.reduceSub, Nat.reduceMul, Nat.reduceLeDiff, Nat.reduceEqDiff, Nat.reduceLT, Nat.reduceBEq, reduceIte, reduceCtorEq, Int.reduceToNat, Nat.reduceShiftRight, Nat.reduceAnd, Nat.reduceBneDiff, Nat.reduceBNe, c7r19, semI.eq_10, semI.eq_11, semI.eq_3, semI.eq_5, semI.eq_7, e_api_Ledger, e_api_Disk, e_api_Write]
    refine .seq ?_
    refine .cond (p := (decide (v85 < (IntKind.i64.wrap (sectors2.tdiv 2))))) (by first | rfl | simp only [wz, wd, ws, Nat.reduceAdd, Nat.reduceSub, Nat.reduceMul, Nat.reduceLeDiff, Nat.reduceEqDiff, Nat.reduceLT, Nat.reduceBEq, reduceIte, reduceCtorEq, Int.reduceToNat, Nat.reduceShiftRight, Nat.reduceAnd, Nat.reduceBneDiff, Nat.reduceBNe]) (fun h1 => ?_) (fun h1 => ?_)
    · rw [ite_t h1] at h
      refine .skip ?_
      refine .seq ?_
      refine .blk ?_
      refine .seq ?_
      refine Rw.walk ?_
      simp only [wz, wd, ws, Nat.reduceAdd, Nat.reduceSub, Nat.reduceMul, Nat.reduceLeDiff, Nat.reduceEqDiff, Nat.reduceLT, Nat.reduceBEq, reduceIte, reduceCtorEq, Int.reduceToNat, Nat.reduceShiftRight, Nat.reduceAnd, Nat.reduceBneDiff, Nat.reduceBNe, c7r20, semI.eq_10, semI.eq_11, semI.eq_3, semI.eq_5, semI.eq_7, e_api_Ledger, e_api_Disk, e_api_Write]
      refine .seq ?_
      refine Rw.walk ?_
      simp only [wz, wd, ws, Nat.reduceAdd, Nat.reduceSub, Nat.reduceMul, Nat.reduceLeDiff, Nat.reduceEqDiff, Nat.reduceLT, Nat.reduceBEq, reduceIte, reduceCtorEq, Int.reduceToNat, Nat.reduceShiftRight, Nat.reduceAnd, Nat.reduceBneDiff, Nat.reduceBNe, c7r21, semI.eq_10, semI.eq_11, semI.eq_3, semI.eq_5, semI.eq_7, e_api_Ledger, e_api_Disk, e_api_Write]
      obtain ⟨atv, e6, h⟩ := Option.bind_eq_some_iff.1 h
      replace e6 := Option.some.inj e6
      first | simp only [e6] | (simp only [wz, wd, ws, Nat.reduceAdd, Nat.reduceSub, Nat.reduceMul, Nat.reduceLeDiff, Nat.reduceEqDiff, Nat.reduceLT, Nat.reduceBEq, reduceIte, reduceCtorEq, Int.reduceToNat, Nat.reduceShiftRight, Nat.reduceAnd, Nat.reduceBneDiff, Nat.reduceBNe, e_api_Ledger, e_api_Disk, e_api_Write] at e6; simp only [e6])
      refine .seq ?_
      refine RwD.walk ?_
      simp only [wz, wd, ws, Nat.reduceAdd, Nat.reduceSub, Nat.reduceMul, Nat.reduceLeDiff, Nat.reduceEqDiff, Nat.reduceLT, Nat.reduceBEq, reduceIte, reduceCtorEq, Int.reduceToNat, Nat.reduceShiftRight, Nat.reduceAnd, Nat.reduceBneDiff, Nat.reduceBNe, c7r22, semI.eq_10, semI.eq_11, semI.eq_3, semI.eq_5, semI.eq_7, e_api_Ledger, e_api_Disk, e_api_Write]
      obtain ⟨x, e7, h⟩ := Option.bind_eq_some_iff.1 h
      refine GoD1.of (sem_iadr eS_len e7 (by rfl) (by rfl)) ?_
      simp only [wz, wd, ws, Nat.reduceAdd, Nat.reduceSub, Nat.reduceMul, Nat.reduceLeDiff, Nat.reduceEqDiff, Nat.reduceLT, Nat.reduceBEq, reduceIte, reduceCtorEq, Int.reduceToNat, Nat.reduceShiftRight, Nat.reduceAnd, Nat.reduceBneDiff, Nat.reduceBNe, c7r22, semI.eq_10, semI.eq_11, semI.eq_3, semI.eq_5, semI.eq_7, e_api_Ledger, e_api_Disk, e_api_Write]
      obtain ⟨x2, e8, h⟩ := Option.bind_eq_some_iff.1 h
      refine GoD1.of (sem_iadr eS_len e8 (by rfl) (by rfl)) ?_
      simp only [wz, wd, ws, Nat.reduceAdd, Nat.reduceSub, Nat.reduceMul, Nat.reduceLeDiff, Nat.reduceEqDiff, Nat.reduceLT, Nat.reduceBEq, reduceIte, reduceCtorEq, Int.reduceToNat, Nat.reduceShiftRight, Nat.reduceAnd, Nat.reduceBneDiff, Nat.reduceBNe, c7r22, semI.eq_10, semI.eq_11, semI.eq_3, semI.eq_5, semI.eq_7, e_api_Ledger, e_api_Disk, e_api_Write]
      refine .cond (p := (!(x == x2))) (by first | rfl | simp only [wz, wd, ws, Nat.reduceAdd, Nat.reduceSub, Nat.reduceMul, Nat.reduceLeDiff, Nat.reduceEqDiff, Nat.reduceLT, Nat.reduceBEq, reduceIte, reduceCtorEq, Int.reduceToNat, Nat.reduceShiftRight, Nat.reduceAnd, Nat.reduceBneDiff, Nat.reduceBNe]) (fun h1 => ?_) (fun h1 => ?_)
      · rw [ite_t h1] at h
        refine .seq ?_
        refine Rw.walk ?_
        simp only [wz, wd, ws, Nat.reduceAdd, Nat.reduceSub, Nat.reduceMul, Nat.reduceLeDiff, Nat.reduceEqDiff, Nat.reduceLT, Nat.reduceBEq, reduceIte, reduceCtorEq, Int.reduceToNat, Nat.reduceShiftRight, Nat.reduceAnd, Nat.reduceBneDiff, Nat.reduceBNe, c7r23, semI.eq_10, semI.eq_11, semI.eq_3, semI.eq_5, semI.eq_7, e_api_Ledger, e_api_Disk, e_api_Write]
        obtain rfl := Option.some.inj h; obtain rfl := hr _ rfl
        refine .ret ?_
        rw [← hR]
        simp only [wz, wd, ws, Nat.reduceAdd, Nat.reduceSub, Nat.reduceMul, Nat.reduceLeDiff, Nat.reduceEqDiff, Nat.reduceLT, Nat.reduceBEq, reduceIte, reduceCtorEq, Int.reduceToNat, Nat.reduceShiftRight, Nat.reduceAnd, Nat.reduceBneDiff, Nat.reduceBNe, rv7, e_api_Ledger, e_api_Disk, e_api_Write]
      · rw [ite_f h1] at h
        refine .skip ?_
        refine .eblk ?_
        refine Rw.walk ?_
        simp only [wz, wd, ws, Nat.reduceAdd, Nat.reduceSub, Nat.reduceMul, Nat.reduceLeDiff, Nat.reduceEqDiff, Nat.reduceLT, Nat.reduceBEq, reduceIte, reduceCtorEq, Int.reduceToNat, Nat.reduceShiftRight, Nat.reduceAnd, Nat.reduceBneDiff, Nat.reduceBNe, c7r24, semI.eq_10, semI.eq_11, semI.eq_3, semI.eq_5, semI.eq_7, e_api_Ledger, e_api_Disk, e_api_Write]
        refine .lp ?_
        refine .weak (Imp.co [] _ _ ?_ ?_ ?_ ?_ ?_) (ih (IntKind.i64.wrap (v85 + 1)) _ h k_ hx hr) <;> simp only [wz, wd, ws, Nat.reduceAdd, Nat.reduceSub, Nat.reduceMul, Nat.reduceLeDiff, Nat.reduceEqDiff, Nat.reduceLT, Nat.reduceBEq, reduceIte, reduceCtorEq, Int.reduceToNat, Nat.reduceShiftRight, Nat.reduceAnd, Nat.reduceBneDiff, Nat.reduceBNe, wi, er_nil, e_api_Ledger, e_api_Disk, e_api_Write]
    · rw [ite_f h1] at h
      refine .exit rfl ?_
      obtain rfl := Option.some.inj h
      refine .weak (Imp.co [] _ _ ?_ ?_ ?_ ?_ ?_) (hx _ rfl) <;> simp only [wz, wd, ws, Nat.reduceAdd, Nat.reduceSub, Nat.reduceMul, Nat.reduceLeDiff, Nat.reduceEqDiff, Nat.reduceLT, Nat.reduceBEq, reduceIte, reduceCtorEq, Int.reduceToNat, Nat.reduceShiftRight, Nat.reduceAnd, Nat.reduceBneDiff, Nat.reduceBNe, wi, er_nil, e_api_Ledger, e_api_Disk, e_api_Write]
theorem f_law10_LedgerHalves_ok (sectors : Int) (l : (List Str)) (mv : (List Str)) (renew : Bool) (y_ : Bool) (h : f_law10_LedgerHalves sectors l mv renew = some y_) : Fun Try.prog glP 7 [.b (.s (.d (.int .i64 sectors))), .b (.s (.d (.sl (l.map eS)))), .b (.s (.d (.sl (mv.map eS)))), .b (.s (.d (.bool renew)))] (.b (.s (.d (.bool y_)))) := by
  refine fun_walk [] Try.func7 Try.ntmps7 cc7 cr7 (by kernel_rfl) (by simp only [List.length_cons, List.length_nil]; decide) ?_
  generalize hR : Ret _ _ _ _ _ = R_
  simp only [wz, wd, ws, Nat.reduceAdd, Nat.reduceSub, Nat.reduceMul, Nat.reduceLeDiff, Nat.reduceEqDiff, Nat.reduceLT, Nat.reduceBEq, reduceIte, reduceCtorEq, Int.reduceToNat, Nat.reduceShiftRight, Nat.reduceAnd, Nat.reduceBneDiff, Nat.reduceBNe, e_api_Ledger, e_api_Disk, e_api_Write]
  unfold f_law10_LedgerHalves at h; unfold c7
  refine .seq ?_
  refine Rw.walk ?_
  simp only [wz, wd, ws, Nat.reduceAdd, Nat.reduceSub, Nat.reduceMul, Nat.reduceLeDiff, Nat.reduceEqDiff, Nat.reduceLT, Nat.reduceBEq, reduceIte, reduceCtorEq, Int.reduceToNat, Nat.reduceShiftRight, Nat.reduceAnd, Nat.reduceBneDiff, Nat.reduceBNe, c7r0, semI.eq_10, semI.eq_11, semI.eq_3, semI.eq_5, semI.eq_7, e_api_Ledger, e_api_Disk, e_api_Write]
  refine .seq ?_
  refine Rw.walk ?_
  simp only [wz, wd, ws, Nat.reduceAdd, Nat.reduceSub, Nat.reduceMul, Nat.reduceLeDiff, Nat.reduceEqDiff, Nat.reduceLT, Nat.reduceBEq, reduceIte, reduceCtorEq, Int.reduceToNat, Nat.reduceShiftRight, Nat.reduceAnd, Nat.reduceBneDiff, Nat.reduceBNe, c7r1, semI.eq_10, semI.eq_11, semI.eq_3, semI.eq_5, semI.eq_7, e_api_Ledger, e_api_Disk, e_api_Write]
  obtain ⟨sectors2, e1, h⟩ := Option.bind_eq_some_iff.1 h
  replace e1 := Option.some.inj e1
  first | simp only [e1] | (simp only [wz, wd, ws, Nat.reduceAdd, Nat.reduceSub, Nat.reduceMul, Nat.reduceLeDiff, Nat.reduceEqDiff, Nat.reduceLT, Nat.reduceBEq, reduceIte, reduceCtorEq, Int.reduceToNat, Nat.reduceShiftRight, Nat.reduceAnd, Nat.reduceBneDiff, Nat.reduceBNe, e_api_Ledger, e_api_Disk, e_api_Write] at e1; simp only [e1])
  refine .seq ?_
  refine Rw.walk ?_
  simp only [wz, wd, ws, Nat.reduceAdd, Nat.reduceSub, Nat.reduceMul, Nat.reduceLeDiff, Nat.reduceEqDiff, Nat.reduceLT, Nat.reduceBEq, reduceIte, reduceCtorEq, Int.reduceToNat, Nat.reduceShiftRight, Nat.reduceAnd, Nat.reduceBneDiff, Nat.reduceBNe, c7r2, semI.eq_10, semI.eq_11, semI.eq_3, semI.eq_5, semI.eq_7, e_api_Ledger, e_api_Disk, e_api_Write]
  obtain ⟨t, e2, h⟩ := Option.bind_eq_some_iff.1 h
  refine call_fun [] true ⟨trivial, trivial, trivial⟩ rfl ?_ (f_ledger_Format_ok _ _ e2) (fun h => by cases h) (fun i hi => by cases hi) ?_
  · simp only [wz, wd, ws, Nat.reduceAdd, Nat.reduceSub, Nat.reduceMul, Nat.reduceLeDiff, Nat.reduceEqDiff, Nat.reduceLT, Nat.reduceBEq, reduceIte, reduceCtorEq, Int.reduceToNat, Nat.reduceShiftRight, Nat.reduceAnd, Nat.reduceBneDiff, Nat.reduceBNe, e_api_Ledger, e_api_Disk, e_api_Write]
  simp only [wz, wd, ws, Nat.reduceAdd, Nat.reduceSub, Nat.reduceMul, Nat.reduceLeDiff, Nat.reduceEqDiff, Nat.reduceLT, Nat.reduceBEq, reduceIte, reduceCtorEq, Int.reduceToNat, Nat.reduceShiftRight, Nat.reduceAnd, Nat.reduceBneDiff, Nat.reduceBNe, c7r2, semI.eq_10, semI.eq_11, semI.eq_3, semI.eq_5, semI.eq_7, e_api_Ledger, e_api_Disk, e_api_Write]
  refine .seq ?_
  refine RwD.walk ?_
  simp only [wz, wd, ws, Nat.reduceAdd, Nat.reduceSub, Nat.reduceMul, Nat.reduceLeDiff, Nat.reduceEqDiff, Nat.reduceLT, Nat.reduceBEq, reduceIte, reduceCtorEq, Int.reduceToNat, Nat.reduceShiftRight, Nat.reduceAnd, Nat.reduceBneDiff, Nat.reduceBNe, c7r3, semI.eq_10, semI.eq_11, semI.eq_3, semI.eq_5, semI.eq_7, e_api_Ledger, e_api_Disk, e_api_Write]
  obtain ⟨t2, e3, h⟩ := Option.bind_eq_some_iff.1 h
  refine call_funO' [] ⟨trivial, trivial, trivial⟩ rfl ?_ (f_law10_texts_ok _ _ e3) rfl (.inl rfl) ?_
  · simp only [wz, wd, ws, Nat.reduceAdd, Nat.reduceSub, Nat.reduceMul, Nat.reduceLeDiff, Nat.reduceEqDiff, Nat.reduceLT, Nat.reduceBEq, reduceIte, reduceCtorEq, Int.reduceToNat, Nat.reduceShiftRight, Nat.reduceAnd, Nat.reduceBneDiff, Nat.reduceBNe, e_api_Ledger, e_api_Disk, e_api_Write]
  simp only [wz, wd, ws, Nat.reduceAdd, Nat.reduceSub, Nat.reduceMul, Nat.reduceLeDiff, Nat.reduceEqDiff, Nat.reduceLT, Nat.reduceBEq, reduceIte, reduceCtorEq, Int.reduceToNat, Nat.reduceShiftRight, Nat.reduceAnd, Nat.reduceBneDiff, Nat.reduceBNe, c7r3, semI.eq_10, semI.eq_11, semI.eq_3, semI.eq_5, semI.eq_7, e_api_Ledger, e_api_Disk, e_api_Write]
  obtain ⟨t3, e4, h⟩ := Option.bind_eq_some_iff.1 h
  refine call_fun [31] true ⟨trivial, trivial, trivial, trivial⟩ rfl ?_ (f_ledger_Add_ok _ _ _ e4) (fun h => by cases h) (fun i hi e he => coF_get (l := [31]) (by simp only [wz, wd, ws, Nat.reduceAdd, Nat.reduceSub, Nat.reduceMul, Nat.reduceLeDiff, Nat.reduceEqDiff, Nat.reduceLT, Nat.reduceBEq, reduceIte, reduceCtorEq, Int.reduceToNat, Nat.reduceShiftRight, Nat.reduceAnd, Nat.reduceBneDiff, Nat.reduceBNe, wi, e_api_Ledger, e_api_Disk, e_api_Write]) i e hi he) ?_
  · simp only [wz, wd, ws, Nat.reduceAdd, Nat.reduceSub, Nat.reduceMul, Nat.reduceLeDiff, Nat.reduceEqDiff, Nat.reduceLT, Nat.reduceBEq, reduceIte, reduceCtorEq, Int.reduceToNat, Nat.reduceShiftRight, Nat.reduceAnd, Nat.reduceBneDiff, Nat.reduceBNe, e_api_Ledger, e_api_Disk, e_api_Write, frz.eq_1, er_back]
  simp only [wz, wd, ws, Nat.reduceAdd, Nat.reduceSub, Nat.reduceMul, Nat.reduceLeDiff, Nat.reduceEqDiff, Nat.reduceLT, Nat.reduceBEq, reduceIte, reduceCtorEq, Int.reduceToNat, Nat.reduceShiftRight, Nat.reduceAnd, Nat.reduceBneDiff, Nat.reduceBNe, c7r3, semI.eq_10, semI.eq_11, semI.eq_3, semI.eq_5, semI.eq_7, e_api_Ledger, e_api_Disk, e_api_Write, frz.eq_1, er_back]
  refine .seq ?_
  refine .seq ?_
  refine Rw.walk ?_
  simp only [wz, wd, ws, Nat.reduceAdd, Nat.reduceSub, Nat.reduceMul, Nat.reduceLeDiff, Nat.reduceEqDiff, Nat.reduceLT, Nat.reduceBEq, reduceIte, reduceCtorEq, Int.reduceToNat, Nat.reduceShiftRight, Nat.reduceAnd, Nat.reduceBneDiff, Nat.reduceBNe, c7r4, semI.eq_10, semI.eq_11, semI.eq_3, semI.eq_5, semI.eq_7, e_api_Ledger, e_api_Disk, e_api_Write, frz.eq_1, er_back]
  obtain ⟨t4, e5, h⟩ := Option.bind_eq_some_iff.1 h
  refine call_funG [] rfl (by simp only [wz, wd, ws, Nat.reduceAdd, Nat.reduceSub, Nat.reduceMul, Nat.reduceLeDiff, Nat.reduceEqDiff, Nat.reduceLT, Nat.reduceBEq, reduceIte, reduceCtorEq, Int.reduceToNat, Nat.reduceShiftRight, Nat.reduceAnd, Nat.reduceBneDiff, Nat.reduceBNe]) rfl ?_ (fun q => (f_law10_alive_ok _ (gx_iff e5 (by simpa using q)))) rfl (fun i hi => by cases hi) ?_
  · simp only [wz, wd, ws, Nat.reduceAdd, Nat.reduceSub, Nat.reduceMul, Nat.reduceLeDiff, Nat.reduceEqDiff, Nat.reduceLT, Nat.reduceBEq, reduceIte, reduceCtorEq, Int.reduceToNat, Nat.reduceShiftRight, Nat.reduceAnd, Nat.reduceBneDiff, Nat.reduceBNe, e_api_Ledger, e_api_Disk, e_api_Write, frz.eq_1, er_back]
  simp only [wz, wd, ws, Nat.reduceAdd, Nat.reduceSub, Nat.reduceMul, Nat.reduceLeDiff, Nat.reduceEqDiff, Nat.reduceLT, Nat.reduceBEq, reduceIte, reduceCtorEq, Int.reduceToNat, Nat.reduceShiftRight, Nat.reduceAnd, Nat.reduceBneDiff, Nat.reduceBNe, c7r4, semI.eq_10, semI.eq_11, semI.eq_3, semI.eq_5, semI.eq_7, e_api_Ledger, e_api_Disk, e_api_Write, frz.eq_1, er_back]
  repeat (refine And.intro ?_ ?_; · first | omega | (simp only [List.length_append, List.length_cons, List.length_nil] at *; omega) | (intro q; simp only [wz, wd, ws, Nat.reduceAdd, Nat.reduceSub, Nat.reduceMul, Nat.reduceLeDiff, Nat.reduceEqDiff, Nat.reduceLT, Nat.reduceBEq, reduceIte, reduceCtorEq, Int.reduceToNat, Nat.reduceShiftRight, Nat.reduceAnd, Nat.reduceBneDiff, Nat.reduceBNe, q]; done))
  refine .cond (p := ((t.2 != 0) || (!t4))) (by first | rfl | simp only [wz, wd, ws, Nat.reduceAdd, Nat.reduceSub, Nat.reduceMul, Nat.reduceLeDiff, Nat.reduceEqDiff, Nat.reduceLT, Nat.reduceBEq, reduceIte, reduceCtorEq, Int.reduceToNat, Nat.reduceShiftRight, Nat.reduceAnd, Nat.reduceBneDiff, Nat.reduceBNe]) (fun h1 => ?_) (fun h1 => ?_)
  · rw [ite_t h1] at h
    refine .seq ?_
    refine Rw.walk ?_
    simp only [wz, wd, ws, Nat.reduceAdd, Nat.reduceSub, Nat.reduceMul, Nat.reduceLeDiff, Nat.reduceEqDiff, Nat.reduceLT, Nat.reduceBEq, reduceIte, reduceCtorEq, Int.reduceToNat, Nat.reduceShiftRight, Nat.reduceAnd, Nat.reduceBneDiff, Nat.reduceBNe, c7r5, semI.eq_10, semI.eq_11, semI.eq_3, semI.eq_5, semI.eq_7, e_api_Ledger, e_api_Disk, e_api_Write, frz.eq_1, er_back]
    obtain rfl := Option.some.inj h
    refine .ret ?_
    rw [← hR]
    simp only [wz, wd, ws, Nat.reduceAdd, Nat.reduceSub, Nat.reduceMul, Nat.reduceLeDiff, Nat.reduceEqDiff, Nat.reduceLT, Nat.reduceBEq, reduceIte, reduceCtorEq, Int.reduceToNat, Nat.reduceShiftRight, Nat.reduceAnd, Nat.reduceBneDiff, Nat.reduceBNe, rv7, e_api_Ledger, e_api_Disk, e_api_Write, frz.eq_1, er_back]
  · rw [ite_f h1] at h
    refine .skip ?_
    refine .seq ?_
    refine .seq ?_
    refine Rw.walk ?_
    simp only [wz, wd, ws, Nat.reduceAdd, Nat.reduceSub, Nat.reduceMul, Nat.reduceLeDiff, Nat.reduceEqDiff, Nat.reduceLT, Nat.reduceBEq, reduceIte, reduceCtorEq, Int.reduceToNat, Nat.reduceShiftRight, Nat.reduceAnd, Nat.reduceBneDiff, Nat.reduceBNe, c7r6, semI.eq_10, semI.eq_11, semI.eq_3, semI.eq_5, semI.eq_7, e_api_Ledger, e_api_Disk, e_api_Write, frz.eq_1, er_back]
    refine .cond (p := (t3.2 != 0)) (by first | rfl | simp only [wz, wd, ws, Nat.reduceAdd, Nat.reduceSub, Nat.reduceMul, Nat.reduceLeDiff, Nat.reduceEqDiff, Nat.reduceLT, Nat.reduceBEq, reduceIte, reduceCtorEq, Int.reduceToNat, Nat.reduceShiftRight, Nat.reduceAnd, Nat.reduceBneDiff, Nat.reduceBNe]) (fun h1 => ?_) (fun h1 => ?_)
    · rw [ite_t h1] at h
      refine .seq ?_
      refine Rw.walk ?_
      simp only [wz, wd, ws, Nat.reduceAdd, Nat.reduceSub, Nat.reduceMul, Nat.reduceLeDiff, Nat.reduceEqDiff, Nat.reduceLT, Nat.reduceBEq, reduceIte, reduceCtorEq, Int.reduceToNat, Nat.reduceShiftRight, Nat.reduceAnd, Nat.reduceBneDiff, Nat.reduceBNe, c7r7, semI.eq_10, semI.eq_11, semI.eq_3, semI.eq_5, semI.eq_7, e_api_Ledger, e_api_Disk, e_api_Write, frz.eq_1, er_back]
      repeat (refine And.intro ?_ ?_; · first | omega | (simp only [List.length_append, List.length_cons, List.length_nil] at *; omega) | (intro q; simp only [wz, wd, ws, Nat.reduceAdd, Nat.reduceSub, Nat.reduceMul, Nat.reduceLeDiff, Nat.reduceEqDiff, Nat.reduceLT, Nat.reduceBEq, reduceIte, reduceCtorEq, Int.reduceToNat, Nat.reduceShiftRight, Nat.reduceAnd, Nat.reduceBneDiff, Nat.reduceBNe, q]; done))
      obtain rfl := Option.some.inj h
      refine .ret ?_
      rw [← hR]
      simp only [wz, wd, ws, Nat.reduceAdd, Nat.reduceSub, Nat.reduceMul, Nat.reduceLeDiff, Nat.reduceEqDiff, Nat.reduceLT, Nat.reduceBEq, reduceIte, reduceCtorEq, Int.reduceToNat, Nat.reduceShiftRight, Nat.reduceAnd, Nat.reduceBneDiff, Nat.reduceBNe, rv7, e_api_Ledger, e_api_Disk, e_api_Write, frz.eq_1, er_back]
    · rw [ite_f h1] at h
      refine .skip ?_
      refine .seq ?_
      refine Rw.walk ?_
      simp only [wz, wd, ws, Nat.reduceAdd, Nat.reduceSub, Nat.reduceMul, Nat.reduceLeDiff, Nat.reduceEqDiff, Nat.reduceLT, Nat.reduceBEq, reduceIte, reduceCtorEq, Int.reduceToNat, Nat.reduceShiftRight, Nat.reduceAnd, Nat.reduceBneDiff, Nat.reduceBNe, c7r8, semI.eq_10, semI.eq_11, semI.eq_3, semI.eq_5, semI.eq_7, e_api_Ledger, e_api_Disk, e_api_Write, frz.eq_1, er_back]
      refine .seq ?_
      refine Rw.walk ?_
      simp only [wz, wd, ws, Nat.reduceAdd, Nat.reduceSub, Nat.reduceMul, Nat.reduceLeDiff, Nat.reduceEqDiff, Nat.reduceLT, Nat.reduceBEq, reduceIte, reduceCtorEq, Int.reduceToNat, Nat.reduceShiftRight, Nat.reduceAnd, Nat.reduceBneDiff, Nat.reduceBNe, c7r9, semI.eq_10, semI.eq_11, semI.eq_3, semI.eq_5, semI.eq_7, e_api_Ledger, e_api_Disk, e_api_Write, frz.eq_1, er_back]
      refine .seq ?_
      refine RwD.walk ?_
      simp only [wz, wd, ws, Nat.reduceAdd, Nat.reduceSub, Nat.reduceMul, Nat.reduceLeDiff, Nat.reduceEqDiff, Nat.reduceLT, Nat.reduceBEq, reduceIte, reduceCtorEq, Int.reduceToNat, Nat.reduceShiftRight, Nat.reduceAnd, Nat.reduceBneDiff, Nat.reduceBNe, c7r10, semI.eq_10, semI.eq_11, semI.eq_3, semI.eq_5, semI.eq_7, e_api_Ledger, e_api_Disk, e_api_Write, frz.eq_1, er_back]
      refine .seq ?_
      obtain ⟨s, hf, h⟩ := Option.bind_eq_some_iff.1 h
      refine W.cut1 ⟨lkT [(0, .b (.s (.d (.int .i64 sectors2)))), (11, .b (.s (.ptr 11 1 0 0))), (13, .b (.s (.ptr 13 1 0 0))), (14, .b (.s (.d (.int .i64 s.1)))), (15, .b (.s (.d (.int .i64 s.2.1)))), (16, .b (.s (.d (.int .i64 s.2.2.1))))], lkG [(11, ⟨6, [[(.d (.sl (t3.1.Disk.Sectors.map eS))), (.d (.sl (t3.1.Disk.Dirty.map e_api_Write))), (.d (.int .i64 t3.1.Half)), (.d (.int .i64 t3.1.Gen)), (.d (.int .i64 t3.1.Used)), (.d (.sl (t3.1.Entries.map eS)))]], false⟩), (13, ⟨6, [[(.d (.sl (s.2.2.2.1.map eS))), (.d (.sl (s.2.2.2.2.1.map e_api_Write))), (.d (.int .i64 s.2.2.2.2.2.1)), (.d (.int .i64 s.2.2.2.2.2.2.1)), (.d (.int .i64 s.2.2.2.2.2.2.2.1)), (.d (.sl (s.2.2.2.2.2.2.2.2.map eS)))]], false⟩)]⟩ ?_ (fun tail => ?_)
      · skip
        refine .seq ?_
        refine .seq ?_
        refine Rw.walk ?_
        simp only [wz, wd, ws, Nat.reduceAdd, Nat.reduceSub, Nat.reduceMul, Nat.reduceLeDiff, Nat.reduceEqDiff, Nat.reduceLT, Nat.reduceBEq, reduceIte, reduceCtorEq, Int.reduceToNat, Nat.reduceShiftRight, Nat.reduceAnd, Nat.reduceBneDiff, Nat.reduceBNe, c7r15, semI.eq_10, semI.eq_11, semI.eq_3, semI.eq_5, semI.eq_7, e_api_Ledger, e_api_Disk, e_api_Write, frz.eq_1, er_back]
        refine .cond (p := (s.1 != 0)) (by first | rfl | simp only [wz, wd, ws, Nat.reduceAdd, Nat.reduceSub, Nat.reduceMul, Nat.reduceLeDiff, Nat.reduceEqDiff, Nat.reduceLT, Nat.reduceBEq, reduceIte, reduceCtorEq, Int.reduceToNat, Nat.reduceShiftRight, Nat.reduceAnd, Nat.reduceBneDiff, Nat.reduceBNe]) (fun h1 => ?_) (fun h1 => ?_)
        · rw [ite_t h1] at h
          refine .seq ?_
          refine Rw.walk ?_
          simp only [wz, wd, ws, Nat.reduceAdd, Nat.reduceSub, Nat.reduceMul, Nat.reduceLeDiff, Nat.reduceEqDiff, Nat.reduceLT, Nat.reduceBEq, reduceIte, reduceCtorEq, Int.reduceToNat, Nat.reduceShiftRight, Nat.reduceAnd, Nat.reduceBneDiff, Nat.reduceBNe, c7r16, semI.eq_10, semI.eq_11, semI.eq_3, semI.eq_5, semI.eq_7, e_api_Ledger, e_api_Disk, e_api_Write, frz.eq_1, er_back]
          repeat (refine And.intro ?_ ?_; · first | omega | (simp only [List.length_append, List.length_cons, List.length_nil] at *; omega) | (intro q; simp only [wz, wd, ws, Nat.reduceAdd, Nat.reduceSub, Nat.reduceMul, Nat.reduceLeDiff, Nat.reduceEqDiff, Nat.reduceLT, Nat.reduceBEq, reduceIte, reduceCtorEq, Int.reduceToNat, Nat.reduceShiftRight, Nat.reduceAnd, Nat.reduceBneDiff, Nat.reduceBNe, q]; done))
          obtain rfl := Option.some.inj h
          refine .ret ?_
          rw [← hR]
          simp only [wz, wd, ws, Nat.reduceAdd, Nat.reduceSub, Nat.reduceMul, Nat.reduceLeDiff, Nat.reduceEqDiff, Nat.reduceLT, Nat.reduceBEq, reduceIte, reduceCtorEq, Int.reduceToNat, Nat.reduceShiftRight, Nat.reduceAnd, Nat.reduceBneDiff, Nat.reduceBNe, rv7, e_api_Ledger, e_api_Disk, e_api_Write, frz.eq_1, er_back]
        · rw [ite_f h1] at h
          refine .skip ?_
          refine .seq ?_
          refine Rw.walk ?_
          simp only [wz, wd, ws, Nat.reduceAdd, Nat.reduceSub, Nat.reduceMul, Nat.reduceLeDiff, Nat.reduceEqDiff, Nat.reduceLT, Nat.reduceBEq, reduceIte, reduceCtorEq, Int.reduceToNat, Nat.reduceShiftRight, Nat.reduceAnd, Nat.reduceBneDiff, Nat.reduceBNe, c7r17, semI.eq_10, semI.eq_11, semI.eq_3, semI.eq_5, semI.eq_7, e_api_Ledger, e_api_Disk, e_api_Write, frz.eq_1, er_back]
          repeat (refine And.intro ?_ ?_; · first | omega | (simp only [List.length_append, List.length_cons, List.length_nil] at *; omega) | (intro q; simp only [wz, wd, ws, Nat.reduceAdd, Nat.reduceSub, Nat.reduceMul, Nat.reduceLeDiff, Nat.reduceEqDiff, Nat.reduceLT, Nat.reduceBEq, reduceIte, reduceCtorEq, Int.reduceToNat, Nat.reduceShiftRight, Nat.reduceAnd, Nat.reduceBneDiff, Nat.reduceBNe, q]; done))
          refine .seq ?_
          refine .seq ?_
          refine Rw.walk ?_
          simp only [wz, wd, ws, Nat.reduceAdd, Nat.reduceSub, Nat.reduceMul, Nat.reduceLeDiff, Nat.reduceEqDiff, Nat.reduceLT, Nat.reduceBEq, reduceIte, reduceCtorEq, Int.reduceToNat, Nat.reduceShiftRight, Nat.reduceAnd, Nat.reduceBneDiff, Nat.reduceBNe, c7r18, semI.eq_10, semI.eq_11, semI.eq_3, semI.eq_5, semI.eq_7, e_api_Ledger, e_api_Disk, e_api_Write, frz.eq_1, er_back]
          refine .blk ?_
          obtain ⟨s2, hf, h⟩ := Option.bind_eq_some_iff.1 h
          refine .loop (.weak (Imp.co [] _ _ ?c1 ?c2 ?c3 ?c4 ?c5) (f_law10_LedgerHalves_l25_ok sectors2 t3 s _ _ hR _ _ _ hf _ ?_ ?_))
          case c1 | c2 | c3 | c4 | c5 => simp only [wz, wd, ws, Nat.reduceAdd, Nat.reduceSub, Nat.reduceMul, Nat.reduceLeDiff, Nat.reduceEqDiff, Nat.reduceLT, Nat.reduceBEq, reduceIte, reduceCtorEq, Int.reduceToNat, Nat.reduceShiftRight, Nat.reduceAnd, Nat.reduceBneDiff, Nat.reduceBNe, wi, er_nil, e_api_Ledger, e_api_Disk, e_api_Write]
          · intro s3 hs; subst hs; dsimp only at h
            refine .seq ?_
            refine Rw.walk ?_
            simp only [wz, wd, ws, Nat.reduceAdd, Nat.reduceSub, Nat.reduceMul, Nat.reduceLeDiff, Nat.reduceEqDiff, Nat.reduceLT, Nat.reduceBEq, reduceIte, reduceCtorEq, Int.reduceToNat, Nat.reduceShiftRight, Nat.reduceAnd, Nat.reduceBneDiff, Nat.reduceBNe, c7r25, semI.eq_10, semI.eq_11, semI.eq_3, semI.eq_5, semI.eq_7, e_api_Ledger, e_api_Disk, e_api_Write]
            refine call_alt (v := .b (.s (.d (.int .i64 s.2.2.2.2.2.2.1)))) rfl rfl (by simp only [wz, wd, ws, Nat.reduceAdd, Nat.reduceSub, Nat.reduceMul, Nat.reduceLeDiff, Nat.reduceEqDiff, Nat.reduceLT, Nat.reduceBEq, reduceIte, reduceCtorEq, Int.reduceToNat, Nat.reduceShiftRight, Nat.reduceAnd, Nat.reduceBneDiff, Nat.reduceBNe]) (fun q => ⟨_, by simp only [wz, wd, ws, Nat.reduceAdd, Nat.reduceSub, Nat.reduceMul, Nat.reduceLeDiff, Nat.reduceEqDiff, Nat.reduceLT, Nat.reduceBEq, reduceIte, reduceCtorEq, Int.reduceToNat, Nat.reduceShiftRight, Nat.reduceAnd, Nat.reduceBneDiff, Nat.reduceBNe, semI.eq_10, e_api_Ledger, e_api_Disk, e_api_Write], trivial⟩) ?_
            simp only [wz, wd, ws, Nat.reduceAdd, Nat.reduceSub, Nat.reduceMul, Nat.reduceLeDiff, Nat.reduceEqDiff, Nat.reduceLT, Nat.reduceBEq, reduceIte, reduceCtorEq, Int.reduceToNat, Nat.reduceShiftRight, Nat.reduceAnd, Nat.reduceBneDiff, Nat.reduceBNe, c7r25, semI.eq_10, semI.eq_11, semI.eq_3, semI.eq_5, semI.eq_7, e_api_Ledger, e_api_Disk, e_api_Write]
            repeat (refine And.intro ?_ ?_; · first | omega | (simp only [List.length_append, List.length_cons, List.length_nil] at *; omega) | (intro q; simp only [wz, wd, ws, Nat.reduceAdd, Nat.reduceSub, Nat.reduceMul, Nat.reduceLeDiff, Nat.reduceEqDiff, Nat.reduceLT, Nat.reduceBEq, reduceIte, reduceCtorEq, Int.reduceToNat, Nat.reduceShiftRight, Nat.reduceAnd, Nat.reduceBneDiff, Nat.reduceBNe, q]; done))
            refine call_alt (v := .b (.s (.d (.int .i64 t3.1.Half)))) rfl rfl (by simp only [wz, wd, ws, Nat.reduceAdd, Nat.reduceSub, Nat.reduceMul, Nat.reduceLeDiff, Nat.reduceEqDiff, Nat.reduceLT, Nat.reduceBEq, reduceIte, reduceCtorEq, Int.reduceToNat, Nat.reduceShiftRight, Nat.reduceAnd, Nat.reduceBneDiff, Nat.reduceBNe]) (fun q => ⟨_, by simp only [wz, wd, ws, Nat.reduceAdd, Nat.reduceSub, Nat.reduceMul, Nat.reduceLeDiff, Nat.reduceEqDiff, Nat.reduceLT, Nat.reduceBEq, reduceIte, reduceCtorEq, Int.reduceToNat, Nat.reduceShiftRight, Nat.reduceAnd, Nat.reduceBneDiff, Nat.reduceBNe, semI.eq_10, e_api_Ledger, e_api_Disk, e_api_Write], trivial⟩) ?_
            simp only [wz, wd, ws, Nat.reduceAdd, Nat.reduceSub, Nat.reduceMul, Nat.reduceLeDiff, Nat.reduceEqDiff, Nat.reduceLT, Nat.reduceBEq, reduceIte, reduceCtorEq, Int.reduceToNat, Nat.reduceShiftRight, Nat.reduceAnd, Nat.reduceBneDiff, Nat.reduceBNe, c7r25, semI.eq_10, semI.eq_11, semI.eq_3, semI.eq_5, semI.eq_7, e_api_Ledger, e_api_Disk, e_api_Write]
            repeat (refine And.intro ?_ ?_; · first | omega | (simp only [List.length_append, List.length_cons, List.length_nil] at *; omega) | (intro q; simp only [wz, wd, ws, Nat.reduceAdd, Nat.reduceSub, Nat.reduceMul, Nat.reduceLeDiff, Nat.reduceEqDiff, Nat.reduceLT, Nat.reduceBEq, reduceIte, reduceCtorEq, Int.reduceToNat, Nat.reduceShiftRight, Nat.reduceAnd, Nat.reduceBneDiff, Nat.reduceBNe, q]; done))
            refine call_alt (v := .b (.s (.d (.int .i64 t3.1.Gen)))) rfl rfl (by simp only [wz, wd, ws, Nat.reduceAdd, Nat.reduceSub, Nat.reduceMul, Nat.reduceLeDiff, Nat.reduceEqDiff, Nat.reduceLT, Nat.reduceBEq, reduceIte, reduceCtorEq, Int.reduceToNat, Nat.reduceShiftRight, Nat.reduceAnd, Nat.reduceBneDiff, Nat.reduceBNe]) (fun q => ⟨_, by simp only [wz, wd, ws, Nat.reduceAdd, Nat.reduceSub, Nat.reduceMul, Nat.reduceLeDiff, Nat.reduceEqDiff, Nat.reduceLT, Nat.reduceBEq, reduceIte, reduceCtorEq, Int.reduceToNat, Nat.reduceShiftRight, Nat.reduceAnd, Nat.reduceBneDiff, Nat.reduceBNe, semI.eq_10, e_api_Ledger, e_api_Disk, e_api_Write], trivial⟩) ?_
            simp only [wz, wd, ws, Nat.reduceAdd, Nat.reduceSub, Nat.reduceMul, Nat.reduceLeDiff, Nat.reduceEqDiff, Nat.reduceLT, Nat.reduceBEq, reduceIte, reduceCtorEq, Int.reduceToNat, Nat.reduceShiftRight, Nat.reduceAnd, Nat.reduceBneDiff, Nat.reduceBNe, c7r25, semI.eq_10, semI.eq_11, semI.eq_3, semI.eq_5, semI.eq_7, e_api_Ledger, e_api_Disk, e_api_Write]
            repeat (refine And.intro ?_ ?_; · first | omega | (simp only [List.length_append, List.length_cons, List.length_nil] at *; omega) | (intro q; simp only [wz, wd, ws, Nat.reduceAdd, Nat.reduceSub, Nat.reduceMul, Nat.reduceLeDiff, Nat.reduceEqDiff, Nat.reduceLT, Nat.reduceBEq, reduceIte, reduceCtorEq, Int.reduceToNat, Nat.reduceShiftRight, Nat.reduceAnd, Nat.reduceBneDiff, Nat.reduceBNe, q]; done))
            obtain rfl := Option.some.inj h
            refine .ret ?_
            rw [← hR]
            simp only [wz, wd, ws, Nat.reduceAdd, Nat.reduceSub, Nat.reduceMul, Nat.reduceLeDiff, Nat.reduceEqDiff, Nat.reduceLT, Nat.reduceBEq, reduceIte, reduceCtorEq, Int.reduceToNat, Nat.reduceShiftRight, Nat.reduceAnd, Nat.reduceBneDiff, Nat.reduceBNe, rv7, e_api_Ledger, e_api_Disk, e_api_Write]
          · intro z hz; subst hz; dsimp only at h
            exact Option.some.inj h
      replace h := hf
      refine .seq ?_
      refine Rw.walk ?_
      simp only [wz, wd, ws, Nat.reduceAdd, Nat.reduceSub, Nat.reduceMul, Nat.reduceLeDiff, Nat.reduceEqDiff, Nat.reduceLT, Nat.reduceBEq, reduceIte, reduceCtorEq, Int.reduceToNat, Nat.reduceShiftRight, Nat.reduceAnd, Nat.reduceBneDiff, Nat.reduceBNe, c7r11, semI.eq_10, semI.eq_11, semI.eq_3, semI.eq_5, semI.eq_7, e_api_Ledger, e_api_Disk, e_api_Write, frz.eq_1, er_back]
      refine .cond (p := renew) (by first | rfl | simp only [wz, wd, ws, Nat.reduceAdd, Nat.reduceSub, Nat.reduceMul, Nat.reduceLeDiff, Nat.reduceEqDiff, Nat.reduceLT, Nat.reduceBEq, reduceIte, reduceCtorEq, Int.reduceToNat, Nat.reduceShiftRight, Nat.reduceAnd, Nat.reduceBneDiff, Nat.reduceBNe]) (fun h1 => ?_) (fun h1 => ?_)
      · rw [ite_t h1] at h
        refine .seq ?_
        refine RwD.walk ?_
        simp only [wz, wd, ws, Nat.reduceAdd, Nat.reduceSub, Nat.reduceMul, Nat.reduceLeDiff, Nat.reduceEqDiff, Nat.reduceLT, Nat.reduceBEq, reduceIte, reduceCtorEq, Int.reduceToNat, Nat.reduceShiftRight, Nat.reduceAnd, Nat.reduceBneDiff, Nat.reduceBNe, c7r12, semI.eq_10, semI.eq_11, semI.eq_3, semI.eq_5, semI.eq_7, e_api_Ledger, e_api_Disk, e_api_Write, frz.eq_1, er_back]
        obtain ⟨t5, e9, h⟩ := Option.bind_eq_some_iff.1 h
        refine call_funO' [] ⟨trivial, trivial, trivial⟩ rfl ?_ (f_law10_texts_ok _ _ e9) rfl (.inl rfl) ?_
        · simp only [wz, wd, ws, Nat.reduceAdd, Nat.reduceSub, Nat.reduceMul, Nat.reduceLeDiff, Nat.reduceEqDiff, Nat.reduceLT, Nat.reduceBEq, reduceIte, reduceCtorEq, Int.reduceToNat, Nat.reduceShiftRight, Nat.reduceAnd, Nat.reduceBneDiff, Nat.reduceBNe, e_api_Ledger, e_api_Disk, e_api_Write, frz.eq_1, er_back]
        simp only [wz, wd, ws, Nat.reduceAdd, Nat.reduceSub, Nat.reduceMul, Nat.reduceLeDiff, Nat.reduceEqDiff, Nat.reduceLT, Nat.reduceBEq, reduceIte, reduceCtorEq, Int.reduceToNat, Nat.reduceShiftRight, Nat.reduceAnd, Nat.reduceBneDiff, Nat.reduceBNe, c7r12, semI.eq_10, semI.eq_11, semI.eq_3, semI.eq_5, semI.eq_7, e_api_Ledger, e_api_Disk, e_api_Write, frz.eq_1, er_back]
        obtain ⟨t6, e10, h⟩ := Option.bind_eq_some_iff.1 h
        refine call_fun [57] true ⟨trivial, trivial, trivial, trivial⟩ rfl ?_ (f_ledger_Renew_ok _ _ _ e10) (fun h => by cases h) (fun i hi e he => coF_get (l := [57]) (by simp only [wz, wd, ws, Nat.reduceAdd, Nat.reduceSub, Nat.reduceMul, Nat.reduceLeDiff, Nat.reduceEqDiff, Nat.reduceLT, Nat.reduceBEq, reduceIte, reduceCtorEq, Int.reduceToNat, Nat.reduceShiftRight, Nat.reduceAnd, Nat.reduceBneDiff, Nat.reduceBNe, wi, e_api_Ledger, e_api_Disk, e_api_Write]) i e hi he) ?_
        · simp only [wz, wd, ws, Nat.reduceAdd, Nat.reduceSub, Nat.reduceMul, Nat.reduceLeDiff, Nat.reduceEqDiff, Nat.reduceLT, Nat.reduceBEq, reduceIte, reduceCtorEq, Int.reduceToNat, Nat.reduceShiftRight, Nat.reduceAnd, Nat.reduceBneDiff, Nat.reduceBNe, e_api_Ledger, e_api_Disk, e_api_Write, frz.eq_1, er_back]
        simp only [wz, wd, ws, Nat.reduceAdd, Nat.reduceSub, Nat.reduceMul, Nat.reduceLeDiff, Nat.reduceEqDiff, Nat.reduceLT, Nat.reduceBEq, reduceIte, reduceCtorEq, Int.reduceToNat, Nat.reduceShiftRight, Nat.reduceAnd, Nat.reduceBneDiff, Nat.reduceBNe, c7r12, semI.eq_10, semI.eq_11, semI.eq_3, semI.eq_5, semI.eq_7, e_api_Ledger, e_api_Disk, e_api_Write, frz.eq_1, er_back]
        refine RwD.walk ?_
        simp only [wz, wd, ws, Nat.reduceAdd, Nat.reduceSub, Nat.reduceMul, Nat.reduceLeDiff, Nat.reduceEqDiff, Nat.reduceLT, Nat.reduceBEq, reduceIte, reduceCtorEq, Int.reduceToNat, Nat.reduceShiftRight, Nat.reduceAnd, Nat.reduceBneDiff, Nat.reduceBNe, c7r13, semI.eq_10, semI.eq_11, semI.eq_3, semI.eq_5, semI.eq_7, e_api_Ledger, e_api_Disk, e_api_Write, frz.eq_1, er_back]
        obtain rfl := Option.some.inj h
        refine .weak (Imp.co [] _ _ ?_ ?_ ?_ ?_ ?_) (tail) <;> simp only [wz, wd, ws, Nat.reduceAdd, Nat.reduceSub, Nat.reduceMul, Nat.reduceLeDiff, Nat.reduceEqDiff, Nat.reduceLT, Nat.reduceBEq, reduceIte, reduceCtorEq, Int.reduceToNat, Nat.reduceShiftRight, Nat.reduceAnd, Nat.reduceBneDiff, Nat.reduceBNe, wi, er_nil, e_api_Ledger, e_api_Disk, e_api_Write]
      · rw [ite_f h1] at h
        refine RwD.walk ?_
        simp only [wz, wd, ws, Nat.reduceAdd, Nat.reduceSub, Nat.reduceMul, Nat.reduceLeDiff, Nat.reduceEqDiff, Nat.reduceLT, Nat.reduceBEq, reduceIte, reduceCtorEq, Int.reduceToNat, Nat.reduceShiftRight, Nat.reduceAnd, Nat.reduceBneDiff, Nat.reduceBNe, c7r14, semI.eq_10, semI.eq_11, semI.eq_3, semI.eq_5, semI.eq_7, e_api_Ledger, e_api_Disk, e_api_Write, frz.eq_1, er_back]
        obtain ⟨t5, e11, h⟩ := Option.bind_eq_some_iff.1 h
        refine call_funO' [] ⟨trivial, trivial, trivial⟩ rfl ?_ (f_law10_texts_ok _ _ e11) rfl (.inl rfl) ?_
        · simp only [wz, wd, ws, Nat.reduceAdd, Nat.reduceSub, Nat.reduceMul, Nat.reduceLeDiff, Nat.reduceEqDiff, Nat.reduceLT, Nat.reduceBEq, reduceIte, reduceCtorEq, Int.reduceToNat, Nat.reduceShiftRight, Nat.reduceAnd, Nat.reduceBneDiff, Nat.reduceBNe, e_api_Ledger, e_api_Disk, e_api_Write, frz.eq_1, er_back]
        simp only [wz, wd, ws, Nat.reduceAdd, Nat.reduceSub, Nat.reduceMul, Nat.reduceLeDiff, Nat.reduceEqDiff, Nat.reduceLT, Nat.reduceBEq, reduceIte, reduceCtorEq, Int.reduceToNat, Nat.reduceShiftRight, Nat.reduceAnd, Nat.reduceBneDiff, Nat.reduceBNe, c7r14, semI.eq_10, semI.eq_11, semI.eq_3, semI.eq_5, semI.eq_7, e_api_Ledger, e_api_Disk, e_api_Write, frz.eq_1, er_back]
        obtain ⟨t6, e12, h⟩ := Option.bind_eq_some_iff.1 h
        refine call_fun [70] true ⟨trivial, trivial, trivial, trivial⟩ rfl ?_ (f_ledger_Add_ok _ _ _ e12) (fun h => by cases h) (fun i hi e he => coF_get (l := [70]) (by simp only [wz, wd, ws, Nat.reduceAdd, Nat.reduceSub, Nat.reduceMul, Nat.reduceLeDiff, Nat.reduceEqDiff, Nat.reduceLT, Nat.reduceBEq, reduceIte, reduceCtorEq, Int.reduceToNat, Nat.reduceShiftRight, Nat.reduceAnd, Nat.reduceBneDiff, Nat.reduceBNe, wi, e_api_Ledger, e_api_Disk, e_api_Write]) i e hi he) ?_
        · simp only [wz, wd, ws, Nat.reduceAdd, Nat.reduceSub, Nat.reduceMul, Nat.reduceLeDiff, Nat.reduceEqDiff, Nat.reduceLT, Nat.reduceBEq, reduceIte, reduceCtorEq, Int.reduceToNat, Nat.reduceShiftRight, Nat.reduceAnd, Nat.reduceBneDiff, Nat.reduceBNe, e_api_Ledger, e_api_Disk, e_api_Write, frz.eq_1, er_back]
        simp only [wz, wd, ws, Nat.reduceAdd, Nat.reduceSub, Nat.reduceMul, Nat.reduceLeDiff, Nat.reduceEqDiff, Nat.reduceLT, Nat.reduceBEq, reduceIte, reduceCtorEq, Int.reduceToNat, Nat.reduceShiftRight, Nat.reduceAnd, Nat.reduceBneDiff, Nat.reduceBNe, c7r14, semI.eq_10, semI.eq_11, semI.eq_3, semI.eq_5, semI.eq_7, e_api_Ledger, e_api_Disk, e_api_Write, frz.eq_1, er_back]
        obtain rfl := Option.some.inj h
        refine .weak (Imp.co [] _ _ ?_ ?_ ?_ ?_ ?_) (tail) <;> simp only [wz, wd, ws, Nat.reduceAdd, Nat.reduceSub, Nat.reduceMul, Nat.reduceLeDiff, Nat.reduceEqDiff, Nat.reduceLT, Nat.reduceBEq, reduceIte, reduceCtorEq, Int.reduceToNat, Nat.reduceShiftRight, Nat.reduceAnd, Nat.reduceBneDiff, Nat.reduceBNe, wi, er_nil, e_api_Ledger, e_api_Disk, e_api_Write]
-- 30 consignor/consignorlaw10.LedgerFills$1
def c30r0 : List Opn := [
  ⟨(some 2), none, .mv (.c (.s (.d (.str []))))⟩]
def c30r1 : List Opn := [
  ⟨(some 3), none, .mv (.t 0)⟩, 
  ⟨(some 4), none, .mksl 1 1 [(.d (.int .u8 0))] (.t 3) (.t 3)⟩, 
  ⟨(some 5), none, .cv .b2s (.t 4)⟩, 
  ⟨(some 2), none, .mv (.t 5)⟩]
def c30 : C := .seq (.reg c30r0 none [0]) (.seq (.reg c30r1 none [2]) (.ret))
def k30 : List (Nat × List Nat) := [(1, [2]), (0, [0])]
theorem cc30 : (Try.f30.body).bind (cC Try.prog 6 k30) = some c30 := by kernel_rfl
def rv30 : List RV := [.t 2]
theorem cr30 : cRVs Try.prog Try.f30.results.toList = some rv30 := by kernel_rfl
theorem f_law10_LedgerFills_1_ok (n : Int) (y_ : Str) (h : f_law10_LedgerFills_1 n = some y_) : Fun Try.prog glP 30 [.b (.s (.d (.int .i64 n)))] (.b (.s (.d (.str y_)))) := by
  refine fun_walk [] Try.func30 Try.ntmps30 cc30 cr30 (by kernel_rfl) (by simp only [List.length_cons, List.length_nil]; decide) ?_
  generalize hR : Ret _ _ _ _ _ = R_
  simp only [wz, wd, ws, Nat.reduceAdd, Nat.reduceSub, Nat.reduceMul, Nat.reduceLeDiff, Nat.reduceEqDiff, Nat.reduceLT, Nat.reduceBEq, reduceIte, reduceCtorEq, Int.reduceToNat, Nat.reduceShiftRight, Nat.reduceAnd, Nat.reduceBneDiff, Nat.reduceBNe]
  unfold f_law10_LedgerFills_1 at h; unfold c30
  refine .seq ?_
  refine Rw.walk ?_
  simp only [wz, wd, ws, Nat.reduceAdd, Nat.reduceSub, Nat.reduceMul, Nat.reduceLeDiff, Nat.reduceEqDiff, Nat.reduceLT, Nat.reduceBEq, reduceIte, reduceCtorEq, Int.reduceToNat, Nat.reduceShiftRight, Nat.reduceAnd, Nat.reduceBneDiff, Nat.reduceBNe, c30r0, semI.eq_10, semI.eq_11, semI.eq_3, semI.eq_5, semI.eq_7]
  refine .seq ?_
  refine Rw.walk ?_
  simp only [wz, wd, ws, Nat.reduceAdd, Nat.reduceSub, Nat.reduceMul, Nat.reduceLeDiff, Nat.reduceEqDiff, Nat.reduceLT, Nat.reduceBEq, reduceIte, reduceCtorEq, Int.reduceToNat, Nat.reduceShiftRight, Nat.reduceAnd, Nat.reduceBneDiff, Nat.reduceBNe, c30r1, semI.eq_10, semI.eq_11, semI.eq_3, semI.eq_5, semI.eq_7]
  obtain ⟨g1, h⟩ := gd_iff.1 h
  repeat (refine And.intro ?_ ?_; · first | omega | (simp only [List.length_append, List.length_cons, List.length_nil] at *; omega) | (intro q; simp only [wz, wd, ws, Nat.reduceAdd, Nat.reduceSub, Nat.reduceMul, Nat.reduceLeDiff, Nat.reduceEqDiff, Nat.reduceLT, Nat.reduceBEq, reduceIte, reduceCtorEq, Int.reduceToNat, Nat.reduceShiftRight, Nat.reduceAnd, Nat.reduceBneDiff, Nat.reduceBNe, q]; done))
  refine Go1.of (sem_mksl (enc := (eI .u8)) (z1 := 0) (p := n) (q := n) (by rfl) (by rfl) (by rfl) (by rfl) (by rfl)) ?_
  simp only [wz, wd, ws, Nat.reduceAdd, Nat.reduceSub, Nat.reduceMul, Nat.reduceLeDiff, Nat.reduceEqDiff, Nat.reduceLT, Nat.reduceBEq, reduceIte, reduceCtorEq, Int.reduceToNat, Nat.reduceShiftRight, Nat.reduceAnd, Nat.reduceBneDiff, Nat.reduceBNe, c30r1, semI.eq_10, semI.eq_11, semI.eq_3, semI.eq_5, semI.eq_7]
  repeat (refine And.intro ?_ ?_; · first | omega | (simp only [List.length_append, List.length_cons, List.length_nil] at *; omega) | (intro q; simp only [wz, wd, ws, Nat.reduceAdd, Nat.reduceSub, Nat.reduceMul, Nat.reduceLeDiff, Nat.reduceEqDiff, Nat.reduceLT, Nat.reduceBEq, reduceIte, reduceCtorEq, Int.reduceToNat, Nat.reduceShiftRight, Nat.reduceAnd, Nat.reduceBneDiff, Nat.reduceBNe, q]; done))
  refine Go1.of (sem_b2s (n := (List.replicate n.toNat 0)) (rowsV_own (m := (List.replicate n.toNat 0)) (by first | rfl | (simp only [List.length_map, List.length_replicate, List.length_set]; rfl)) (by first | rfl | (simp only [List.length_map, List.length_replicate, List.length_set]; rfl)))) ?_
  simp only [wz, wd, ws, Nat.reduceAdd, Nat.reduceSub, Nat.reduceMul, Nat.reduceLeDiff, Nat.reduceEqDiff, Nat.reduceLT, Nat.reduceBEq, reduceIte, reduceCtorEq, Int.reduceToNat, Nat.reduceShiftRight, Nat.reduceAnd, Nat.reduceBneDiff, Nat.reduceBNe, c30r1, semI.eq_10, semI.eq_11, semI.eq_3, semI.eq_5, semI.eq_7]
  obtain rfl := Option.some.inj h
  refine .ret ?_
  rw [← hR]
  simp only [wz, wd, ws, Nat.reduceAdd, Nat.reduceSub, Nat.reduceMul, Nat.reduceLeDiff, Nat.reduceEqDiff, Nat.reduceLT, Nat.reduceBEq, reduceIte, reduceCtorEq, Int.reduceToNat, Nat.reduceShiftRight, Nat.reduceAnd, Nat.reduceBneDiff, Nat.reduceBNe, rv30]
-- 8 consignor/consignorlaw10.LedgerFills
def c8r0 : List Opn := [
  ⟨(some 4), none, .mv (.c (.s (.d (.bool false))))⟩]
def c8r1 : List Opn := [
  ⟨(some 20), none, .mv (.t 0)⟩, 
  ⟨(some 21), none, .mm true (.t 20) (.c (.s (.d (.int .i64 4))))⟩, 
  ⟨(some 22), none, .mm false (.t 21) (.c (.s (.d (.int .i64 40))))⟩, 
  ⟨(some 0), none, .mv (.t 22)⟩]
def c8r2 : List Opn := [
  ⟨(some 23), none, .mv (.t 0)⟩, 
  ⟨(some 24), none, .bin .quo (.t 23) (.c (.s (.d (.int .i64 2))))⟩, 
  ⟨(some 25), none, .bin .sub (.t 24) (.c (.s (.d (.int .i64 1))))⟩, 
  ⟨(some 26), none, .bin .mul (.t 25) (.c (.s (.d (.int .i64 128))))⟩, 
  ⟨(some 5), none, .mv (.t 26)⟩]
def c8r3 : List Opn := [
  ⟨(some 27), none, .mv (.t 1)⟩, 
  ⟨(some 28), none, .mv (.t 5)⟩, 
  ⟨(some 29), none, .bin .sub (.t 28) (.c (.s (.d (.int .i64 1))))⟩, 
  ⟨(some 30), none, .bin .rem (.t 27) (.t 29)⟩, 
  ⟨(some 31), none, .mv (.t 5)⟩, 
  ⟨(some 32), none, .bin .add (.t 30) (.t 31)⟩, 
  ⟨(some 33), none, .bin .sub (.t 32) (.c (.s (.d (.int .i64 1))))⟩, 
  ⟨(some 34), none, .mv (.t 5)⟩, 
  ⟨(some 35), none, .bin .sub (.t 34) (.c (.s (.d (.int .i64 1))))⟩, 
  ⟨(some 36), none, .bin .rem (.t 33) (.t 35)⟩, 
  ⟨(some 37), none, .bin .add (.t 36) (.c (.s (.d (.int .i64 2))))⟩, 
  ⟨(some 1), none, .mv (.t 37)⟩]
def c8r4 : List Opn := [
  ⟨(some 39), none, .mv (.t 0)⟩, 
  ⟨(some 40), none, .call (.fn 12) [(.t 39)]⟩, 
  ⟨(some 38), none, .mv (.t 40)⟩, 
  ⟨(some 41), none, .ext (.t 38) 0⟩, 
  ⟨(some 42), none, .ext (.t 38) 1⟩, 
  ⟨(some 6), none, .new [.nils, .nils, (.d (.int .i64 0)), (.d (.int .i64 0)), (.d (.int .i64 0)), .nils]⟩, 
  ⟨none, none, .store 6 (.t 6) (.t 41)⟩, 
  ⟨(some 7), none, .mv (.t 42)⟩]
def c8r5 : List Opn := [
  ⟨(some 8), none, .mv (.fn 30)⟩]
def c8r6 : List Opn := [
  ⟨(some 44), none, .load true 6 (.t 6)⟩, 
  ⟨(some 45), none, .mv (.t 8)⟩, 
  ⟨(some 46), none, .mv (.t 1)⟩, 
  ⟨(some 47), none, .bin .sub (.t 46) (.c (.s (.d (.int .i64 2))))⟩, 
  ⟨(some 48), none, .mm false (.t 47) (.c (.s (.d (.int .i64 4096))))⟩, 
  ⟨(some 49), none, .call (.t 45) [(.t 48)]⟩, 
  ⟨(some 50), none, .bsl 1 [(.t 49)]⟩, 
  ⟨(some 51), none, .call (.fn 18) [(.t 44), (.t 50)]⟩, 
  ⟨(some 43), none, .mv (.t 51)⟩, 
  ⟨(some 52), none, .ext (.t 43) 0⟩, 
  ⟨(some 53), none, .ext (.t 43) 1⟩, 
  ⟨(some 9), none, .new [.nils, .nils, (.d (.int .i64 0)), (.d (.int .i64 0)), (.d (.int .i64 0)), .nils]⟩, 
  ⟨none, none, .store 6 (.t 9) (.t 52)⟩, 
  ⟨(some 10), none, .mv (.t 53)⟩]
def c8r7 : List Opn := [
  ⟨(some 54), none, .mv (.t 7)⟩, 
  ⟨(some 55), none, .bin .neq (.t 54) (.c (.s (.d (.int .i64 0))))⟩, 
  ⟨(some 56), none, .mv (.t 55)⟩, 
  ⟨(some 57), some (56, false), .mv (.t 10)⟩, 
  ⟨(some 58), some (56, false), .bin .neq (.t 57) (.c (.s (.d (.int .i64 0))))⟩, 
  ⟨(some 59), none, .pick (.t 56) (.c (.s (.d (.bool true)))) (.t 58)⟩, 
  ⟨(some 60), none, .mv (.t 59)⟩, 
  ⟨(some 61), some (60, false), .call (.fn 14) []⟩, 
  ⟨(some 62), some (60, false), .un .not (.t 61)⟩, 
  ⟨(some 63), none, .pick (.t 60) (.c (.s (.d (.bool true)))) (.t 62)⟩]
def c8r8 : List Opn := [
  ⟨(some 4), none, .mv (.c (.s (.d (.bool false))))⟩]
def c8r9 : List Opn := [
  ⟨(some 64), none, .mv (.t 5)⟩, 
  ⟨(some 65), none, .fadr 4 (.t 9)⟩, 
  ⟨(some 66), none, .load false 1 (.t 65)⟩, 
  ⟨(some 67), none, .bin .sub (.t 64) (.t 66)⟩, 
  ⟨(some 11), none, .mv (.t 67)⟩]
def c8r10 : List Opn := [
  ⟨(some 68), none, .mv (.t 11)⟩, 
  ⟨(some 69), none, .bin .lss (.t 68) (.c (.s (.d (.int .i64 2))))⟩]
def c8r11 : List Opn := [
  ⟨(some 71), none, .load true 6 (.t 9)⟩, 
  ⟨(some 72), none, .bsl 1 [(.c (.s (.d (.str []))))]⟩, 
  ⟨(some 73), none, .call (.fn 18) [(.t 71), (.t 72)]⟩, 
  ⟨(some 70), none, .mv (.t 73)⟩, 
  ⟨(some 74), none, .ext (.t 70) 0⟩, 
  ⟨(some 75), none, .ext (.t 70) 1⟩, 
  ⟨(some 12), none, .new [.nils, .nils, (.d (.int .i64 0)), (.d (.int .i64 0)), (.d (.int .i64 0)), .nils]⟩, 
  ⟨none, none, .store 6 (.t 12) (.t 74)⟩, 
  ⟨(some 13), none, .mv (.t 75)⟩]
def c8r12 : List Opn := [
  ⟨(some 76), none, .mv (.t 13)⟩, 
  ⟨(some 77), none, .bin .eql (.t 76) (.c (.s (.d (.int .i64 13))))⟩, 
  ⟨(some 4), none, .mv (.t 77)⟩]
def c8r13 : List Opn := [
  ⟨(some 79), none, .load true 6 (.t 9)⟩, 
  ⟨(some 80), none, .mv (.t 8)⟩, 
  ⟨(some 81), none, .mv (.t 11)⟩, 
  ⟨(some 82), none, .bin .sub (.t 81) (.c (.s (.d (.int .i64 2))))⟩, 
  ⟨(some 83), none, .call (.t 80) [(.t 82)]⟩, 
  ⟨(some 84), none, .bsl 1 [(.t 83)]⟩, 
  ⟨(some 85), none, .call (.fn 18) [(.t 79), (.t 84)]⟩, 
  ⟨(some 78), none, .mv (.t 85)⟩, 
  ⟨(some 86), none, .ext (.t 78) 0⟩, 
  ⟨(some 87), none, .ext (.t 78) 1⟩, 
  ⟨(some 14), none, .new [.nils, .nils, (.d (.int .i64 0)), (.d (.int .i64 0)), (.d (.int .i64 0)), .nils]⟩, 
  ⟨none, none, .store 6 (.t 14) (.t 86)⟩, 
  ⟨(some 15), none, .mv (.t 87)⟩]
def c8r14 : List Opn := [
  ⟨(some 89), none, .load true 6 (.t 9)⟩, 
  ⟨(some 90), none, .mv (.t 8)⟩, 
  ⟨(some 91), none, .mv (.t 11)⟩, 
  ⟨(some 92), none, .bin .sub (.t 91) (.c (.s (.d (.int .i64 1))))⟩, 
  ⟨(some 93), none, .call (.t 90) [(.t 92)]⟩, 
  ⟨(some 94), none, .bsl 1 [(.t 93)]⟩, 
  ⟨(some 95), none, .call (.fn 18) [(.t 89), (.t 94)]⟩, 
  ⟨(some 88), none, .mv (.t 95)⟩, 
  ⟨(some 96), none, .ext (.t 88) 0⟩, 
  ⟨(some 97), none, .ext (.t 88) 1⟩, 
  ⟨(some 16), none, .new [.nils, .nils, (.d (.int .i64 0)), (.d (.int .i64 0)), (.d (.int .i64 0)), .nils]⟩, 
  ⟨none, none, .store 6 (.t 16) (.t 96)⟩, 
  ⟨(some 17), none, .mv (.t 97)⟩]
def c8r15 : List Opn := [
  ⟨(some 98), none, .mv (.t 11)⟩, 
  ⟨(some 99), none, .bin .sub (.t 98) (.c (.s (.d (.int .i64 1))))⟩, 
  ⟨(some 100), none, .bin .gtr (.t 99) (.c (.s (.d (.int .i64 4096))))⟩]
def c8r16 : List Opn := [
  ⟨(some 4), none, .mv (.c (.s (.d (.bool true))))⟩]
def c8r17 : List Opn := [
  ⟨(some 102), none, .load true 6 (.t 14)⟩, 
  ⟨(some 103), none, .mv (.t 8)⟩, 
  ⟨(some 104), none, .mv (.t 5)⟩, 
  ⟨(some 105), none, .bin .sub (.t 104) (.c (.s (.d (.int .i64 2))))⟩, 
  ⟨(some 106), none, .mm false (.t 105) (.c (.s (.d (.int .i64 4096))))⟩, 
  ⟨(some 107), none, .call (.t 103) [(.t 106)]⟩, 
  ⟨(some 108), none, .bsl 1 [(.t 107)]⟩, 
  ⟨(some 109), none, .call (.fn 22) [(.t 102), (.t 108)]⟩, 
  ⟨(some 101), none, .mv (.t 109)⟩, 
  ⟨(some 110), none, .ext (.t 101) 0⟩, 
  ⟨(some 111), none, .ext (.t 101) 1⟩, 
  ⟨(some 18), none, .new [.nils, .nils, (.d (.int .i64 0)), (.d (.int .i64 0)), (.d (.int .i64 0)), .nils]⟩, 
  ⟨none, none, .store 6 (.t 18) (.t 110)⟩, 
  ⟨(some 19), none, .mv (.t 111)⟩]
def c8r18 : List Opn := [
  ⟨(some 112), none, .mv (.t 15)⟩, 
  ⟨(some 113), none, .bin .eql (.t 112) (.c (.s (.d (.int .i64 0))))⟩, 
  ⟨(some 114), none, .mv (.t 113)⟩, 
  ⟨(some 115), some (114, true), .fadr 4 (.t 14)⟩, 
  ⟨(some 116), some (114, true), .load false 1 (.t 115)⟩, 
  ⟨(some 117), some (114, true), .mv (.t 5)⟩, 
  ⟨(some 118), some (114, true), .bin .eql (.t 116) (.t 117)⟩, 
  ⟨(some 119), none, .pick (.t 114) (.t 118) (.c (.s (.d (.bool false))))⟩, 
  ⟨(some 120), none, .mv (.t 119)⟩, 
  ⟨(some 121), some (120, true), .mv (.t 17)⟩, 
  ⟨(some 122), some (120, true), .bin .eql (.t 121) (.c (.s (.d (.int .i64 13))))⟩, 
  ⟨(some 123), none, .pick (.t 120) (.t 122) (.c (.s (.d (.bool false))))⟩, 
  ⟨(some 124), none, .mv (.t 123)⟩, 
  ⟨(some 125), some (124, true), .mv (.t 19)⟩, 
  ⟨(some 126), some (124, true), .bin .eql (.t 125) (.c (.s (.d (.int .i64 0))))⟩, 
  ⟨(some 127), none, .pick (.t 124) (.t 126) (.c (.s (.d (.bool false))))⟩, 
  ⟨(some 128), none, .mv (.t 127)⟩, 
  ⟨(some 129), some (128, true), .fadr 5 (.t 18)⟩, 
  ⟨(some 130), some (128, true), .load false 1 (.t 129)⟩, 
  ⟨(some 131), some (128, true), .len (.sl 0) (.t 130)⟩, 
  ⟨(some 132), some (128, true), .bin .eql (.t 131) (.c (.s (.d (.int .i64 1))))⟩, 
  ⟨(some 133), none, .pick (.t 128) (.t 132) (.c (.s (.d (.bool false))))⟩, 
  ⟨(some 134), none, .mv (.t 133)⟩, 
  ⟨(some 135), some (134, true), .fadr 3 (.t 18)⟩, 
  ⟨(some 136), some (134, true), .load false 1 (.t 135)⟩, 
  ⟨(some 137), some (134, true), .bin .eql (.t 136) (.c (.s (.d (.int .i64 2))))⟩, 
  ⟨(some 138), none, .pick (.t 134) (.t 137) (.c (.s (.d (.bool false))))⟩, 
  ⟨(some 4), none, .mv (.t 138)⟩]
def c8 : C := .seq (.reg c8r0 none [0, 1]) (.seq (.reg c8r1 none [0, 1]) (.seq (.reg c8r2 none [0, 1, 5]) (.seq (.reg c8r3 none [0, 1, 5]) (.seq (.reg c8r4 none [1, 5, 6, 7]) (.seq (.reg c8r5 none [1, 5, 6, 7, 8]) (.seq (.reg c8r6 (some [0, 0, 0, 4, 12, 30, 62, 127, 255, 511, 511, 0, 3071, 8191]) [5, 7, 8, 9, 10]) (.seq (.seq (.reg c8r7 none [5, 8, 9, 63]) (.cond (.t 63) (.seq (.reg c8r8 none [4]) (.ret)) (.skip))) (.seq (.reg c8r9 none [5, 8, 9, 11]) (.seq (.seq (.reg c8r10 none [5, 8, 9, 11, 69]) (.cond (.t 69) (.seq (.reg c8r11 none [13]) (.seq (.reg c8r12 none [4]) (.ret))) (.skip))) (.seq (.reg c8r13 (some [0, 0, 0, 4, 14, 30, 63, 127, 255, 255, 0, 1535, 4095]) [5, 8, 9, 11, 14, 15]) (.seq (.reg c8r14 (some [0, 0, 0, 4, 14, 30, 63, 127, 255, 255, 0, 1535, 4095]) [5, 8, 11, 14, 15, 17]) (.seq (.seq (.reg c8r15 none [5, 8, 14, 15, 17, 100]) (.cond (.t 100) (.seq (.reg c8r16 none [4]) (.ret)) (.skip))) (.seq (.reg c8r17 (some [0, 0, 0, 4, 12, 30, 62, 127, 255, 511, 511, 0, 3071, 8191]) [5, 14, 15, 17, 18, 19]) (.seq (.reg c8r18 none [4]) (.ret)))))))))))))))
def k8 : List (Nat × List Nat) := [(18, [4]), (17, [5, 14, 15, 17, 18, 19]), (16, [4]), (15, [5, 8, 14, 15, 17, 100]), (14, [5, 8, 11, 14, 15, 17]), (13, [5, 8, 9, 11, 14, 15]), (12, [4]), (11, [13]), (10, [5, 8, 9, 11, 69]), (9, [5, 8, 9, 11]), (8, [4]), (7, [5, 8, 9, 63]), (6, [5, 7, 8, 9, 10]), (5, [1, 5, 6, 7, 8]), (4, [1, 5, 6, 7]), (3, [0, 1, 5]), (2, [0, 1, 5]), (1, [0, 1]), (0, [0, 1])]
theorem cc8 : (Try.f8.body).bind (cC Try.prog 139 k8) = some c8 := by kernel_rfl
def rv8 : List RV := [.t 4]
theorem cr8 : cRVs Try.prog Try.f8.results.toList = some rv8 := by kernel_rfl
theorem f_law10_LedgerFills_ok (sectors : Int) (somev : Int) (y_ : Bool) (h : f_law10_LedgerFills sectors somev = some y_) : Fun Try.prog glP 8 [.b (.s (.d (.int .i64 sectors))), .b (.s (.d (.int .i64 somev)))] (.b (.s (.d (.bool y_)))) := by
  refine fun_walk [] Try.func8 Try.ntmps8 cc8 cr8 (by kernel_rfl) (by simp only [List.length_cons, List.length_nil]; decide) ?_
  generalize hR : Ret _ _ _ _ _ = R_
  simp only [wz, wd, ws, Nat.reduceAdd, Nat.reduceSub, Nat.reduceMul, Nat.reduceLeDiff, Nat.reduceEqDiff, Nat.reduceLT, Nat.reduceBEq, reduceIte, reduceCtorEq, Int.reduceToNat, Nat.reduceShiftRight, Nat.reduceAnd, Nat.reduceBneDiff, Nat.reduceBNe, e_api_Ledger, e_api_Disk, e_api_Write]
  unfold f_law10_LedgerFills at h; unfold c8
  refine .seq ?_
  refine Rw.walk ?_
  simp only [wz, wd, ws, Nat.reduceAdd, Nat.reduceSub, Nat.reduceMul, Nat.reduceLeDiff, Nat.reduceEqDiff, Nat.reduceLT, Nat.reduceBEq, reduceIte, reduceCtorEq, Int.reduceToNat, Nat.reduceShiftRight, Nat.reduceAnd, Nat.reduceBneDiff, Nat.reduceBNe, c8r0, semI.eq_10, semI.eq_11, semI.eq_3, semI.eq_5, semI.eq_7, e_api_Ledger, e_api_Disk, e_api_Write]
  refine .seq ?_
  refine Rw.walk ?_
  simp only [wz, wd, ws, Nat.reduceAdd, Nat.reduceSub, Nat.reduceMul, Nat.reduceLeDiff, Nat.reduceEqDiff, Nat.reduceLT, Nat.reduceBEq, reduceIte, reduceCtorEq, Int.reduceToNat, Nat.reduceShiftRight, Nat.reduceAnd, Nat.reduceBneDiff, Nat.reduceBNe, c8r1, semI.eq_10, semI.eq_11, semI.eq_3, semI.eq_5, semI.eq_7, e_api_Ledger, e_api_Disk, e_api_Write]
  obtain ⟨sectors2, e1, h⟩ := Option.bind_eq_some_iff.1 h
  replace e1 := Option.some.inj e1
  first | simp only [e1] | (simp only [wz, wd, ws, Nat.reduceAdd, Nat.reduceSub, Nat.reduceMul, Nat.reduceLeDiff, Nat.reduceEqDiff, Nat.reduceLT, Nat.reduceBEq, reduceIte, reduceCtorEq, Int.reduceToNat, Nat.reduceShiftRight, Nat.reduceAnd, Nat.reduceBneDiff, Nat.reduceBNe, e_api_Ledger, e_api_Disk, e_api_Write] at e1; simp only [e1])
  refine .seq ?_
  refine Rw.walk ?_
  simp only [wz, wd, ws, Nat.reduceAdd, Nat.reduceSub, Nat.reduceMul, Nat.reduceLeDiff, Nat.reduceEqDiff, Nat.reduceLT, Nat.reduceBEq, reduceIte, reduceCtorEq, Int.reduceToNat, Nat.reduceShiftRight, Nat.reduceAnd, Nat.reduceBneDiff, Nat.reduceBNe, c8r2, semI.eq_10, semI.eq_11, semI.eq_3, semI.eq_5, semI.eq_7, e_api_Ledger, e_api_Disk, e_api_Write]
  repeat (refine And.intro ?_ ?_; · first | omega | (simp only [List.length_append, List.length_cons, List.length_nil] at *; omega) | (intro q; simp only [wz, wd, ws, Nat.reduceAdd, Nat.reduceSub, Nat.reduceMul, Nat.reduceLeDiff, Nat.reduceEqDiff, Nat.reduceLT, Nat.reduceBEq, reduceIte, reduceCtorEq, Int.reduceToNat, Nat.reduceShiftRight, Nat.reduceAnd, Nat.reduceBneDiff, Nat.reduceBNe, q]; done))
  refine .seq ?_
  refine Rw.walk ?_
  obtain ⟨g2, h⟩ := gd_iff.1 h
  obtain ⟨g3, h⟩ := gd_iff.1 h
  simp only [wz, wd, ws, Nat.reduceAdd, Nat.reduceSub, Nat.reduceMul, Nat.reduceLeDiff, Nat.reduceEqDiff, Nat.reduceLT, Nat.reduceBEq, reduceIte, reduceCtorEq, Int.reduceToNat, Nat.reduceShiftRight, Nat.reduceAnd, Nat.reduceBneDiff, Nat.reduceBNe, c8r3, semI.eq_10, semI.eq_11, semI.eq_3, semI.eq_5, semI.eq_7, e_api_Ledger, e_api_Disk, e_api_Write]
  repeat (refine And.intro ?_ ?_; · first | omega | (simp only [List.length_append, List.length_cons, List.length_nil] at *; omega) | (intro q; simp only [wz, wd, ws, Nat.reduceAdd, Nat.reduceSub, Nat.reduceMul, Nat.reduceLeDiff, Nat.reduceEqDiff, Nat.reduceLT, Nat.reduceBEq, reduceIte, reduceCtorEq, Int.reduceToNat, Nat.reduceShiftRight, Nat.reduceAnd, Nat.reduceBneDiff, Nat.reduceBNe, q]; done))
  obtain ⟨somev2, e4, h⟩ := Option.bind_eq_some_iff.1 h
  replace e4 := Option.some.inj e4
  first | simp only [e4] | (simp only [wz, wd, ws, Nat.reduceAdd, Nat.reduceSub, Nat.reduceMul, Nat.reduceLeDiff, Nat.reduceEqDiff, Nat.reduceLT, Nat.reduceBEq, reduceIte, reduceCtorEq, Int.reduceToNat, Nat.reduceShiftRight, Nat.reduceAnd, Nat.reduceBneDiff, Nat.reduceBNe, e_api_Ledger, e_api_Disk, e_api_Write] at e4; simp only [e4])
  refine .seq ?_
  refine Rw.walk ?_
  simp only [wz, wd, ws, Nat.reduceAdd, Nat.reduceSub, Nat.reduceMul, Nat.reduceLeDiff, Nat.reduceEqDiff, Nat.reduceLT, Nat.reduceBEq, reduceIte, reduceCtorEq, Int.reduceToNat, Nat.reduceShiftRight, Nat.reduceAnd, Nat.reduceBneDiff, Nat.reduceBNe, c8r4, semI.eq_10, semI.eq_11, semI.eq_3, semI.eq_5, semI.eq_7, e_api_Ledger, e_api_Disk, e_api_Write]
  obtain ⟨t, e5, h⟩ := Option.bind_eq_some_iff.1 h
  refine call_fun [] true ⟨trivial, trivial, trivial⟩ rfl ?_ (f_ledger_Format_ok _ _ e5) (fun h => by cases h) (fun i hi => by cases hi) ?_
  · simp only [wz, wd, ws, Nat.reduceAdd, Nat.reduceSub, Nat.reduceMul, Nat.reduceLeDiff, Nat.reduceEqDiff, Nat.reduceLT, Nat.reduceBEq, reduceIte, reduceCtorEq, Int.reduceToNat, Nat.reduceShiftRight, Nat.reduceAnd, Nat.reduceBneDiff, Nat.reduceBNe, e_api_Ledger, e_api_Disk, e_api_Write]
  simp only [wz, wd, ws, Nat.reduceAdd, Nat.reduceSub, Nat.reduceMul, Nat.reduceLeDiff, Nat.reduceEqDiff, Nat.reduceLT, Nat.reduceBEq, reduceIte, reduceCtorEq, Int.reduceToNat, Nat.reduceShiftRight, Nat.reduceAnd, Nat.reduceBneDiff, Nat.reduceBNe, c8r4, semI.eq_10, semI.eq_11, semI.eq_3, semI.eq_5, semI.eq_7, e_api_Ledger, e_api_Disk, e_api_Write]
  refine .seq ?_
  refine Rw.walk ?_
  simp only [wz, wd, ws, Nat.reduceAdd, Nat.reduceSub, Nat.reduceMul, Nat.reduceLeDiff, Nat.reduceEqDiff, Nat.reduceLT, Nat.reduceBEq, reduceIte, reduceCtorEq, Int.reduceToNat, Nat.reduceShiftRight, Nat.reduceAnd, Nat.reduceBneDiff, Nat.reduceBNe, c8r5, semI.eq_10, semI.eq_11, semI.eq_3, semI.eq_5, semI.eq_7, e_api_Ledger, e_api_Disk, e_api_Write]
  refine .seq ?_
  refine RwD.walk ?_
  simp only [wz, wd, ws, Nat.reduceAdd, Nat.reduceSub, Nat.reduceMul, Nat.reduceLeDiff, Nat.reduceEqDiff, Nat.reduceLT, Nat.reduceBEq, reduceIte, reduceCtorEq, Int.reduceToNat, Nat.reduceShiftRight, Nat.reduceAnd, Nat.reduceBneDiff, Nat.reduceBNe, c8r6, semI.eq_10, semI.eq_11, semI.eq_3, semI.eq_5, semI.eq_7, e_api_Ledger, e_api_Disk, e_api_Write]
  obtain ⟨t2, e6, h⟩ := Option.bind_eq_some_iff.1 h
  refine call_fun [] false ⟨trivial, trivial, trivial⟩ rfl ?_ (f_law10_LedgerFills_1_ok _ _ e6) (fun _ => rfl) (fun i hi => by cases hi) ?_
  · simp only [wz, wd, ws, Nat.reduceAdd, Nat.reduceSub, Nat.reduceMul, Nat.reduceLeDiff, Nat.reduceEqDiff, Nat.reduceLT, Nat.reduceBEq, reduceIte, reduceCtorEq, Int.reduceToNat, Nat.reduceShiftRight, Nat.reduceAnd, Nat.reduceBneDiff, Nat.reduceBNe, e_api_Ledger, e_api_Disk, e_api_Write]
  simp only [wz, wd, ws, Nat.reduceAdd, Nat.reduceSub, Nat.reduceMul, Nat.reduceLeDiff, Nat.reduceEqDiff, Nat.reduceLT, Nat.reduceBEq, reduceIte, reduceCtorEq, Int.reduceToNat, Nat.reduceShiftRight, Nat.reduceAnd, Nat.reduceBneDiff, Nat.reduceBNe, c8r6, semI.eq_10, semI.eq_11, semI.eq_3, semI.eq_5, semI.eq_7, e_api_Ledger, e_api_Disk, e_api_Write]
  refine GoD1.of (sem_bsl (enc := eS) (m := ([t2] : List Str)) eS_len (by rfl) (by rfl) (by rfl) ⟨trivial, trivial⟩) ?_
  simp only [wz, wd, ws, Nat.reduceAdd, Nat.reduceSub, Nat.reduceMul, Nat.reduceLeDiff, Nat.reduceEqDiff, Nat.reduceLT, Nat.reduceBEq, reduceIte, reduceCtorEq, Int.reduceToNat, Nat.reduceShiftRight, Nat.reduceAnd, Nat.reduceBneDiff, Nat.reduceBNe, c8r6, semI.eq_10, semI.eq_11, semI.eq_3, semI.eq_5, semI.eq_7, e_api_Ledger, e_api_Disk, e_api_Write]
  obtain ⟨t3, e7, h⟩ := Option.bind_eq_some_iff.1 h
  refine call_fun [50] true ⟨trivial, trivial, trivial, trivial⟩ rfl ?_ (f_ledger_Add_ok _ _ _ e7) (fun h => by cases h) (fun i hi e he => coF_get (l := [50]) (by simp only [wz, wd, ws, Nat.reduceAdd, Nat.reduceSub, Nat.reduceMul, Nat.reduceLeDiff, Nat.reduceEqDiff, Nat.reduceLT, Nat.reduceBEq, reduceIte, reduceCtorEq, Int.reduceToNat, Nat.reduceShiftRight, Nat.reduceAnd, Nat.reduceBneDiff, Nat.reduceBNe, wi, e_api_Ledger, e_api_Disk, e_api_Write]) i e hi he) ?_
  · simp only [wz, wd, ws, Nat.reduceAdd, Nat.reduceSub, Nat.reduceMul, Nat.reduceLeDiff, Nat.reduceEqDiff, Nat.reduceLT, Nat.reduceBEq, reduceIte, reduceCtorEq, Int.reduceToNat, Nat.reduceShiftRight, Nat.reduceAnd, Nat.reduceBneDiff, Nat.reduceBNe, e_api_Ledger, e_api_Disk, e_api_Write, frz.eq_1, er_back]
  simp only [wz, wd, ws, Nat.reduceAdd, Nat.reduceSub, Nat.reduceMul, Nat.reduceLeDiff, Nat.reduceEqDiff, Nat.reduceLT, Nat.reduceBEq, reduceIte, reduceCtorEq, Int.reduceToNat, Nat.reduceShiftRight, Nat.reduceAnd, Nat.reduceBneDiff, Nat.reduceBNe, c8r6, semI.eq_10, semI.eq_11, semI.eq_3, semI.eq_5, semI.eq_7, e_api_Ledger, e_api_Disk, e_api_Write, frz.eq_1, er_back]
  refine .seq ?_
  refine .seq ?_
  refine Rw.walk ?_
  simp only [wz, wd, ws, Nat.reduceAdd, Nat.reduceSub, Nat.reduceMul, Nat.reduceLeDiff, Nat.reduceEqDiff, Nat.reduceLT, Nat.reduceBEq, reduceIte, reduceCtorEq, Int.reduceToNat, Nat.reduceShiftRight, Nat.reduceAnd, Nat.reduceBneDiff, Nat.reduceBNe, c8r7, semI.eq_10, semI.eq_11, semI.eq_3, semI.eq_5, semI.eq_7, e_api_Ledger, e_api_Disk, e_api_Write, frz.eq_1, er_back]
  repeat (refine And.intro ?_ ?_; · first | omega | (simp only [List.length_append, List.length_cons, List.length_nil] at *; omega) | (intro q; simp only [wz, wd, ws, Nat.reduceAdd, Nat.reduceSub, Nat.reduceMul, Nat.reduceLeDiff, Nat.reduceEqDiff, Nat.reduceLT, Nat.reduceBEq, reduceIte, reduceCtorEq, Int.reduceToNat, Nat.reduceShiftRight, Nat.reduceAnd, Nat.reduceBneDiff, Nat.reduceBNe, q]; done))
  obtain ⟨t4, e8, h⟩ := Option.bind_eq_some_iff.1 h
  refine call_funG [] rfl (by simp only [wz, wd, ws, Nat.reduceAdd, Nat.reduceSub, Nat.reduceMul, Nat.reduceLeDiff, Nat.reduceEqDiff, Nat.reduceLT, Nat.reduceBEq, reduceIte, reduceCtorEq, Int.reduceToNat, Nat.reduceShiftRight, Nat.reduceAnd, Nat.reduceBneDiff, Nat.reduceBNe]) rfl ?_ (fun q => (f_law10_alive_ok _ (gx_iff e8 (by simpa using q)))) rfl (fun i hi => by cases hi) ?_
  · simp only [wz, wd, ws, Nat.reduceAdd, Nat.reduceSub, Nat.reduceMul, Nat.reduceLeDiff, Nat.reduceEqDiff, Nat.reduceLT, Nat.reduceBEq, reduceIte, reduceCtorEq, Int.reduceToNat, Nat.reduceShiftRight, Nat.reduceAnd, Nat.reduceBneDiff, Nat.reduceBNe, e_api_Ledger, e_api_Disk, e_api_Write, frz.eq_1, er_back]
  simp only [wz, wd, ws, Nat.reduceAdd, Nat.reduceSub, Nat.reduceMul, Nat.reduceLeDiff, Nat.reduceEqDiff, Nat.reduceLT, Nat.reduceBEq, reduceIte, reduceCtorEq, Int.reduceToNat, Nat.reduceShiftRight, Nat.reduceAnd, Nat.reduceBneDiff, Nat.reduceBNe, c8r7, semI.eq_10, semI.eq_11, semI.eq_3, semI.eq_5, semI.eq_7, e_api_Ledger, e_api_Disk, e_api_Write, frz.eq_1, er_back]
  repeat (refine And.intro ?_ ?_; · first | omega | (simp only [List.length_append, List.length_cons, List.length_nil] at *; omega) | (intro q; simp only [wz, wd, ws, Nat.reduceAdd, Nat.reduceSub, Nat.reduceMul, Nat.reduceLeDiff, Nat.reduceEqDiff, Nat.reduceLT, Nat.reduceBEq, reduceIte, reduceCtorEq, Int.reduceToNat, Nat.reduceShiftRight, Nat.reduceAnd, Nat.reduceBneDiff, Nat.reduceBNe, q]; done))
  refine .cond (p := (((t.2 != 0) || (t3.2 != 0)) || (!t4))) (by first | rfl | simp only [wz, wd, ws, Nat.reduceAdd, Nat.reduceSub, Nat.reduceMul, Nat.reduceLeDiff, Nat.reduceEqDiff, Nat.reduceLT, Nat.reduceBEq, reduceIte, reduceCtorEq, Int.reduceToNat, Nat.reduceShiftRight, Nat.reduceAnd, Nat.reduceBneDiff, Nat.reduceBNe]) (fun h1 => ?_) (fun h1 => ?_)
  · rw [ite_t h1] at h
    refine .seq ?_
    refine Rw.walk ?_
    simp only [wz, wd, ws, Nat.reduceAdd, Nat.reduceSub, Nat.reduceMul, Nat.reduceLeDiff, Nat.reduceEqDiff, Nat.reduceLT, Nat.reduceBEq, reduceIte, reduceCtorEq, Int.reduceToNat, Nat.reduceShiftRight, Nat.reduceAnd, Nat.reduceBneDiff, Nat.reduceBNe, c8r8, semI.eq_10, semI.eq_11, semI.eq_3, semI.eq_5, semI.eq_7, e_api_Ledger, e_api_Disk, e_api_Write, frz.eq_1, er_back]
    obtain rfl := Option.some.inj h
    refine .ret ?_
    rw [← hR]
    simp only [wz, wd, ws, Nat.reduceAdd, Nat.reduceSub, Nat.reduceMul, Nat.reduceLeDiff, Nat.reduceEqDiff, Nat.reduceLT, Nat.reduceBEq, reduceIte, reduceCtorEq, Int.reduceToNat, Nat.reduceShiftRight, Nat.reduceAnd, Nat.reduceBneDiff, Nat.reduceBNe, rv8, e_api_Ledger, e_api_Disk, e_api_Write, frz.eq_1, er_back]
  · rw [ite_f h1] at h
    refine .skip ?_
    refine .seq ?_
    refine Rw.walk ?_
    simp only [wz, wd, ws, Nat.reduceAdd, Nat.reduceSub, Nat.reduceMul, Nat.reduceLeDiff, Nat.reduceEqDiff, Nat.reduceLT, Nat.reduceBEq, reduceIte, reduceCtorEq, Int.reduceToNat, Nat.reduceShiftRight, Nat.reduceAnd, Nat.reduceBneDiff, Nat.reduceBNe, c8r9, semI.eq_10, semI.eq_11, semI.eq_3, semI.eq_5, semI.eq_7, e_api_Ledger, e_api_Disk, e_api_Write, frz.eq_1, er_back]
    obtain ⟨left, e9, h⟩ := Option.bind_eq_some_iff.1 h
    replace e9 := Option.some.inj e9
    first | simp only [e9] | (simp only [wz, wd, ws, Nat.reduceAdd, Nat.reduceSub, Nat.reduceMul, Nat.reduceLeDiff, Nat.reduceEqDiff, Nat.reduceLT, Nat.reduceBEq, reduceIte, reduceCtorEq, Int.reduceToNat, Nat.reduceShiftRight, Nat.reduceAnd, Nat.reduceBneDiff, Nat.reduceBNe, e_api_Ledger, e_api_Disk, e_api_Write] at e9; simp only [e9])
    refine .seq ?_
    refine .seq ?_
    refine Rw.walk ?_
    simp only [wz, wd, ws, Nat.reduceAdd, Nat.reduceSub, Nat.reduceMul, Nat.reduceLeDiff, Nat.reduceEqDiff, Nat.reduceLT, Nat.reduceBEq, reduceIte, reduceCtorEq, Int.reduceToNat, Nat.reduceShiftRight, Nat.reduceAnd, Nat.reduceBneDiff, Nat.reduceBNe, c8r10, semI.eq_10, semI.eq_11, semI.eq_3, semI.eq_5, semI.eq_7, e_api_Ledger, e_api_Disk, e_api_Write, frz.eq_1, er_back]
    refine .cond (p := (decide (left < 2))) (by first | rfl | simp only [wz, wd, ws, Nat.reduceAdd, Nat.reduceSub, Nat.reduceMul, Nat.reduceLeDiff, Nat.reduceEqDiff, Nat.reduceLT, Nat.reduceBEq, reduceIte, reduceCtorEq, Int.reduceToNat, Nat.reduceShiftRight, Nat.reduceAnd, Nat.reduceBneDiff, Nat.reduceBNe]) (fun h1 => ?_) (fun h1 => ?_)
    · rw [ite_t h1] at h
      refine .seq ?_
      refine Rw.walk ?_
      simp only [wz, wd, ws, Nat.reduceAdd, Nat.reduceSub, Nat.reduceMul, Nat.reduceLeDiff, Nat.reduceEqDiff, Nat.reduceLT, Nat.reduceBEq, reduceIte, reduceCtorEq, Int.reduceToNat, Nat.reduceShiftRight, Nat.reduceAnd, Nat.reduceBneDiff, Nat.reduceBNe, c8r11, semI.eq_10, semI.eq_11, semI.eq_3, semI.eq_5, semI.eq_7, e_api_Ledger, e_api_Disk, e_api_Write, frz.eq_1, er_back]
      refine Go1.of (sem_bsl (enc := eS) (m := ([([] : Str)] : List Str)) eS_len (by rfl) (by rfl) (by rfl) ⟨trivial, trivial⟩) ?_
      simp only [wz, wd, ws, Nat.reduceAdd, Nat.reduceSub, Nat.reduceMul, Nat.reduceLeDiff, Nat.reduceEqDiff, Nat.reduceLT, Nat.reduceBEq, reduceIte, reduceCtorEq, Int.reduceToNat, Nat.reduceShiftRight, Nat.reduceAnd, Nat.reduceBneDiff, Nat.reduceBNe, c8r11, semI.eq_10, semI.eq_11, semI.eq_3, semI.eq_5, semI.eq_7, e_api_Ledger, e_api_Disk, e_api_Write, frz.eq_1, er_back]
      obtain ⟨t5, e10, h⟩ := Option.bind_eq_some_iff.1 h
      refine call_fun [72] true ⟨trivial, trivial, trivial, trivial⟩ rfl ?_ (f_ledger_Add_ok _ _ _ e10) (fun h => by cases h) (fun i hi e he => coF_get (l := [72]) (by simp only [wz, wd, ws, Nat.reduceAdd, Nat.reduceSub, Nat.reduceMul, Nat.reduceLeDiff, Nat.reduceEqDiff, Nat.reduceLT, Nat.reduceBEq, reduceIte, reduceCtorEq, Int.reduceToNat, Nat.reduceShiftRight, Nat.reduceAnd, Nat.reduceBneDiff, Nat.reduceBNe, wi, e_api_Ledger, e_api_Disk, e_api_Write]) i e hi he) ?_
      · simp only [wz, wd, ws, Nat.reduceAdd, Nat.reduceSub, Nat.reduceMul, Nat.reduceLeDiff, Nat.reduceEqDiff, Nat.reduceLT, Nat.reduceBEq, reduceIte, reduceCtorEq, Int.reduceToNat, Nat.reduceShiftRight, Nat.reduceAnd, Nat.reduceBneDiff, Nat.reduceBNe, e_api_Ledger, e_api_Disk, e_api_Write, frz.eq_1, er_back]
      simp only [wz, wd, ws, Nat.reduceAdd, Nat.reduceSub, Nat.reduceMul, Nat.reduceLeDiff, Nat.reduceEqDiff, Nat.reduceLT, Nat.reduceBEq, reduceIte, reduceCtorEq, Int.reduceToNat, Nat.reduceShiftRight, Nat.reduceAnd, Nat.reduceBneDiff, Nat.reduceBNe, c8r11, semI.eq_10, semI.eq_11, semI.eq_3, semI.eq_5, semI.eq_7, e_api_Ledger, e_api_Disk, e_api_Write, frz.eq_1, er_back]
      refine .seq ?_
      refine Rw.walk ?_
      simp only [wz, wd, ws, Nat.reduceAdd, Nat.reduceSub, Nat.reduceMul, Nat.reduceLeDiff, Nat.reduceEqDiff, Nat.reduceLT, Nat.reduceBEq, reduceIte, reduceCtorEq, Int.reduceToNat, Nat.reduceShiftRight, Nat.reduceAnd, Nat.reduceBneDiff, Nat.reduceBNe, c8r12, semI.eq_10, semI.eq_11, semI.eq_3, semI.eq_5, semI.eq_7, e_api_Ledger, e_api_Disk, e_api_Write, frz.eq_1, er_back]
      obtain rfl := Option.some.inj h
      refine .ret ?_
      rw [← hR]
      simp only [wz, wd, ws, Nat.reduceAdd, Nat.reduceSub, Nat.reduceMul, Nat.reduceLeDiff, Nat.reduceEqDiff, Nat.reduceLT, Nat.reduceBEq, reduceIte, reduceCtorEq, Int.reduceToNat, Nat.reduceShiftRight, Nat.reduceAnd, Nat.reduceBneDiff, Nat.reduceBNe, rv8, e_api_Ledger, e_api_Disk, e_api_Write, frz.eq_1, er_back]
    · rw [ite_f h1] at h
      refine .skip ?_
      refine .seq ?_
      refine RwD.walk ?_
      simp only [wz, wd, ws, Nat.reduceAdd, Nat.reduceSub, Nat.reduceMul, Nat.reduceLeDiff, Nat.reduceEqDiff, Nat.reduceLT, Nat.reduceBEq, reduceIte, reduceCtorEq, Int.reduceToNat, Nat.reduceShiftRight, Nat.reduceAnd, Nat.reduceBneDiff, Nat.reduceBNe, c8r13, semI.eq_10, semI.eq_11, semI.eq_3, semI.eq_5, semI.eq_7, e_api_Ledger, e_api_Disk, e_api_Write, frz.eq_1, er_back]
      obtain ⟨t5, e11, h⟩ := Option.bind_eq_some_iff.1 h
      refine call_fun [] false ⟨trivial, trivial, trivial⟩ rfl ?_ (f_law10_LedgerFills_1_ok _ _ e11) (fun _ => rfl) (fun i hi => by cases hi) ?_
      · simp only [wz, wd, ws, Nat.reduceAdd, Nat.reduceSub, Nat.reduceMul, Nat.reduceLeDiff, Nat.reduceEqDiff, Nat.reduceLT, Nat.reduceBEq, reduceIte, reduceCtorEq, Int.reduceToNat, Nat.reduceShiftRight, Nat.reduceAnd, Nat.reduceBneDiff, Nat.reduceBNe, e_api_Ledger, e_api_Disk, e_api_Write, frz.eq_1, er_back]
      simp only [wz, wd, ws, Nat.reduceAdd, Nat.reduceSub, Nat.reduceMul, Nat.reduceLeDiff, Nat.reduceEqDiff, Nat.reduceLT, Nat.reduceBEq, reduceIte, reduceCtorEq, Int.reduceToNat, Nat.reduceShiftRight, Nat.reduceAnd, Nat.reduceBneDiff, Nat.reduceBNe, c8r13, semI.eq_10, semI.eq_11, semI.eq_3, semI.eq_5, semI.eq_7, e_api_Ledger, e_api_Disk, e_api_Write, frz.eq_1, er_back]
      refine GoD1.of (sem_bsl (enc := eS) (m := ([t5] : List Str)) eS_len (by rfl) (by rfl) (by rfl) ⟨trivial, trivial⟩) ?_
      simp only [wz, wd, ws, Nat.reduceAdd, Nat.reduceSub, Nat.reduceMul, Nat.reduceLeDiff, Nat.reduceEqDiff, Nat.reduceLT, Nat.reduceBEq, reduceIte, reduceCtorEq, Int.reduceToNat, Nat.reduceShiftRight, Nat.reduceAnd, Nat.reduceBneDiff, Nat.reduceBNe, c8r13, semI.eq_10, semI.eq_11, semI.eq_3, semI.eq_5, semI.eq_7, e_api_Ledger, e_api_Disk, e_api_Write, frz.eq_1, er_back]
      obtain ⟨t6, e12, h⟩ := Option.bind_eq_some_iff.1 h
      refine call_fun [84] true ⟨trivial, trivial, trivial, trivial⟩ rfl ?_ (f_ledger_Add_ok _ _ _ e12) (fun h => by cases h) (fun i hi e he => coF_get (l := [84]) (by simp only [wz, wd, ws, Nat.reduceAdd, Nat.reduceSub, Nat.reduceMul, Nat.reduceLeDiff, Nat.reduceEqDiff, Nat.reduceLT, Nat.reduceBEq, reduceIte, reduceCtorEq, Int.reduceToNat, Nat.reduceShiftRight, Nat.reduceAnd, Nat.reduceBneDiff, Nat.reduceBNe, wi, e_api_Ledger, e_api_Disk, e_api_Write]) i e hi he) ?_
      · simp only [wz, wd, ws, Nat.reduceAdd, Nat.reduceSub, Nat.reduceMul, Nat.reduceLeDiff, Nat.reduceEqDiff, Nat.reduceLT, Nat.reduceBEq, reduceIte, reduceCtorEq, Int.reduceToNat, Nat.reduceShiftRight, Nat.reduceAnd, Nat.reduceBneDiff, Nat.reduceBNe, e_api_Ledger, e_api_Disk, e_api_Write, frz.eq_1, er_back]
      simp only [wz, wd, ws, Nat.reduceAdd, Nat.reduceSub, Nat.reduceMul, Nat.reduceLeDiff, Nat.reduceEqDiff, Nat.reduceLT, Nat.reduceBEq, reduceIte, reduceCtorEq, Int.reduceToNat, Nat.reduceShiftRight, Nat.reduceAnd, Nat.reduceBneDiff, Nat.reduceBNe, c8r13, semI.eq_10, semI.eq_11, semI.eq_3, semI.eq_5, semI.eq_7, e_api_Ledger, e_api_Disk, e_api_Write, frz.eq_1, er_back]
      refine .seq ?_
      refine RwD.walk ?_
      simp only [wz, wd, ws, Nat.reduceAdd, Nat.reduceSub, Nat.reduceMul, Nat.reduceLeDiff, Nat.reduceEqDiff, Nat.reduceLT, Nat.reduceBEq, reduceIte, reduceCtorEq, Int.reduceToNat, Nat.reduceShiftRight, Nat.reduceAnd, Nat.reduceBneDiff, Nat.reduceBNe, c8r14, semI.eq_10, semI.eq_11, semI.eq_3, semI.eq_5, semI.eq_7, e_api_Ledger, e_api_Disk, e_api_Write, frz.eq_1, er_back]
      obtain ⟨t7, e13, h⟩ := Option.bind_eq_some_iff.1 h
      refine call_fun [] false ⟨trivial, trivial, trivial⟩ rfl ?_ (f_law10_LedgerFills_1_ok _ _ e13) (fun _ => rfl) (fun i hi => by cases hi) ?_
      · simp only [wz, wd, ws, Nat.reduceAdd, Nat.reduceSub, Nat.reduceMul, Nat.reduceLeDiff, Nat.reduceEqDiff, Nat.reduceLT, Nat.reduceBEq, reduceIte, reduceCtorEq, Int.reduceToNat, Nat.reduceShiftRight, Nat.reduceAnd, Nat.reduceBneDiff, Nat.reduceBNe, e_api_Ledger, e_api_Disk, e_api_Write, frz.eq_1, er_back]
      simp only [wz, wd, ws, Nat.reduceAdd, Nat.reduceSub, Nat.reduceMul, Nat.reduceLeDiff, Nat.reduceEqDiff, Nat.reduceLT, Nat.reduceBEq, reduceIte, reduceCtorEq, Int.reduceToNat, Nat.reduceShiftRight, Nat.reduceAnd, Nat.reduceBneDiff, Nat.reduceBNe, c8r14, semI.eq_10, semI.eq_11, semI.eq_3, semI.eq_5, semI.eq_7, e_api_Ledger, e_api_Disk, e_api_Write, frz.eq_1, er_back]
      refine GoD1.of (sem_bsl (enc := eS) (m := ([t7] : List Str)) eS_len (by rfl) (by rfl) (by rfl) ⟨trivial, trivial⟩) ?_
      simp only [wz, wd, ws, Nat.reduceAdd, Nat.reduceSub, Nat.reduceMul, Nat.reduceLeDiff, Nat.reduceEqDiff, Nat.reduceLT, Nat.reduceBEq, reduceIte, reduceCtorEq, Int.reduceToNat, Nat.reduceShiftRight, Nat.reduceAnd, Nat.reduceBneDiff, Nat.reduceBNe, c8r14, semI.eq_10, semI.eq_11, semI.eq_3, semI.eq_5, semI.eq_7, e_api_Ledger, e_api_Disk, e_api_Write, frz.eq_1, er_back]
      obtain ⟨t8, e14, h⟩ := Option.bind_eq_some_iff.1 h
      refine call_fun [94] true ⟨trivial, trivial, trivial, trivial⟩ rfl ?_ (f_ledger_Add_ok _ _ _ e14) (fun h => by cases h) (fun i hi e he => coF_get (l := [94]) (by simp only [wz, wd, ws, Nat.reduceAdd, Nat.reduceSub, Nat.reduceMul, Nat.reduceLeDiff, Nat.reduceEqDiff, Nat.reduceLT, Nat.reduceBEq, reduceIte, reduceCtorEq, Int.reduceToNat, Nat.reduceShiftRight, Nat.reduceAnd, Nat.reduceBneDiff, Nat.reduceBNe, wi, e_api_Ledger, e_api_Disk, e_api_Write]) i e hi he) ?_
      · simp only [wz, wd, ws, Nat.reduceAdd, Nat.reduceSub, Nat.reduceMul, Nat.reduceLeDiff, Nat.reduceEqDiff, Nat.reduceLT, Nat.reduceBEq, reduceIte, reduceCtorEq, Int.reduceToNat, Nat.reduceShiftRight, Nat.reduceAnd, Nat.reduceBneDiff, Nat.reduceBNe, e_api_Ledger, e_api_Disk, e_api_Write, frz.eq_1, er_back]
      simp only [wz, wd, ws, Nat.reduceAdd, Nat.reduceSub, Nat.reduceMul, Nat.reduceLeDiff, Nat.reduceEqDiff, Nat.reduceLT, Nat.reduceBEq, reduceIte, reduceCtorEq, Int.reduceToNat, Nat.reduceShiftRight, Nat.reduceAnd, Nat.reduceBneDiff, Nat.reduceBNe, c8r14, semI.eq_10, semI.eq_11, semI.eq_3, semI.eq_5, semI.eq_7, e_api_Ledger, e_api_Disk, e_api_Write, frz.eq_1, er_back]
      refine .seq ?_
      refine .seq ?_
      refine Rw.walk ?_
      simp only [wz, wd, ws, Nat.reduceAdd, Nat.reduceSub, Nat.reduceMul, Nat.reduceLeDiff, Nat.reduceEqDiff, Nat.reduceLT, Nat.reduceBEq, reduceIte, reduceCtorEq, Int.reduceToNat, Nat.reduceShiftRight, Nat.reduceAnd, Nat.reduceBneDiff, Nat.reduceBNe, c8r15, semI.eq_10, semI.eq_11, semI.eq_3, semI.eq_5, semI.eq_7, e_api_Ledger, e_api_Disk, e_api_Write, frz.eq_1, er_back]
      refine .cond (p := (decide ((IntKind.i64.wrap (left - 1)) > 4096))) (by first | rfl | simp only [wz, wd, ws, Nat.reduceAdd, Nat.reduceSub, Nat.reduceMul, Nat.reduceLeDiff, Nat.reduceEqDiff, Nat.reduceLT, Nat.reduceBEq, reduceIte, reduceCtorEq, Int.reduceToNat, Nat.reduceShiftRight, Nat.reduceAnd, Nat.reduceBneDiff, Nat.reduceBNe]) (fun h1 => ?_) (fun h1 => ?_)
      · rw [ite_t h1] at h
        refine .seq ?_
        refine Rw.walk ?_
        simp only [wz, wd, ws, Nat.reduceAdd, Nat.reduceSub, Nat.reduceMul, Nat.reduceLeDiff, Nat.reduceEqDiff, Nat.reduceLT, Nat.reduceBEq, reduceIte, reduceCtorEq, Int.reduceToNat, Nat.reduceShiftRight, Nat.reduceAnd, Nat.reduceBneDiff, Nat.reduceBNe, c8r16, semI.eq_10, semI.eq_11, semI.eq_3, semI.eq_5, semI.eq_7, e_api_Ledger, e_api_Disk, e_api_Write, frz.eq_1, er_back]
        obtain rfl := Option.some.inj h
        refine .ret ?_
        rw [← hR]
        simp only [wz, wd, ws, Nat.reduceAdd, Nat.reduceSub, Nat.reduceMul, Nat.reduceLeDiff, Nat.reduceEqDiff, Nat.reduceLT, Nat.reduceBEq, reduceIte, reduceCtorEq, Int.reduceToNat, Nat.reduceShiftRight, Nat.reduceAnd, Nat.reduceBneDiff, Nat.reduceBNe, rv8, e_api_Ledger, e_api_Disk, e_api_Write, frz.eq_1, er_back]
      · rw [ite_f h1] at h
        refine .skip ?_
        refine .seq ?_
        refine RwD.walk ?_
        simp only [wz, wd, ws, Nat.reduceAdd, Nat.reduceSub, Nat.reduceMul, Nat.reduceLeDiff, Nat.reduceEqDiff, Nat.reduceLT, Nat.reduceBEq, reduceIte, reduceCtorEq, Int.reduceToNat, Nat.reduceShiftRight, Nat.reduceAnd, Nat.reduceBneDiff, Nat.reduceBNe, c8r17, semI.eq_10, semI.eq_11, semI.eq_3, semI.eq_5, semI.eq_7, e_api_Ledger, e_api_Disk, e_api_Write, frz.eq_1, er_back]
        obtain ⟨t9, e15, h⟩ := Option.bind_eq_some_iff.1 h
        refine call_fun [] false ⟨trivial, trivial, trivial⟩ rfl ?_ (f_law10_LedgerFills_1_ok _ _ e15) (fun _ => rfl) (fun i hi => by cases hi) ?_
        · simp only [wz, wd, ws, Nat.reduceAdd, Nat.reduceSub, Nat.reduceMul, Nat.reduceLeDiff, Nat.reduceEqDiff, Nat.reduceLT, Nat.reduceBEq, reduceIte, reduceCtorEq, Int.reduceToNat, Nat.reduceShiftRight, Nat.reduceAnd, Nat.reduceBneDiff, Nat.reduceBNe, e_api_Ledger, e_api_Disk, e_api_Write, frz.eq_1, er_back]
        simp only [wz, wd, ws, Nat.reduceAdd, Nat.reduceSub, Nat.reduceMul, Nat.reduceLeDiff, Nat.reduceEqDiff, Nat.reduceLT, Nat.reduceBEq, reduceIte, reduceCtorEq, Int.reduceToNat, Nat.reduceShiftRight, Nat.reduceAnd, Nat.reduceBneDiff, Nat.reduceBNe, c8r17, semI.eq_10, semI.eq_11, semI.eq_3, semI.eq_5, semI.eq_7, e_api_Ledger, e_api_Disk, e_api_Write, frz.eq_1, er_back]
        refine GoD1.of (sem_bsl (enc := eS) (m := ([t9] : List Str)) eS_len (by rfl) (by rfl) (by rfl) ⟨trivial, trivial⟩) ?_
        simp only [wz, wd, ws, Nat.reduceAdd, Nat.reduceSub, Nat.reduceMul, Nat.reduceLeDiff, Nat.reduceEqDiff, Nat.reduceLT, Nat.reduceBEq, reduceIte, reduceCtorEq, Int.reduceToNat, Nat.reduceShiftRight, Nat.reduceAnd, Nat.reduceBneDiff, Nat.reduceBNe, c8r17, semI.eq_10, semI.eq_11, semI.eq_3, semI.eq_5, semI.eq_7, e_api_Ledger, e_api_Disk, e_api_Write, frz.eq_1, er_back]
        obtain ⟨t10, e16, h⟩ := Option.bind_eq_some_iff.1 h
        refine call_fun [108] true ⟨trivial, trivial, trivial, trivial⟩ rfl ?_ (f_ledger_Renew_ok _ _ _ e16) (fun h => by cases h) (fun i hi e he => coF_get (l := [108]) (by simp only [wz, wd, ws, Nat.reduceAdd, Nat.reduceSub, Nat.reduceMul, Nat.reduceLeDiff, Nat.reduceEqDiff, Nat.reduceLT, Nat.reduceBEq, reduceIte, reduceCtorEq, Int.reduceToNat, Nat.reduceShiftRight, Nat.reduceAnd, Nat.reduceBneDiff, Nat.reduceBNe, wi, e_api_Ledger, e_api_Disk, e_api_Write]) i e hi he) ?_
        · simp only [wz, wd, ws, Nat.reduceAdd, Nat.reduceSub, Nat.reduceMul, Nat.reduceLeDiff, Nat.reduceEqDiff, Nat.reduceLT, Nat.reduceBEq, reduceIte, reduceCtorEq, Int.reduceToNat, Nat.reduceShiftRight, Nat.reduceAnd, Nat.reduceBneDiff, Nat.reduceBNe, e_api_Ledger, e_api_Disk, e_api_Write, frz.eq_1, er_back]
        simp only [wz, wd, ws, Nat.reduceAdd, Nat.reduceSub, Nat.reduceMul, Nat.reduceLeDiff, Nat.reduceEqDiff, Nat.reduceLT, Nat.reduceBEq, reduceIte, reduceCtorEq, Int.reduceToNat, Nat.reduceShiftRight, Nat.reduceAnd, Nat.reduceBneDiff, Nat.reduceBNe, c8r17, semI.eq_10, semI.eq_11, semI.eq_3, semI.eq_5, semI.eq_7, e_api_Ledger, e_api_Disk, e_api_Write, frz.eq_1, er_back]
        refine .seq ?_
        refine Rw.walk ?_
        simp only [wz, wd, ws, Nat.reduceAdd, Nat.reduceSub, Nat.reduceMul, Nat.reduceLeDiff, Nat.reduceEqDiff, Nat.reduceLT, Nat.reduceBEq, reduceIte, reduceCtorEq, Int.reduceToNat, Nat.reduceShiftRight, Nat.reduceAnd, Nat.reduceBneDiff, Nat.reduceBNe, c8r18, semI.eq_10, semI.eq_11, semI.eq_3, semI.eq_5, semI.eq_7, e_api_Ledger, e_api_Disk, e_api_Write, frz.eq_1, er_back]
        refine call_alt (v := .b (.s (.d (.int .i64 t6.1.Used)))) rfl rfl (by simp only [wz, wd, ws, Nat.reduceAdd, Nat.reduceSub, Nat.reduceMul, Nat.reduceLeDiff, Nat.reduceEqDiff, Nat.reduceLT, Nat.reduceBEq, reduceIte, reduceCtorEq, Int.reduceToNat, Nat.reduceShiftRight, Nat.reduceAnd, Nat.reduceBneDiff, Nat.reduceBNe]) (fun q => ⟨_, by simp only [wz, wd, ws, Nat.reduceAdd, Nat.reduceSub, Nat.reduceMul, Nat.reduceLeDiff, Nat.reduceEqDiff, Nat.reduceLT, Nat.reduceBEq, reduceIte, reduceCtorEq, Int.reduceToNat, Nat.reduceShiftRight, Nat.reduceAnd, Nat.reduceBneDiff, Nat.reduceBNe, semI.eq_10, e_api_Ledger, e_api_Disk, e_api_Write, frz.eq_1, er_back], trivial⟩) ?_
        simp only [wz, wd, ws, Nat.reduceAdd, Nat.reduceSub, Nat.reduceMul, Nat.reduceLeDiff, Nat.reduceEqDiff, Nat.reduceLT, Nat.reduceBEq, reduceIte, reduceCtorEq, Int.reduceToNat, Nat.reduceShiftRight, Nat.reduceAnd, Nat.reduceBneDiff, Nat.reduceBNe, c8r18, semI.eq_10, semI.eq_11, semI.eq_3, semI.eq_5, semI.eq_7, e_api_Ledger, e_api_Disk, e_api_Write, frz.eq_1, er_back]
        repeat (refine And.intro ?_ ?_; · first | omega | (simp only [List.length_append, List.length_cons, List.length_nil] at *; omega) | (intro q; simp only [wz, wd, ws, Nat.reduceAdd, Nat.reduceSub, Nat.reduceMul, Nat.reduceLeDiff, Nat.reduceEqDiff, Nat.reduceLT, Nat.reduceBEq, reduceIte, reduceCtorEq, Int.reduceToNat, Nat.reduceShiftRight, Nat.reduceAnd, Nat.reduceBneDiff, Nat.reduceBNe, q]; done))
        refine call_alt (v := .b (.s (.d (.sl (t10.1.Entries.map eS))))) rfl rfl (by simp only [wz, wd, ws, Nat.reduceAdd, Nat.reduceSub, Nat.reduceMul, Nat.reduceLeDiff, Nat.reduceEqDiff, Nat.reduceLT, Nat.reduceBEq, reduceIte, reduceCtorEq, Int.reduceToNat, Nat.reduceShiftRight, Nat.reduceAnd, Nat.reduceBneDiff, Nat.reduceBNe]) (fun q => ⟨_, by simp only [wz, wd, ws, Nat.reduceAdd, Nat.reduceSub, Nat.reduceMul, Nat.reduceLeDiff, Nat.reduceEqDiff, Nat.reduceLT, Nat.reduceBEq, reduceIte, reduceCtorEq, Int.reduceToNat, Nat.reduceShiftRight, Nat.reduceAnd, Nat.reduceBneDiff, Nat.reduceBNe, semI.eq_10, e_api_Ledger, e_api_Disk, e_api_Write, frz.eq_1, er_back], trivial⟩) ?_
        simp only [wz, wd, ws, Nat.reduceAdd, Nat.reduceSub, Nat.reduceMul, Nat.reduceLeDiff, Nat.reduceEqDiff, Nat.reduceLT, Nat.reduceBEq, reduceIte, reduceCtorEq, Int.reduceToNat, Nat.reduceShiftRight, Nat.reduceAnd, Nat.reduceBneDiff, Nat.reduceBNe, c8r18, semI.eq_10, semI.eq_11, semI.eq_3, semI.eq_5, semI.eq_7, e_api_Ledger, e_api_Disk, e_api_Write, frz.eq_1, er_back]
        repeat (refine And.intro ?_ ?_; · first | omega | (simp only [List.length_append, List.length_cons, List.length_nil] at *; omega) | (intro q; simp only [wz, wd, ws, Nat.reduceAdd, Nat.reduceSub, Nat.reduceMul, Nat.reduceLeDiff, Nat.reduceEqDiff, Nat.reduceLT, Nat.reduceBEq, reduceIte, reduceCtorEq, Int.reduceToNat, Nat.reduceShiftRight, Nat.reduceAnd, Nat.reduceBneDiff, Nat.reduceBNe, q]; done))
        refine call_alt (v := .b (.s (.d (.int .i64 t10.1.Gen)))) rfl rfl (by simp only [wz, wd, ws, Nat.reduceAdd, Nat.reduceSub, Nat.reduceMul, Nat.reduceLeDiff, Nat.reduceEqDiff, Nat.reduceLT, Nat.reduceBEq, reduceIte, reduceCtorEq, Int.reduceToNat, Nat.reduceShiftRight, Nat.reduceAnd, Nat.reduceBneDiff, Nat.reduceBNe]) (fun q => ⟨_, by simp only [wz, wd, ws, Nat.reduceAdd, Nat.reduceSub, Nat.reduceMul, Nat.reduceLeDiff, Nat.reduceEqDiff, Nat.reduceLT, Nat.reduceBEq, reduceIte, reduceCtorEq, Int.reduceToNat, Nat.reduceShiftRight, Nat.reduceAnd, Nat.reduceBneDiff, Nat.reduceBNe, semI.eq_10, e_api_Ledger, e_api_Disk, e_api_Write, frz.eq_1, er_back], trivial⟩) ?_
        simp only [wz, wd, ws, Nat.reduceAdd, Nat.reduceSub, Nat.reduceMul, Nat.reduceLeDiff, Nat.reduceEqDiff, Nat.reduceLT, Nat.reduceBEq, reduceIte, reduceCtorEq, Int.reduceToNat, Nat.reduceShiftRight, Nat.reduceAnd, Nat.reduceBneDiff, Nat.reduceBNe, c8r18, semI.eq_10, semI.eq_11, semI.eq_3, semI.eq_5, semI.eq_7, e_api_Ledger, e_api_Disk, e_api_Write, frz.eq_1, er_back]
        repeat (refine And.intro ?_ ?_; · first | omega | (simp only [List.length_append, List.length_cons, List.length_nil] at *; omega) | (intro q; simp only [wz, wd, ws, Nat.reduceAdd, Nat.reduceSub, Nat.reduceMul, Nat.reduceLeDiff, Nat.reduceEqDiff, Nat.reduceLT, Nat.reduceBEq, reduceIte, reduceCtorEq, Int.reduceToNat, Nat.reduceShiftRight, Nat.reduceAnd, Nat.reduceBneDiff, Nat.reduceBNe, q]; done))
        obtain rfl := Option.some.inj h
        refine .ret ?_
        rw [← hR]
        simp only [wz, wd, ws, Nat.reduceAdd, Nat.reduceSub, Nat.reduceMul, Nat.reduceLeDiff, Nat.reduceEqDiff, Nat.reduceLT, Nat.reduceBEq, reduceIte, reduceCtorEq, Int.reduceToNat, Nat.reduceShiftRight, Nat.reduceAnd, Nat.reduceBneDiff, Nat.reduceBNe, rv8, e_api_Ledger, e_api_Disk, e_api_Write, frz.eq_1, er_back]
end Go.Proofs.Ytjhelpeglgigbaa.V
end

section
/- Plain laws: numbers, rows and words of 32 bits. -/
namespace Go.Proofs.Ytjhelpeglgigbaa.V.M
set_option linter.unusedVariables false
set_option linter.unusedSimpArgs false
open Go Go.RowKit
theorem w_i64 {n : Int} (h : -9223372036854775808 ≤ n) (h2 : n < 9223372036854775808) : IntKind.i64.wrap n = n := by
  simp only [IntKind.wrap, IntKind.bits, IntKind.signed]; simp; omega
theorem bounds_i64 {a : Int} (h : (Lit.int .i64 a).wf = true) : -9223372036854775808 ≤ a ∧ a ≤ 9223372036854775807 := by
  have e := (Bool.and_eq_true_iff.mp h); exact ⟨of_decide_eq_true e.1, of_decide_eq_true e.2⟩
theorem bounds_u8 {a : Int} (h : (Lit.int .u8 a).wf = true) : 0 ≤ a ∧ a ≤ 255 := by
  have e := (Bool.and_eq_true_iff.mp h); exact ⟨of_decide_eq_true e.1, of_decide_eq_true e.2⟩
theorem w_u64 {n : Int} (h : 0 ≤ n) (h2 : n < 18446744073709551616) : IntKind.u64.wrap n = n := by
  simp only [IntKind.wrap, IntKind.bits, IntKind.signed]; simp; omega
theorem w_u32 (n : Int) : IntKind.u32.wrap n = n % 4294967296 := by simp [IntKind.wrap, IntKind.bits, IntKind.signed]
theorem w_u8 (n : Int) : IntKind.u8.wrap n = n % 256 := by simp [IntKind.wrap, IntKind.bits, IntKind.signed]
theorem gd_t {α : Type} {p : Prop} [Decidable p] (k : Option α) (h : p) : gd p k = k := by unfold gd; rw [if_pos h]
theorem ix_nat {α : Type} (l : List α) (n : Nat) : ix l (n : Int) = l[n]? := by unfold ix; rw [if_pos (by omega)]; rfl
theorem ix_lt {α : Type} (l : List α) (d : α) (n : Nat) (h : n < l.length) : ix l (n : Int) = some (l.getD n d) := by
  rw [ix_nat, List.getElem?_eq_getElem h, List.getD_eq_getElem?_getD, List.getElem?_eq_getElem h]; rfl
theorem cut_all {α : Type} (l : List α) (n : Nat) : cut l (n : Int) (l.length : Int) = l.drop n := by unfold cut; simp
theorem cut_zero {α : Type} (l : List α) (n : Nat) : cut l 0 (n : Int) = l.take n := by unfold cut; simp
/-- A word of 32 bits, as the program's number. -/
def B (x : BitVec 32) : Int := (x.toNat : Int)
theorem B_lt (x : BitVec 32) : 0 ≤ B x ∧ B x < 4294967296 := ⟨by unfold B; omega, by unfold B; have := x.isLt; omega⟩
theorem B_of (n : Int) : BitVec.ofInt 32 n = BitVec.ofInt 32 n := rfl
theorem B_ofInt (n : Int) : IntKind.u32.wrap n = B (BitVec.ofInt 32 n) := by
  rw [w_u32]; unfold B; rw [BitVec.toNat_ofInt]; omega
theorem of_B (x : BitVec 32) : BitVec.ofInt 32 (B x) = x := by unfold B; simp
theorem of_B' (x : BitVec 32) : BitVec.ofInt IntKind.u32.bits (B x) = x := of_B x
theorem wrap_B (x : BitVec 32) : IntKind.u32.wrap (B x) = B x := by rw [B_ofInt, of_B]
theorem wrap_N (x : BitVec 32) : IntKind.u32.wrap ((x.toNat : Nat) : Int) = B x := wrap_B x
theorem add_B (x y : BitVec 32) : IntKind.u32.wrap (B x + B y) = B (x + y) := by
  rw [B_ofInt, BitVec.ofInt_add, of_B, of_B]
theorem B_mod (n : Nat) : (n : Int) % 4294967296 = B (BitVec.ofNat 32 n) := by unfold B; simp
theorem not_B (x : BitVec 32) : IntKind.u32.wrap (4294967295 - B x) = B (~~~ x) := by
  have := B_lt x
  rw [w_u32]; unfold B at *; rw [BitVec.toNat_not]; omega
theorem not_B2 (x : BitVec 32) : IntKind.u32.wrap (BitVec.ofInt IntKind.u32.bits (if IntKind.u32.signed then -1 else IntKind.u32.max) ^^^ BitVec.ofInt IntKind.u32.bits (B x)).toNat = B (~~~ x) := by
  have e : (BitVec.ofInt IntKind.u32.bits (if IntKind.u32.signed then -1 else IntKind.u32.max) ^^^ BitVec.ofInt IntKind.u32.bits (B x)) = ~~~ x := by
    show BitVec.ofInt 32 4294967295 ^^^ BitVec.ofInt 32 (B x) = _
    rw [of_B, show BitVec.ofInt 32 4294967295 = BitVec.allOnes 32 from by decide, BitVec.allOnes_xor]
  rw [e]; exact wrap_N _
theorem xor_B (x y : BitVec 32) : IntKind.u32.wrap (BitVec.ofInt IntKind.u32.bits (B x) ^^^ BitVec.ofInt IntKind.u32.bits (B y)).toNat = B (x ^^^ y) := by
  have e : (BitVec.ofInt IntKind.u32.bits (B x) ^^^ BitVec.ofInt IntKind.u32.bits (B y)) = x ^^^ y := by
    show BitVec.ofInt 32 (B x) ^^^ BitVec.ofInt 32 (B y) = _
    rw [of_B, of_B]
  rw [e]; exact wrap_N _
theorem and_B (x y : BitVec 32) : IntKind.u32.wrap (BitVec.ofInt IntKind.u32.bits (B x) &&& BitVec.ofInt IntKind.u32.bits (B y)).toNat = B (x &&& y) := by
  have e : (BitVec.ofInt IntKind.u32.bits (B x) &&& BitVec.ofInt IntKind.u32.bits (B y)) = x &&& y := by
    show BitVec.ofInt 32 (B x) &&& BitVec.ofInt 32 (B y) = _
    rw [of_B, of_B]
  rw [e]; exact wrap_N _
theorem or_B (x y : BitVec 32) : IntKind.u32.wrap (BitVec.ofInt IntKind.u32.bits (B x) ||| BitVec.ofInt IntKind.u32.bits (B y)).toNat = B (x ||| y) := by
  have e : (BitVec.ofInt IntKind.u32.bits (B x) ||| BitVec.ofInt IntKind.u32.bits (B y)) = x ||| y := by
    show BitVec.ofInt 32 (B x) ||| BitVec.ofInt 32 (B y) = _
    rw [of_B, of_B]
  rw [e]; exact wrap_N _
/-- The turn to the right. -/
def rot (n : Nat) (x : BitVec 32) : BitVec 32 := (x <<< (32 - n)) ||| (x >>> n)
theorem rot_add (n : Nat) (h0 : 0 < n) (h : n < 32) (x : BitVec 32) : rot n x = (x <<< (32 - n)) + (x >>> n) := by
  unfold rot; symm; apply BitVec.add_eq_or_of_and_eq_zero
  ext i hi
  simp only [BitVec.getElem_and, BitVec.getElem_shiftLeft, BitVec.getElem_ushiftRight, BitVec.getElem_zero]
  by_cases c : i < 32 - n
  · simp [c]
  · simp [c]; intro _; exact BitVec.getLsbD_of_ge _ _ (by omega)
theorem B_def (x : BitVec 32) : B x = (x.toNat : Int) := rfl
theorem shr_B (x : BitVec 32) (n : Nat) : (B x).fdiv (2 ^ n) = B (x >>> n) := by
  have h : (2 : Int) ^ n = ((2 ^ n : Nat) : Int) := by rw [Int.natCast_pow]; rfl
  rw [B_def, B_def, BitVec.toNat_ushiftRight, Nat.shiftRight_eq_div_pow, h, Int.fdiv_eq_ediv_of_nonneg _ (Int.natCast_nonneg _)]; rfl
theorem shl_B (x : BitVec 32) (n : Nat) : IntKind.u32.wrap (B x * 2 ^ n) = B (x <<< n) := by
  have h : (2 : Int) ^ n = ((2 ^ n : Nat) : Int) := by rw [Int.natCast_pow]; rfl
  rw [w_u32, B_def, B_def, BitVec.toNat_shiftLeft, Nat.shiftLeft_eq, h, ← Int.natCast_mul]; rfl
theorem divB (x : BitVec 32) (n : Nat) (p : Int) (h : p = ((2 ^ n : Nat) : Int)) : IntKind.u32.wrap ((B x).tdiv p) = B (x >>> n) := by
  subst h
  rw [B_def, Int.tdiv_eq_ediv_of_nonneg (Int.natCast_nonneg _), show ((x.toNat : Int) / ((2 ^ n : Nat) : Int)) = ((x >>> n).toNat : Int) by
    rw [BitVec.toNat_ushiftRight, Nat.shiftRight_eq_div_pow]; rfl]
  exact wrap_N _
theorem modB (x : BitVec 32) (n : Nat) (hn : n ≤ 32) (p q : Int) (h : p = ((2 ^ n : Nat) : Int)) (h2 : q = ((2 ^ (32 - n) : Nat) : Int)) : IntKind.u32.wrap ((B x).tmod p * q) = B (x <<< (32 - n)) := by
  subst h; subst h2
  rw [B_def, Int.tmod_eq_emod_of_nonneg (Int.natCast_nonneg _), w_u32, B_def, BitVec.toNat_shiftLeft, Nat.shiftLeft_eq]
  have e : (x.toNat % 2 ^ n) * 2 ^ (32 - n) = x.toNat * 2 ^ (32 - n) % 2 ^ 32 := by
    rw [← Nat.mul_mod_mul_right]; congr 1; rw [← Nat.pow_add]; congr 1; omega
  rw [← e, ← Int.natCast_emod, ← Int.natCast_mul, e]
  have := Nat.mod_lt (x.toNat * 2 ^ (32 - n)) (show 2 ^ 32 > 0 by decide)
  omega
end Go.Proofs.Ytjhelpeglgigbaa.V.M
end

section
/- The two ways to turn a word agree; mixed, step and block over words. -/
namespace Go.Proofs.Ytjhelpeglgigbaa.V.M
set_option linter.unusedVariables false
set_option linter.unusedSimpArgs false
open Go Go.RowKit
def sg0 (x : BitVec 32) := rot 7 x ^^^ rot 18 x ^^^ (x >>> 3)
def sg1 (x : BitVec 32) := rot 17 x ^^^ rot 19 x ^^^ (x >>> 10)
def bg0 (x : BitVec 32) := rot 2 x ^^^ rot 13 x ^^^ rot 22 x
def bg1 (x : BitVec 32) := rot 6 x ^^^ rot 11 x ^^^ rot 25 x
def Cb (c : UInt8) : BitVec 32 := BitVec.ofNat 32 c.toNat
theorem bn_B (c : UInt8) : IntKind.u32.wrap (bn c) = B (Cb c) := by
  rw [w_u32]; unfold bn Cb; exact B_mod _
def wd (a b c d : UInt8) : BitVec 32 := Cb a <<< 24 ||| Cb b <<< 16 ||| Cb c <<< 8 ||| Cb d
theorem mn24 : min 24 IntKind.u32.bits = 24 := rfl
theorem mn16 : min 16 IntKind.u32.bits = 16 := rfl
theorem mn8 : min 8 IntKind.u32.bits = 8 := rfl
theorem wd_eq (a b c d : UInt8) : 256#32 * (256#32 * (256#32 * (256#32 * 0#32 + Cb a) + Cb b) + Cb c) + Cb d = wd a b c d := by
  apply BitVec.eq_of_toNat_eq
  unfold wd Cb
  have ha := a.toNat_lt; have hb := b.toNat_lt; have hc := c.toNat_lt; have hd := d.toNat_lt
  simp only [BitVec.toNat_add, BitVec.toNat_mul, BitVec.toNat_or, BitVec.toNat_shiftLeft, BitVec.toNat_ofNat, Nat.shiftLeft_eq]
  rw [Nat.or_assoc, Nat.or_assoc, Nat.mod_eq_of_lt (show d.toNat < 2 ^ 32 by omega), Nat.mod_eq_of_lt (show c.toNat < 2 ^ 32 by omega), Nat.mod_eq_of_lt (show b.toNat < 2 ^ 32 by omega), Nat.mod_eq_of_lt (show a.toNat < 2 ^ 32 by omega),
    Nat.mod_eq_of_lt (show c.toNat * 2 ^ 8 < 2 ^ 32 by omega), Nat.mod_eq_of_lt (show b.toNat * 2 ^ 16 < 2 ^ 32 by omega), Nat.mod_eq_of_lt (show a.toNat * 2 ^ 24 < 2 ^ 32 by omega),
    Nat.mul_comm c.toNat, Nat.mul_comm b.toNat, Nat.mul_comm a.toNat, ← Nat.two_pow_add_eq_or_of_lt (show d.toNat < 2 ^ 8 by omega),
    ← Nat.two_pow_add_eq_or_of_lt (show 2 ^ 8 * c.toNat + d.toNat < 2 ^ 16 by omega), ← Nat.two_pow_add_eq_or_of_lt (show 2 ^ 16 * b.toNat + (2 ^ 8 * c.toNat + d.toNat) < 2 ^ 24 by omega)]
  omega
end Go.Proofs.Ytjhelpeglgigbaa.V.M
end

section
/- The words of a block, and a block, computed in both ways. -/
namespace Go.Proofs.Ytjhelpeglgigbaa.V.M
set_option linter.unusedVariables false
set_option linter.unusedSimpArgs false
open Go Go.RowKit
def wr (s : Str) (i : Nat) : BitVec 32 := wd (s.getD (4 * i) 0) (s.getD (4 * i + 1) 0) (s.getD (4 * i + 2) 0) (s.getD (4 * i + 3) 0)
def nxWord (s : Str) (i : Nat) (l : List (BitVec 32)) : BitVec 32 :=
  if i < 16 then wr s i else sg1 (l.getD (i - 2) 0#32) + l.getD (i - 7) 0#32 + sg0 (l.getD (i - 15) 0#32) + l.getD (i - 16) 0#32
def sch (s : Str) : Nat → List (BitVec 32)
  | 0 => []
  | i + 1 => sch s i ++ [nxWord s i (sch s i)]
theorem sch_len (s : Str) (i : Nat) : (sch s i).length = i := by
  induction i with
  | zero => rfl
  | succ i ih => simp [sch, ih]
def W0 (s : Str) (i : Nat) : List Int := (sch s i).map B ++ List.replicate (64 - i) 0
theorem ix_sch (s : Str) (i j : Nat) (h : j < i) (r : List Int) : ix ((sch s i).map B ++ r) (j : Int) = some (B ((sch s i).getD j 0#32)) := by
  rw [ix_nat, List.getElem?_append_left (by simpa [sch_len] using h), List.getElem?_map, List.getElem?_eq_getElem (by simpa [sch_len] using h), List.getD_eq_getElem?_getD, List.getElem?_eq_getElem (by simpa [sch_len] using h)]; rfl
theorem ix_W0 (s : Str) (i j : Nat) (h : j < i) : ix (W0 s i) (j : Int) = some (B ((sch s i).getD j 0#32)) := ix_sch s i j h _
theorem ix_V0 (s : Str) (i j : Nat) (h : j < i) : ix ((sch s i).map B) (j : Int) = some (B ((sch s i).getD j 0#32)) := by
  have := ix_sch s i j h []; rwa [List.append_nil] at this
theorem W0_len (s : Str) (i : Nat) (h : i ≤ 64) : (W0 s i).length = 64 := by simp [W0, sch_len]; omega
theorem W0_set (s : Str) (i : Nat) (h : i < 64) (y : Int) (hy : y = B (nxWord s i (sch s i))) : (W0 s i).set i y = W0 s (i + 1) := by
  subst hy
  unfold W0
  rw [show 64 - i = (64 - (i + 1)) + 1 from by omega, List.replicate_succ, List.set_append_right _ _ (by simp [sch_len])]
  simp [sch_len, sch]
end Go.Proofs.Ytjhelpeglgigbaa.V.M
end

section
/- A block, computed in both ways. -/
namespace Go.Proofs.Ytjhelpeglgigbaa.V.M
set_option linter.unusedVariables false
set_option linter.unusedSimpArgs false
open Go Go.RowKit
theorem ix_map (l : List (BitVec 32)) (j : Nat) (h : j < l.length) : ix (l.map B) (j : Int) = some (B (l.getD j 0#32)) := by
  rw [ix_nat, List.getElem?_map, List.getElem?_eq_getElem h, List.getD_eq_getElem?_getD, List.getElem?_eq_getElem h]; rfl
def rnd (k w : BitVec 32) : List (BitVec 32) → List (BitVec 32)
  | [a, b, c, d, e, f, g, h] =>
    [h + bg1 e + (e &&& f ^^^ (~~~ e) &&& g) + k + w + (bg0 a + (a &&& b ^^^ a &&& c ^^^ b &&& c)), a, b, c, d + (h + bg1 e + (e &&& f ^^^ (~~~ e) &&& g) + k + w), e, f, g]
  | v => v
theorem len8 {α : Type} (l : List α) (h : l.length = 8) : ∃ a b c d e f g i, l = [a, b, c, d, e, f, g, i] := by
  match l, h with
  | [a, b, c, d, e, f, g, i], _ => exact ⟨a, b, c, d, e, f, g, i, rfl⟩
theorem rnd_len (k w : BitVec 32) (v : List (BitVec 32)) (h : v.length = 8) : (rnd k w v).length = 8 := by
  obtain ⟨a, b, c, d, e, f, g, i, rfl⟩ := len8 v h; rfl
theorem bsn {α β : Type} (a : α) (f : α → Option β) : (some a).bind f = f a := Eq.trans (Option.bind_some a f) rfl
theorem gdc0 (a : BitVec 32) (l : List (BitVec 32)) : (a :: l).getD 0 0#32 = a := Eq.trans List.getD_cons_zero rfl
theorem gdc1 (a : BitVec 32) (l : List (BitVec 32)) (n : Nat) : (a :: l).getD (n + 1) 0#32 = l.getD n 0#32 := Eq.trans List.getD_cons_succ rfl
theorem ix8 (a b c d e f g i : BitVec 32) : ix ([a, b, c, d, e, f, g, i].map B) 0 = some (B a) ∧ ix ([a, b, c, d, e, f, g, i].map B) 1 = some (B b) ∧ ix ([a, b, c, d, e, f, g, i].map B) 2 = some (B c) ∧ ix ([a, b, c, d, e, f, g, i].map B) 3 = some (B d) ∧ ix ([a, b, c, d, e, f, g, i].map B) 4 = some (B e) ∧ ix ([a, b, c, d, e, f, g, i].map B) 5 = some (B f) ∧ ix ([a, b, c, d, e, f, g, i].map B) 6 = some (B g) ∧ ix ([a, b, c, d, e, f, g, i].map B) 7 = some (B i) := ⟨rfl, rfl, rfl, rfl, rfl, rfl, rfl, rfl⟩
theorem nx_take (s : Str) (i : Nat) (l : List (BitVec 32)) : nxWord (s.take 64) i l = nxWord s i l := by
  have e : ∀ j, j < 64 → (s.take 64).getD j 0 = s.getD j 0 := by
    intro j hj; rw [List.getD_eq_getElem?_getD, List.getD_eq_getElem?_getD, List.getElem?_take_of_lt hj]
  unfold nxWord
  by_cases c : i < 16
  · rw [if_pos c, if_pos c]; unfold wr; rw [e _ (by omega), e _ (by omega), e _ (by omega), e _ (by omega)]
  · rw [if_neg c, if_neg c]
theorem sch_take (s : Str) (i : Nat) : sch (s.take 64) i = sch s i := by
  induction i with
  | zero => rfl
  | succ i ih => rw [sch, sch, ih, nx_take]
end Go.Proofs.Ytjhelpeglgigbaa.V.M
end

section
/- The sum of a text, computed in both ways. -/
namespace Go.Proofs.Ytjhelpeglgigbaa.V.M
set_option linter.unusedVariables false
set_option linter.unusedSimpArgs false
open Go Go.RowKit
def padS (s : Str) : Str := s ++ List.replicate ((120 - s.length % 64) % 64) 0
theorem padS_next (s : Str) (h : s.length % 64 ≠ 56) : padS (s ++ [0]) = padS s := by
  unfold padS
  rw [List.length_append, List.append_assoc, show ([0] : Str) = List.replicate 1 0 from rfl, List.replicate_append_replicate, List.length_replicate]
  congr 2; omega
theorem padS_end (s : Str) (h : s.length % 64 = 56) : padS s = s := by
  unfold padS; rw [h]; simp
theorem padS_len (s : Str) : (padS s).length % 64 = 56 ∧ (padS s).length ≤ s.length + 63 ∧ s.length ≤ (padS s).length := by
  unfold padS; rw [List.length_append, List.length_replicate]; omega
theorem tm64 (n : Nat) : ((((n : Int).tmod 64) != 56) = true) ↔ n % 64 ≠ 56 := by
  rw [Int.tmod_eq_emod_of_nonneg (Int.natCast_nonneg _)]; simp; omega
theorem map_bn0 (s : Str) : s.map bn ++ ([0] : List Int) = (s ++ [0]).map bn := by rw [List.map_append]; rfl
def byt (T j : Nat) : UInt8 := UInt8.ofNat (T / 2 ^ (8 * j))
def lbs (T : Nat) : Str := [byt T 7, byt T 6, byt T 5, byt T 4, byt T 3, byt T 2, byt T 1, byt T 0]
def Tb (n : Nat) : Nat := n * 8 % 18446744073709551616
theorem T_ok (n : Nat) (h : n ≤ 140737488355328) : IntKind.u64.wrap ((IntKind.u64.wrap (n : Int)) * 8) = (Tb n : Int) := by
  rw [w_u64 (n := (n : Int)) (by omega) (by omega), w_u64 (by omega) (by omega)]; unfold Tb; omega
theorem pow_c (n : Nat) : (2 : Int) ^ n = ((2 ^ n : Nat) : Int) := by rw [Int.natCast_pow]; rfl
theorem nb_mod (n : Nat) : nb (((n % 256 : Nat)) : Int) = UInt8.ofNat n := by
  unfold nb; rw [Int.toNat_natCast]; apply UInt8.toNat_inj.mp; rw [UInt8.toNat_ofNat', UInt8.toNat_ofNat', Nat.mod_mod]
theorem byt_f (T j : Nat) (hj : j < 8) : nb (IntKind.u8.wrap ((T : Int).fdiv (2 ^ (min (IntKind.i64.wrap (8 * (j : Int))).toNat IntKind.u64.bits)))) = byt T j := by
  rw [w_i64 (by omega) (by omega), show min (8 * (j : Int)).toNat IntKind.u64.bits = 8 * j from by show min _ 64 = _; omega, pow_c, Int.fdiv_eq_ediv_of_nonneg _ (Int.natCast_nonneg _), w_u8, ← Int.natCast_ediv]
  exact nb_mod _
theorem byt_t (T j : Nat) (hT : T < 18446744073709551616) : IntKind.u8.wrap ((IntKind.u64.wrap ((T : Int).tdiv ((2 ^ (8 * j) : Nat) : Int))).tmod 256) = bn (byt T j) := by
  rw [Int.tdiv_eq_ediv_of_nonneg (Int.natCast_nonneg _), ← Int.natCast_ediv, w_u64 (Int.natCast_nonneg _) (by have := Nat.div_le_self T (2 ^ (8 * j)); omega), Int.tmod_eq_emod_of_nonneg (Int.natCast_nonneg _), w_u8]
  unfold bn byt; rw [UInt8.toNat_ofNat']; omega
end Go.Proofs.Ytjhelpeglgigbaa.V.M
end

section
/- The sum of a text, computed in both ways: the blocks, and what is handed back. -/
namespace Go.Proofs.Ytjhelpeglgigbaa.V.M
set_option linter.unusedVariables false
set_option linter.unusedSimpArgs false
open Go Go.RowKit
theorem nb_bn (s : Str) : (s.map bn).map nb = s := by
  rw [List.map_map]
  have : nb ∘ bn = id := by funext c; simp [nb, bn]
  rw [this, List.map_id]
def o4 (x : Int) : List Int := [(IntKind.u8.wrap (x.fdiv (2 ^ (min 24 IntKind.u32.bits)))), (IntKind.u8.wrap (x.fdiv (2 ^ (min 16 IntKind.u32.bits)))), (IntKind.u8.wrap (x.fdiv (2 ^ (min 8 IntKind.u32.bits)))), (IntKind.u8.wrap x)]
def p4 (x : Int) : List Int := [(IntKind.u8.wrap (IntKind.u32.wrap (x.tdiv 16777216))), (IntKind.u8.wrap ((IntKind.u32.wrap (x.tdiv 65536)).tmod 256)), (IntKind.u8.wrap ((IntKind.u32.wrap (x.tdiv 256)).tmod 256)), (IntKind.u8.wrap (x.tmod 256))]
theorem m8 (y : BitVec 32) : IntKind.u8.wrap ((B y).tmod 256) = IntKind.u8.wrap (B y) := by
  have := B_lt y
  rw [Int.tmod_eq_emod_of_nonneg this.1, w_u8, w_u8]; omega
theorem p4_eq (x : BitVec 32) : p4 (B x) = o4 (B x) := by
  unfold p4 o4
  rw [divB x 24 16777216 rfl, divB x 16 65536 rfl, divB x 8 256 rfl, m8, m8, m8, mn24, mn16, mn8, shr_B, shr_B, shr_B]
def firstB : List (BitVec 32) := [1779033703#32, 3144134277#32, 1013904242#32, 2773480762#32, 1359893119#32, 2600822924#32, 528734635#32, 1541459225#32]
def full (s : Str) : Str := padS (s ++ [128]) ++ lbs (Tb s.length)
theorem full_len (s : Str) : (full s).length = 64 * ((full s).length / 64) ∧ (full s).length ≤ s.length + 72 ∧ (full s).length = (padS (s ++ [128])).length + 8 := by
  have := padS_len (s ++ [128])
  unfold full
  rw [List.length_append] at *
  have e : (lbs (Tb s.length)).length = 8 := rfl
  simp only [List.length_cons, List.length_nil] at *
  omega
end Go.Proofs.Ytjhelpeglgigbaa.V.M
end

section
/- Hex, read and written, in both ways. -/
namespace Go.Proofs.Ytjhelpeglgigbaa.V.M
set_option linter.unusedVariables false
set_option linter.unusedSimpArgs false
open Go Go.RowKit
theorem bn_dig (n : Nat) (h : n < 16) : bn (dig n) = if n < 10 then 48 + (n : Int) else 97 + (n : Int) - 10 := by
  have : ∀ n : Fin 16, bn (dig n.val) = if n.val < 10 then 48 + (n.val : Int) else 97 + (n.val : Int) - 10 := by decide
  exact this ⟨n, h⟩
end Go.Proofs.Ytjhelpeglgigbaa.V.M
end

section
/- Hex read back, in both ways; digests parsed in both ways. -/
namespace Go.Proofs.Ytjhelpeglgigbaa.V.M
set_option linter.unusedVariables false
set_option linter.unusedSimpArgs false
open Go Go.RowKit
def hx (c : UInt8) : Nat := if 48 ≤ c.toNat ∧ c.toNat ≤ 57 then c.toNat - 48 else if 97 ≤ c.toNat ∧ c.toNat ≤ 102 then c.toNat - 87 else 16
def un : Str → Option Str
  | [] => some []
  | [_] => none
  | a :: b :: r => if hx a < 16 ∧ hx b < 16 then (un r).map (UInt8.ofNat (16 * hx a + hx b) :: ·) else none
theorem u8_all {P : UInt8 → Prop} [DecidablePred P] (h : (List.range 256).all (fun n => decide (P (UInt8.ofNat n))) = true) (c : UInt8) : P c := by
  have := (List.all_eq_true.mp h) c.toNat (List.mem_range.mpr c.toNat_lt)
  simpa using this
abbrev dgs : Str := [48, 49, 50, 51, 52, 53, 54, 55, 56, 57, 97, 98, 99, 100, 101, 102]
theorem hx_le (c : UInt8) : hx c ≤ 16 := by unfold hx; split <;> (try split) <;> omega
theorem hx_dig (n : Nat) (h : n < 16) : hx (dig n) = n := by
  have : ∀ n : Fin 16, hx (dig n.val) = n.val := by decide
  exact this ⟨n, h⟩
theorem un_hexl (x : Str) : un (hexl x) = some x := by
  induction x with
  | nil => rfl
  | cons c x ih =>
    have hc := c.toNat_lt
    show un (dig (c.toNat / 16) :: dig (c.toNat % 16) :: hexl x) = _
    rw [un, hx_dig _ (by omega), hx_dig _ (by omega), if_pos (by omega), ih, show 16 * (c.toNat / 16) + c.toNat % 16 = c.toNat by omega]; simp
theorem un_len : ∀ (n : Nat) (s x : Str), s.length ≤ n → un s = some x → s.length = 2 * x.length := by
  intro n
  induction n with
  | zero => intro s x h e; obtain rfl : s = [] := List.length_eq_zero_iff.mp (by omega); cases e; rfl
  | succ n ih =>
    intro s x h e
    match s, e with
    | [], e => cases e; rfl
    | [_], e => cases e
    | a :: b :: r, e =>
      rw [un] at e
      split at e
      · obtain ⟨y, hy, rfl⟩ := Option.map_eq_some_iff.mp e
        have := ih r y (by simp only [List.length_cons] at h; omega) hy
        simp only [List.length_cons]; omega
      · cases e
theorem w8h (a b : UInt8) (ha : hx a < 16) (hb : hx b < 16) : IntKind.u8.wrap (IntKind.i64.wrap ((IntKind.i64.wrap ((hx a : Int) * 16)) + (hx b : Int))) = bn (UInt8.ofNat (16 * hx a + hx b)) := by
  rw [w_i64 (n := (hx a : Int) * 16) (by omega) (by omega), w_i64 (by omega) (by omega), w_u8]; unfold bn; rw [UInt8.toNat_ofNat']; omega
theorem drop2 (s : Str) (v : Nat) (h : 2 * v + 1 < s.length) : s.drop (2 * v) = s.getD (2 * v) 0 :: s.getD (2 * v + 1) 0 :: s.drop (2 * (v + 1)) := by
  rw [List.drop_eq_getElem_cons (by omega), List.drop_eq_getElem_cons (i := 2 * v + 1) (by omega), List.getD_eq_getElem?_getD, List.getD_eq_getElem?_getD, List.getElem?_eq_getElem (by omega), List.getElem?_eq_getElem (by omega)]; rfl
abbrev pfx : Str := [115, 104, 97, 50, 53, 54, 58]
def parseS (s : Str) : Str × Int := if s.take 7 = pfx then (match un (s.drop 7) with | some x => if x.length = 32 then (x, 0) else ([], 6) | none => ([], 6)) else ([], 6)
end Go.Proofs.Ytjhelpeglgigbaa.V.M
end

section
/- Octet: numbers in bytes, read and written; the loose reader; what is bound. -/
namespace Go.Proofs.Ytjhelpeglgigbaa.V.M
set_option linter.unusedVariables false
set_option linter.unusedSimpArgs false
open Go Go.RowKit
theorem cut_take {α : Type} (l : List α) (k : Nat) : cut l 0 (if (k : Int) < (l.length : Int) then (k : Int) else (l.length : Int)) = l.take k := by
  by_cases c : k < l.length
  · rw [if_pos (by omega)]; exact cut_zero l k
  · rw [if_neg (by omega), cut_zero, List.take_of_length_le (by omega), List.take_of_length_le (by omega)]
theorem cut_gd {α : Type} (l : List α) (k : Nat) : 0 ≤ (if (k : Int) < (l.length : Int) then (k : Int) else (l.length : Int)) ∧ (if (k : Int) < (l.length : Int) then (k : Int) else (l.length : Int)) ≤ (l.length : Int) := by
  split <;> omega
theorem cut_gdI {α : Type} (l : List α) (k : Int) (hk : 0 ≤ k) : 0 ≤ (if k < (l.length : Int) then k else (l.length : Int)) ∧ (if k < (l.length : Int) then k else (l.length : Int)) ≤ (l.length : Int) := by
  split <;> omega
def fewL (l : List Str) : List Str := (l.take 66).map (·.take 4100)
theorem fewL_len (l : List Str) : (fewL l).length ≤ 66 := by unfold fewL; rw [List.length_map, List.length_take]; omega
/-- What a text's bytes say, the lowest one first. -/
def wholeN : Str → Nat
  | [] => 0
  | c :: l => c.toNat + 256 * wholeN l
theorem wholeN_lt : ∀ l : Str, wholeN l < 2 ^ (8 * l.length)
  | [] => by decide
  | c :: l => by
    have := wholeN_lt l
    have hc := c.toNat_lt
    rw [wholeN, List.length_cons, show 8 * (l.length + 1) = 8 * l.length + 8 by omega, Nat.pow_add]
    omega
theorem wholeN_snoc (l : Str) (c : UInt8) : wholeN (l ++ [c]) = wholeN l + c.toNat * 2 ^ (8 * l.length) := by
  induction l with
  | nil => simp [wholeN]
  | cons a l ih => rw [List.cons_append, wholeN, wholeN, ih, List.length_cons, show 8 * (l.length + 1) = 8 * l.length + 8 by omega, Nat.pow_add, Nat.mul_add, ← Nat.mul_assoc, show 2 ^ (8 * l.length) * 2 ^ 8 = 256 * 2 ^ (8 * l.length) by omega, ← Nat.mul_assoc, Nat.mul_comm 256 c.toNat]; omega
theorem w_u64n {n : Nat} (h : n < 18446744073709551616) : IntKind.u64.wrap (n : Int) = (n : Int) := w_u64 (by omega) (by omega)
theorem or_step (n : Nat) (c : UInt8) (k : Nat) (hk : k < 8) (hn : n < 2 ^ (8 * k)) :
    IntKind.u64.wrap ((BitVec.ofInt IntKind.u64.bits (n : Int) ||| BitVec.ofInt IntKind.u64.bits (IntKind.u64.wrap ((IntKind.u64.wrap (bn c)) * 2 ^ (min (IntKind.i64.wrap (8 * (k : Int))).toNat IntKind.u64.bits)))).toNat) = ((n + c.toNat * 2 ^ (8 * k) : Nat) : Int) := by
  have hc := c.toNat_lt
  have hp : 2 ^ (8 * k) ≤ 2 ^ 56 := Nat.pow_le_pow_right (by decide) (by omega)
  have hm : c.toNat * 2 ^ (8 * k) ≤ 255 * 2 ^ 56 := Nat.mul_le_mul (by omega) hp
  have hs : n + c.toNat * 2 ^ (8 * k) < 18446744073709551616 := by
    have : c.toNat * 2 ^ (8 * k) + 2 ^ (8 * k) ≤ 256 * 2 ^ 56 := by
      have : (c.toNat + 1) * 2 ^ (8 * k) ≤ 256 * 2 ^ 56 := Nat.mul_le_mul (by omega) hp
      rw [Nat.add_mul] at this; omega
    omega
  rw [show bn c = ((c.toNat : Nat) : Int) from rfl, w_u64n (n := c.toNat) (by omega), w_i64 (by omega) (by omega), show (8 * (k : Int)).toNat = 8 * k by omega, show min (8 * k) IntKind.u64.bits = 8 * k by show min (8 * k) 64 = _; omega,
    show ((c.toNat : Int) * 2 ^ (8 * k)) = ((c.toNat * 2 ^ (8 * k) : Nat) : Int) by rw [Int.natCast_mul, Int.natCast_pow]; rfl, w_u64n (n := c.toNat * 2 ^ (8 * k)) (by omega), BitVec.toNat_or, BitVec.toNat_ofInt, BitVec.toNat_ofInt]
  show IntKind.u64.wrap (((((n : Int) % (18446744073709551616 : Int)).toNat ||| (((c.toNat * 2 ^ (8 * k) : Nat) : Int) % (18446744073709551616 : Int)).toNat : Nat)) : Int) = _
  rw [show ((n : Int) % (18446744073709551616 : Int)).toNat = n by omega, show (((c.toNat * 2 ^ (8 * k) : Nat) : Int) % (18446744073709551616 : Int)).toNat = c.toNat * 2 ^ (8 * k) by omega]
  have e := Nat.shiftLeft_add_eq_or_of_lt hn c.toNat
  rw [Nat.shiftLeft_eq] at e
  rw [Nat.or_comm, ← e, Nat.add_comm, w_u64n hs]
theorem w9_ok (s : Str) (hs : s.length ≤ 8) (suf : Str) : ∀ (pre : Str) (m : Nat), s = pre ++ suf → suf.length < m → f_octet_Whole_l9 s m ((wholeN pre : Nat) : Int) (pre.length : Int) = some (((wholeN s : Nat) : Int), (s.length : Int)) := by
  induction suf with
  | nil =>
    intro pre m h hm
    obtain ⟨m, rfl⟩ : ∃ k, m = k + 1 := ⟨m - 1, by omega⟩
    rw [List.append_nil] at h; subst h
    rw [f_octet_Whole_l9, if_neg (by simp)]
  | cons c r ih =>
    intro pre m h hm
    obtain ⟨m, rfl⟩ : ∃ k, m = k + 1 := ⟨m - 1, by omega⟩
    have hl : s.length = pre.length + 1 + r.length := by rw [h]; simp; omega
    simp only [List.length_cons] at hm
    rw [f_octet_Whole_l9, if_pos (by simp; omega)]
    have e1 : ix s (pre.length : Int) = some c := by rw [h, ix_nat]; simp
    rw [e1, Option.bind_some, gd_t _ (by rw [w_i64 (by omega) (by omega)]; omega), or_step _ _ _ (by omega) (wholeN_lt pre), Option.bind_some, w_i64 (by omega) (by omega), ← wholeN_snoc]
    have q := ih (pre ++ [c]) m (by simp [h]) (by omega)
    rw [List.length_append, List.length_singleton] at q
    exact q
theorem whole_ok (s : Str) (hs : s.length ≤ 8) : f_octet_Whole s = some (((wholeN s : Nat) : Int), 0) := by
  unfold f_octet_Whole
  rw [if_neg (by simp; omega)]
  have q := w9_ok s hs s [] ((((s.length : Int) : Int) - 0).toNat + 1) rfl (by omega)
  rw [show ((wholeN [] : Nat) : Int) = 0 from rfl, show (([] : Str).length : Int) = 0 from rfl] at q
  rw [q]; rfl
/-- The loose reader. -/
def looseG : Nat → Str → List Str → List Str × Int
  | 0, _, _ => ([], 0)
  | m + 1, s, out =>
    if s = [] then (out, 0)
    else if s.length < 2 then ([], 3)
    else if 4096 < wholeN (s.take 2) ∨ out.length = 64 then ([], 2)
    else if (s.drop 2).length < wholeN (s.take 2) then ([], 3)
    else looseG m ((s.drop 2).drop (wholeN (s.take 2))) (out ++ [(s.drop 2).take (wholeN (s.take 2))])
def looseS (s : Str) : List Str × Int := looseG (s.length + 1) s []
def sumG (p : List Str × Int) : (Str × (List Str)) ⊕ ((List Str) × Int) := if p.2 = 0 then .inl ([], p.1) else .inr p
theorem lg_nil (m : Nat) (out : List Str) : looseG (m + 1) [] out = (out, 0) := by rw [looseG, if_pos rfl]
theorem lg_one (m : Nat) (s : Str) (out : List Str) (c : s ≠ []) (c1 : s.length < 2) : looseG (m + 1) s out = ([], 3) := by rw [looseG, if_neg c, if_pos c1]
theorem lg_big (m : Nat) (s : Str) (out : List Str) (c : s ≠ []) (c1 : ¬ s.length < 2) (c2 : 4096 < wholeN (s.take 2) ∨ out.length = 64) : looseG (m + 1) s out = ([], 2) := by rw [looseG, if_neg c, if_neg c1, if_pos c2]
theorem lg_short (m : Nat) (s : Str) (out : List Str) (c : s ≠ []) (c1 : ¬ s.length < 2) (c2 : ¬ (4096 < wholeN (s.take 2) ∨ out.length = 64)) (c3 : (s.drop 2).length < wholeN (s.take 2)) : looseG (m + 1) s out = ([], 3) := by rw [looseG, if_neg c, if_neg c1, if_neg c2, if_pos c3]
theorem lg_step (m : Nat) (s : Str) (out : List Str) (c : s ≠ []) (c1 : ¬ s.length < 2) (c2 : ¬ (4096 < wholeN (s.take 2) ∨ out.length = 64)) (c3 : ¬ (s.drop 2).length < wholeN (s.take 2)) : looseG (m + 1) s out = looseG m ((s.drop 2).drop (wholeN (s.take 2))) (out ++ [(s.drop 2).take (wholeN (s.take 2))]) := by rw [looseG, if_neg c, if_neg c1, if_neg c2, if_neg c3]
end Go.Proofs.Ytjhelpeglgigbaa.V.M
end

section
/- Octet: the laws OctetBinds, OctetLong, OctetBack. -/
namespace Go.Proofs.Ytjhelpeglgigbaa.V.M
set_option linter.unusedVariables false
set_option linter.unusedSimpArgs false
open Go Go.RowKit
theorem same9_ok (a b : List Str) (hl : a.length = b.length) (hb : a.length < 9000000000000000000) (k : Nat) : ∀ (i m : Nat), i + k = a.length → k < m →
    f_ref01_Same_l9 a b m (i : Int) = some (if a.drop i = b.drop i then .inl (a.length : Int) else .inr false) := by
  induction k with
  | zero =>
    intro i m hi hm
    obtain ⟨m, rfl⟩ : ∃ k, m = k + 1 := ⟨m - 1, by omega⟩
    rw [f_ref01_Same_l9, if_neg (by simp; omega), List.drop_eq_nil_of_le (by omega), List.drop_eq_nil_of_le (by omega), if_pos rfl, show i = a.length by omega]
  | succ k ih =>
    intro i m hi hm
    obtain ⟨m, rfl⟩ : ∃ k, m = k + 1 := ⟨m - 1, by omega⟩
    rw [f_ref01_Same_l9, if_pos (by simp; omega), ix_nat, List.getElem?_eq_getElem (by omega), Option.bind_some, ix_nat, List.getElem?_eq_getElem (by omega), Option.bind_some, List.drop_eq_getElem_cons (show i < a.length by omega), List.drop_eq_getElem_cons (show i < b.length by omega)]
    by_cases c : a[i]'(by omega) = b[i]'(by omega)
    · rw [if_neg (by simp [c]), w_i64 (by omega) (by omega), show ((i : Int) + 1) = ((i + 1 : Nat) : Int) by omega, ih (i + 1) m (by omega) (by omega), c]
      congr 1
      by_cases d : a.drop (i + 1) = b.drop (i + 1)
      · rw [if_pos d, if_pos (by rw [d])]
      · rw [if_neg d, if_neg (fun h => d (List.cons.inj h).2)]
    · rw [if_pos (by simp [c]), if_neg (fun h => c (List.cons.inj h).1)]
theorem same_ok (a b : List Str) (hb : a.length < 9000000000000000000) : f_ref01_Same a b = some (decide (a = b)) := by
  unfold f_ref01_Same
  by_cases c : a.length = b.length
  · have q := same9_ok a b c hb a.length 0 ((((a.length : Int) : Int) - 0).toNat + 1) (by omega) (by omega)
    rw [show ((0 : Nat) : Int) = 0 from rfl, List.drop_zero, List.drop_zero] at q
    rw [if_neg (by simp; omega), q, Option.bind_some]
    by_cases e : a = b
    · rw [if_pos e]; simp [e]
    · rw [if_neg e]; simp [e]
  · rw [if_pos (by simp; omega)]
    have : ¬ a = b := fun h => c (by rw [h])
    simp [this]
theorem bindP_cons (x : Str) (l : List Str) : bindP (x :: l) = two x.length ++ (x ++ bindP l) := by simp [bindP]
theorem two_len (n : Nat) : (two n).length = 2 := rfl
theorem wholeN_two (n : Nat) (h : n < 65536) : wholeN (two n) = n := by
  show (UInt8.ofNat n).toNat + 256 * ((UInt8.ofNat (n / 256)).toNat + 256 * 0) = n
  rw [UInt8.toNat_ofNat', UInt8.toNat_ofNat']; omega
/-- The parts that lie whole in the first k bytes, if the cut falls between two. -/
def cutAt : List Str → Nat → Option (List Str)
  | [], _ => some []
  | x :: t, k => if k = 0 then some [] else if 2 + x.length ≤ k then (cutAt t (k - (2 + x.length))).map (x :: ·) else none
theorem cutAt_len : ∀ (t : List Str) (k : Nat) (p : List Str), cutAt t k = some p → p.length ≤ t.length
  | [], k, p, h => by cases h; simp
  | x :: t, k, p, h => by
    rw [cutAt] at h
    split at h
    · cases h; simp
    · split at h
      · obtain ⟨q, hq, rfl⟩ := Option.map_eq_some_iff.mp h
        have := cutAt_len t _ q hq
        simp; omega
      · cases h
theorem cutAt_all : ∀ (t : List Str), cutAt t (bindP t).length = some t
  | [] => rfl
  | x :: t => by
    have hl : (bindP (x :: t)).length = 2 + x.length + (bindP t).length := by rw [bindP_cons, List.length_append, List.length_append, two_len]; omega
    rw [cutAt, if_neg (by omega), if_pos (by omega), hl, show 2 + x.length + (bindP t).length - (2 + x.length) = (bindP t).length by omega, cutAt_all t]; rfl
def endG (o : Option (List Str)) (out : List Str) : List Str × Int := match o with | some p => (out ++ p, 0) | none => ([], 3)
theorem lg_bind (t : List Str) : ∀ (m k : Nat) (out : List Str), (∀ x ∈ t, x.length ≤ 4096) → out.length + t.length ≤ 64 → k ≤ (bindP t).length → k < m → looseG m ((bindP t).take k) out = endG (cutAt t k) out := by
  induction t with
  | nil =>
    intro m k out _ _ hk hm
    obtain ⟨m, rfl⟩ : ∃ k, m = k + 1 := ⟨m - 1, by omega⟩
    rw [show (bindP []).take k = ([] : Str) by simp [bindP], lg_nil]; simp [cutAt, endG]
  | cons x t ih =>
    intro m k out h1 h2 hk hm
    obtain ⟨m, rfl⟩ : ∃ k, m = k + 1 := ⟨m - 1, by omega⟩
    have hl : (bindP (x :: t)).length = 2 + x.length + (bindP t).length := by rw [bindP_cons, List.length_append, List.length_append, two_len]; omega
    have hx := h1 x (List.mem_cons_self ..)
    simp only [List.length_cons] at h2
    rw [cutAt]
    by_cases c : k = 0
    · subst c; rw [if_pos rfl, List.take_zero, lg_nil]; simp [endG]
    · rw [if_neg c]
      have hne : (bindP (x :: t)).take k ≠ [] := by
        intro h; have := congrArg List.length h; rw [List.length_take, hl] at this; simp at this; omega
      by_cases c1 : k < 2
      · rw [lg_one _ _ _ hne (by rw [List.length_take]; omega), if_neg (by omega)]; rfl
      · have hs : (bindP (x :: t)).take k = two x.length ++ (x ++ bindP t).take (k - 2) := by
          rw [bindP_cons, List.take_append, List.take_of_length_le (by rw [two_len]; omega), two_len]
        have ht : ((bindP (x :: t)).take k).take 2 = two x.length := by rw [hs]; exact List.take_left' rfl
        have hd : ((bindP (x :: t)).take k).drop 2 = (x ++ bindP t).take (k - 2) := by rw [hs]; exact List.drop_left' rfl
        have hw : wholeN (((bindP (x :: t)).take k).take 2) = x.length := by rw [ht]; exact wholeN_two _ (by omega)
        by_cases c2 : 2 + x.length ≤ k
        · rw [lg_step _ _ _ hne (by rw [List.length_take]; omega) (by rw [hw]; omega) (by rw [hw, hd, List.length_take, List.length_append]; omega), hw, hd, if_pos c2, List.take_take, List.drop_take, List.drop_left' rfl, show min x.length (k - 2) = x.length by omega, List.take_left' rfl]
          rw [show k - 2 - x.length = k - (2 + x.length) by omega, ih m (k - (2 + x.length)) (out ++ [x]) (fun y hy => h1 y (List.mem_cons_of_mem _ hy)) (by simp; omega) (by omega) (by omega)]
          cases cutAt t (k - (2 + x.length)) with
          | none => rfl
          | some p => simp [endG]
        · rw [lg_short _ _ _ hne (by rw [List.length_take]; omega) (by rw [hw]; omega) (by rw [hw, hd, List.length_take, List.length_append]; omega), if_neg c2]; rfl
theorem loose_bind (t : List Str) (h : mayP t) (k : Nat) (hk : k ≤ (bindP t).length) : looseS ((bindP t).take k) = endG (cutAt t k) [] := by
  unfold looseS
  rw [List.length_take]
  exact lg_bind t _ k [] h.2 (by have := h.1; simp; omega) hk (by omega)
def anyEnd : List Str → Nat → Nat → Bool
  | [], _, _ => false
  | x :: r, now, k => (now + (2 + x.length) == k) || anyEnd r (now + (2 + x.length)) k
theorem anyEnd_big : ∀ (t : List Str) (now k : Nat), k < now → anyEnd t now k = false
  | [], _, _, _ => rfl
  | x :: r, now, k, h => by
    rw [anyEnd, anyEnd_big r _ _ (by omega)]
    simp; omega
theorem cutAt_some : ∀ (t : List Str) (k now : Nat), k ≤ (bindP t).length → (cutAt t k).isSome = ((k == 0) || anyEnd t now (now + k))
  | [], k, now, h => by
    obtain rfl : k = 0 := by simpa [bindP] using h
    rfl
  | x :: t, k, now, h => by
    have hl : (bindP (x :: t)).length = 2 + x.length + (bindP t).length := by rw [bindP_cons, List.length_append, List.length_append, two_len]; omega
    rw [cutAt, anyEnd]
    by_cases c : k = 0
    · subst c; simp
    · rw [if_neg c]
      by_cases c2 : 2 + x.length ≤ k
      · rw [if_pos c2, Option.isSome_map, cutAt_some t (k - (2 + x.length)) (now + (2 + x.length)) (by omega), show now + (2 + x.length) + (k - (2 + x.length)) = now + k by omega]
        have e1 : (k == 0) = false := by simpa using c
        have e2 : (k - (2 + x.length) == 0) = (now + (2 + x.length) == now + k) := by rw [Bool.eq_iff_iff]; simp; omega
        rw [e1, e2]; rfl
      · rw [if_neg c2, anyEnd_big t _ _ (by omega)]
        have e1 : (k == 0) = false := by simpa using c
        have e2 : (now + (2 + x.length) == now + k) = false := by simp; omega
        rw [e1, e2]; rfl
theorem fewL_le (l : List Str) : ∀ x ∈ fewL l, x.length ≤ 4100 := by
  intro x hx
  obtain ⟨y, _, rfl⟩ := List.mem_map.mp hx
  rw [List.length_take]; omega
theorem bind_ok (t : List Str) (h : t.length ≤ 66) : f_octet_Bind t = some (bindR t) := by unfold f_octet_Bind; rw [gd_t _ (by omega)]
theorem bindR_may {t : List Str} (h : mayP t) : bindR t = (bindP t, 0) := by unfold bindR; rw [if_pos h]
theorem bindR_not {t : List Str} (h : ¬ mayP t) : bindR t = ([], 2) := by unfold bindR; rw [if_neg h]
theorem bounds_u64 {a : Int} (h : (Lit.int .u64 a).wf = true) : 0 ≤ a ∧ a ≤ 18446744073709551615 := by
  have e := (Bool.and_eq_true_iff.mp h); exact ⟨of_decide_eq_true e.1, of_decide_eq_true e.2⟩
def wideP (n : Nat) (k : Nat) : Str := (List.range k).map fun i => UInt8.ofNat (n / 2 ^ (8 * i))
theorem wideP_len (n k : Nat) : (wideP n k).length = k := by simp [wideP]
theorem wideP_succ (n k : Nat) : wideP n (k + 1) = wideP n k ++ [UInt8.ofNat (n / 2 ^ (8 * k))] := by simp [wideP, List.range_succ]
theorem wholeN_wide (n : Nat) : ∀ k, wholeN (wideP n k) = n % 2 ^ (8 * k)
  | 0 => by simp [wideP, wholeN]; omega
  | k + 1 => by
    rw [wideP_succ, wholeN_snoc, wholeN_wide n k, wideP_len, UInt8.toNat_ofNat', show 8 * (k + 1) = 8 * k + 8 by omega, Nat.pow_add, Nat.mod_mul, Nat.mul_comm (2 ^ (8 * k)) (n / 2 ^ (8 * k) % 2 ^ 8)]
theorem wide11_ok (n size : Nat) (hn : n < 2 ^ 64) (hs : size ≤ 8) (k : Nat) : ∀ (i m : Nat), i + k = size → k < m →
    f_octet_Wide_l11 (n : Int) (size : Int) m (i : Int) ((wideP n i).map bn ++ List.replicate k 0) = some ((size : Int), (wideP n size).map bn) := by
  induction k with
  | zero =>
    intro i m hi hm
    obtain ⟨m, rfl⟩ : ∃ k, m = k + 1 := ⟨m - 1, by omega⟩
    rw [f_octet_Wide_l11, if_neg (by simp; omega), show i = size by omega]; simp
  | succ k ih =>
    intro i m hi hm
    obtain ⟨m, rfl⟩ : ∃ k, m = k + 1 := ⟨m - 1, by omega⟩
    have e8 : IntKind.i64.wrap (8 * (i : Int)) = ((8 * i : Nat) : Int) := by rw [w_i64 (by omega) (by omega)]; omega
    rw [f_octet_Wide_l11, if_pos (by simp; omega), e8, gd_t _ (by omega), ix_nat, List.getElem?_append_right (by rw [List.length_map, wideP_len]; omega), List.length_map, wideP_len, Nat.sub_self, show (List.replicate (k + 1) (0 : Int))[0]? = some 0 from rfl, Option.bind_some, w_i64 (by omega) (by omega), Int.toNat_natCast, Int.toNat_natCast, show min (8 * i) IntKind.u64.bits = 8 * i by show min (8 * i) 64 = _; omega,
      List.set_append_right _ _ (by rw [List.length_map, wideP_len]; omega), List.length_map, wideP_len, Nat.sub_self, List.replicate_succ, List.set_cons_zero]
    have ev : IntKind.u8.wrap ((n : Int).fdiv (2 ^ (8 * i))) = bn (UInt8.ofNat (n / 2 ^ (8 * i))) := by
      rw [w_u8, show ((2 : Int) ^ (8 * i)) = ((2 ^ (8 * i) : Nat) : Int) by rw [Int.natCast_pow]; rfl, Int.fdiv_eq_ediv_of_nonneg _ (Int.natCast_nonneg _), ← Int.natCast_ediv]
      unfold bn; rw [UInt8.toNat_ofNat']; generalize n / 2 ^ (8 * i) = z; omega
    rw [ev]
    have q := ih (i + 1) m (by omega) (by omega)
    rw [wideP_succ, List.map_append, List.append_assoc] at q
    exact q
theorem wideN_ok (n size : Nat) (hn : n < 2 ^ 64) (hs : size ≤ 8) : f_octet_Wide (n : Int) (size : Int) = some (if size < 8 ∧ n / 2 ^ (8 * size) ≠ 0 then ([], 2) else (wideP n size, 0)) := by
  unfold f_octet_Wide
  have e8 : IntKind.i64.wrap (8 * (size : Int)) = ((8 * size : Nat) : Int) := by rw [w_i64 (by omega) (by omega)]; omega
  rw [if_neg (by simp; omega), e8, gd_t _ (fun _ => by omega), Int.toNat_natCast, show min (8 * size) IntKind.u64.bits = 8 * size by show min (8 * size) 64 = _; omega, show ((2 : Int) ^ (8 * size)) = ((2 ^ (8 * size) : Nat) : Int) by rw [Int.natCast_pow]; rfl, Int.fdiv_eq_ediv_of_nonneg _ (Int.natCast_nonneg _), ← Int.natCast_ediv]
  by_cases c : size < 8 ∧ n / 2 ^ (8 * size) ≠ 0
  · have h1 : (decide ((size : Int) < 8)) = true := decide_eq_true (by omega)
    have h2 : (((n / 2 ^ (8 * size) : Nat) : Int) != 0) = true := by rw [bne_iff_ne]; have := c.2; omega
    rw [if_pos c, h1, h2]; rfl
  · have h2 : ((decide ((size : Int) < 8)) && (((n / 2 ^ (8 * size) : Nat) : Int) != 0)) = false := by
      rw [Bool.and_eq_false_iff]
      by_cases d : size < 8
      · right; have : n / 2 ^ (8 * size) = 0 := Decidable.not_not.mp (fun h2 => c ⟨d, h2⟩); rw [this]; rfl
      · left; exact decide_eq_false (by omega)
    rw [if_neg c, if_neg (by rw [h2]; decide), gd_t _ (by omega), Int.toNat_natCast]
    have q := wide11_ok n size hn hs size 0 ((((size : Int) : Int) - 0).toNat + 1) (by omega) (by omega)
    rw [show ((0 : Nat) : Int) = 0 from rfl, show (wideP n 0).map bn = [] from rfl, List.nil_append] at q
    rw [q, Option.bind_some, nb_bn]
end Go.Proofs.Ytjhelpeglgigbaa.V.M
end

section
/- The laws DigestParses and DigestBack. -/
namespace Go.Proofs.Ytjhelpeglgigbaa.V.M
set_option linter.unusedVariables false
set_option linter.unusedSimpArgs false
open Go Go.RowKit
theorem w8r (a b : UInt8) (ha : hx a < 16) (hb : hx b < 16) : IntKind.u8.wrap (IntKind.i64.wrap ((IntKind.i64.wrap (16 * (hx a : Int))) + (hx b : Int))) = bn (UInt8.ofNat (16 * hx a + hx b)) := by
  rw [Int.mul_comm]; exact w8h a b ha hb
def refParseS (s : Str) : Str × Bool := if s.length = 71 ∧ s.take 7 = pfx then (match un (s.drop 7) with | some x => (x, true) | none => ([], false)) else ([], false)
theorem parseS_cases (s : Str) : (∃ x, parseS s = (x, 0) ∧ x.length = 32 ∧ refParseS s = (x, true)) ∨ (parseS s = ([], 6) ∧ refParseS s = ([], false)) := by
  unfold parseS refParseS
  by_cases c : s.take 7 = pfx
  · have l7 : 7 ≤ s.length := by have := congrArg List.length c; rw [List.length_take] at this; simp at this; omega
    rw [if_pos c]
    cases e : un (s.drop 7) with
    | none => right; refine ⟨rfl, ?_⟩; split <;> rfl
    | some x =>
      have l := un_len _ _ _ (Nat.le_refl _) e
      rw [List.length_drop] at l
      by_cases d : x.length = 32
      · left; exact ⟨x, by simp [d], d, by rw [if_pos ⟨by omega, c⟩]⟩
      · right; refine ⟨by simp [d], ?_⟩; rw [if_neg (by omega)]
  · right; rw [if_neg c, if_neg (fun h => c h.2)]; exact ⟨rfl, rfl⟩
end Go.Proofs.Ytjhelpeglgigbaa.V.M
end

section
/- The law DigestBack. -/
namespace Go.Proofs.Ytjhelpeglgigbaa.V.M
set_option linter.unusedVariables false
set_option linter.unusedSimpArgs false
open Go Go.RowKit
theorem take_if {α : Type} (x : List α) (n : Nat) (c : Int) (hc : c = (n : Int)) : cut x 0 (if c < (x.length : Int) then c else (x.length : Int)) = x.take n ∧ (0 ≤ (if c < (x.length : Int) then c else (x.length : Int)) ∧ (if c < (x.length : Int) then c else (x.length : Int)) ≤ (x.length : Int)) := by
  subst hc
  by_cases c : n < x.length
  · rw [if_pos (by omega)]; exact ⟨cut_zero x n, by omega⟩
  · rw [if_neg (by omega)]; refine ⟨?_, by omega⟩; rw [cut_zero, List.take_of_length_le (Nat.le_refl _), List.take_of_length_le (by omega)]
theorem join_le (n m : Nat) : ∀ l : List Str, l.length ≤ n → (∀ x ∈ l, x.length ≤ m) → (Lib.join l []).length ≤ n * m := by
  have e : ∀ l : List Str, Lib.join l [] = l.flatten := by
    intro l
    cases l with
    | nil => rfl
    | cons x r =>
      rw [Lib.join_cons, List.flatten_cons]; congr 1
      induction r with
      | nil => rfl
      | cons y r ih => simp [Lib.joinTail] at *
  intro l hl hx
  rw [e]
  have : ∀ l : List Str, (∀ x ∈ l, x.length ≤ m) → l.flatten.length ≤ l.length * m := by
    intro l
    induction l with
    | nil => intro _; simp
    | cons x l ih =>
      intro h
      have a := h x List.mem_cons_self
      have b := ih (fun y hy => h y (List.mem_cons_of_mem _ hy))
      rw [List.flatten_cons, List.length_append, List.length_cons, Nat.add_mul]; omega
  exact Nat.le_trans (this l hx) (Nat.mul_le_mul_right _ hl)
end Go.Proofs.Ytjhelpeglgigbaa.V.M
end

section
/- Names: what a part is, by both texts. -/
namespace Go.Proofs.Ytjhelpeglgigbaa.V.M
set_option linter.unusedVariables false
set_option linter.unusedSimpArgs false
open Go Go.RowKit
def sm (c : UInt8) : Bool := (decide (97 ≤ c.toNat) && decide (c.toNat ≤ 122)) || (decide (48 ≤ c.toNat) && decide (c.toNat ≤ 57))
theorem bn45 (c : UInt8) : (bn c == 45) = decide (c = 45) := u8_all (P := fun c => (bn c == 45) = decide (c = 45)) (by kernel_rfl) c
theorem bn46 (c : UInt8) : (bn c == 46) = decide (c = 46) := u8_all (P := fun c => (bn c == 46) = decide (c = 46)) (by kernel_rfl) c
theorem bn95 (c : UInt8) : (bn c == 95) = decide (c = 95) := u8_all (P := fun c => (bn c == 95) = decide (c = 95)) (by kernel_rfl) c
theorem bn47 (c : UInt8) : (bn c == 47) = decide (c = 47) := u8_all (P := fun c => (bn c == 47) = decide (c = 47)) (by kernel_rfl) c
theorem bn64 (c : UInt8) : (bn c == 64) = decide (c = 64) := u8_all (P := fun c => (bn c == 64) = decide (c = 64)) (by kernel_rfl) c
/-- The rest of a part behind the byte p, run bytes behind the last letter. -/
def partGo : Nat → UInt8 → Str → Bool
  | run, _, [] => run == 0
  | run, p, c :: l => if sm c then partGo 0 c l else if c = 45 then (if run ≠ 0 ∧ p ≠ 45 then false else partGo (run + 1) c l) else if c = 95 ∧ run = 1 ∧ p = 95 then partGo (run + 1) c l else if (c = 95 ∨ c = 46) ∧ run = 0 then partGo (run + 1) c l else false
def partS : Str → Bool
  | [] => false
  | c :: l => sm c && partGo 0 c l
theorem ix_app {α : Type} (pre : List α) (c : α) (l : List α) (n : Nat) (hn : n = pre.length) : ix (pre ++ c :: l) (n : Int) = some c := by subst hn; rw [ix_nat]; simp
theorem getD_app (pre : Str) (c : UInt8) (l : Str) (n : Nat) (hn : n = pre.length) : (pre ++ c :: l).getD n 0 = c := by subst hn; simp
theorem w_nat {n : Nat} (h : n < 9223372036854775808) : IntKind.i64.wrap (n : Int) = n := w_i64 (by omega) (by omega)
theorem w_s {n : Nat} (h : n + 1 < 9223372036854775808) : IntKind.i64.wrap ((n : Int) + 1) = ((n + 1 : Nat) : Int) := by rw [w_i64 (by omega) (by omega)]; rfl
theorem w_p {n : Nat} (h : n < 9223372036854775808) : IntKind.i64.wrap (((n + 1 : Nat) : Int) - 1) = (n : Int) := by rw [w_i64 (by omega) (by omega)]; omega
end Go.Proofs.Ytjhelpeglgigbaa.V.M
end

section
/- Ledger: disks that may be, a half's room, its head, what it tells. -/
namespace Go.Proofs.Ytjhelpeglgigbaa.V.M
set_option linter.unusedVariables false
set_option linter.unusedSimpArgs false
open Go Go.RowKit
/-- What a search says: nothing, or a place. -/
abbrev seekR (b : Bool) (r : Int ⊕ Int) : Prop := (b = true → ∃ j : Nat, r = .inr (j : Int)) ∧ (b = false → ∃ z, r = .inl z)
theorem seekS (s : List Str) (f : Str → Option Bool) (p : Str → Bool) (hf : ∀ x, f x = some (p x)) (hb : s.length < 4611686018427387904) (k : Nat) : ∀ (i m : Nat), i + k = s.length → k < m →
    ∃ r, f_slices_IndexFunc_string_string_l7 s f m (i : Int) = some r ∧ seekR ((s.drop i).any p) r := by
  induction k with
  | zero =>
    intro i m hi hm
    obtain ⟨m, rfl⟩ : ∃ k, m = k + 1 := ⟨m - 1, by omega⟩
    rw [f_slices_IndexFunc_string_string_l7, if_neg (by simp; omega), List.drop_eq_nil_of_le (by omega)]
    exact ⟨_, rfl, And.intro (fun h => by simp at h) (fun _ => ⟨(i : Int), rfl⟩)⟩
  | succ k ih =>
    intro i m hi hm
    obtain ⟨m, rfl⟩ : ∃ k, m = k + 1 := ⟨m - 1, by omega⟩
    rw [f_slices_IndexFunc_string_string_l7, if_pos (by simp; omega), ix_nat, List.getElem?_eq_getElem (by omega), Option.bind_some, hf, Option.bind_some, List.drop_eq_getElem_cons (show i < s.length by omega), List.any_cons]
    by_cases c : p (s[i]'(by omega)) = true
    · rw [if_pos c, c]; exact ⟨_, rfl, And.intro (fun _ => ⟨i, rfl⟩) (fun h => by simp at h)⟩
    · rw [if_neg c, w_s (by omega)]
      have c2 : p (s[i]'(by omega)) = false := by simpa using c
      rw [c2, Bool.false_or]
      exact ih (i + 1) m (by omega) (by omega)
theorem containsS (s : List Str) (f : Str → Option Bool) (p : Str → Bool) (hf : ∀ x, f x = some (p x)) (hb : s.length < 4611686018427387904) : f_slices_ContainsFunc_string_string s f = some (s.any p) := by
  unfold f_slices_ContainsFunc_string_string f_slices_IndexFunc_string_string
  obtain ⟨r, e, h1, h2⟩ := seekS s f p hf hb s.length 0 ((((s.length : Int) : Int) - 0).toNat + 1) (by omega) (by omega)
  rw [show ((0 : Nat) : Int) = 0 from rfl] at e
  rw [List.drop_zero] at h1 h2
  rw [e, Option.bind_some]
  cases c : s.any p with
  | true => obtain ⟨j, rfl⟩ := h1 c; exact congrArg some (decide_eq_true (Int.natCast_nonneg j))
  | false => obtain ⟨z, rfl⟩ := h2 c; rfl
theorem seekW (s : List api_Write) (f : api_Write → Option Bool) (p : api_Write → Bool) (hf : ∀ x, f x = some (p x)) (hb : s.length < 4611686018427387904) (k : Nat) : ∀ (i m : Nat), i + k = s.length → k < m →
    ∃ r, f_slices_IndexFunc_api_Write_api_Write_l7 s f m (i : Int) = some r ∧ seekR ((s.drop i).any p) r := by
  induction k with
  | zero =>
    intro i m hi hm
    obtain ⟨m, rfl⟩ : ∃ k, m = k + 1 := ⟨m - 1, by omega⟩
    rw [f_slices_IndexFunc_api_Write_api_Write_l7, if_neg (by simp; omega), List.drop_eq_nil_of_le (by omega)]
    exact ⟨_, rfl, And.intro (fun h => by simp at h) (fun _ => ⟨(i : Int), rfl⟩)⟩
  | succ k ih =>
    intro i m hi hm
    obtain ⟨m, rfl⟩ : ∃ k, m = k + 1 := ⟨m - 1, by omega⟩
    rw [f_slices_IndexFunc_api_Write_api_Write_l7, if_pos (by simp; omega), ix_nat, List.getElem?_eq_getElem (by omega), Option.bind_some, hf, Option.bind_some, List.drop_eq_getElem_cons (show i < s.length by omega), List.any_cons]
    by_cases c : p (s[i]'(by omega)) = true
    · rw [if_pos c, c]; exact ⟨_, rfl, And.intro (fun _ => ⟨i, rfl⟩) (fun h => by simp at h)⟩
    · rw [if_neg c, w_s (by omega)]
      have c2 : p (s[i]'(by omega)) = false := by simpa using c
      rw [c2, Bool.false_or]
      exact ih (i + 1) m (by omega) (by omega)
theorem containsW (s : List api_Write) (f : api_Write → Option Bool) (p : api_Write → Bool) (hf : ∀ x, f x = some (p x)) (hb : s.length < 4611686018427387904) : f_slices_ContainsFunc_api_Write_api_Write s f = some (s.any p) := by
  unfold f_slices_ContainsFunc_api_Write_api_Write f_slices_IndexFunc_api_Write_api_Write
  obtain ⟨r, e, h1, h2⟩ := seekW s f p hf hb s.length 0 ((((s.length : Int) : Int) - 0).toNat + 1) (by omega) (by omega)
  rw [show ((0 : Nat) : Int) = 0 from rfl] at e
  rw [List.drop_zero] at h1 h2
  rw [e, Option.bind_some]
  cases c : s.any p with
  | true => obtain ⟨j, rfl⟩ := h1 c; exact congrArg some (decide_eq_true (Int.natCast_nonneg j))
  | false => obtain ⟨z, rfl⟩ := h2 c; rfl
def badW (n : Int) (w : api_Write) : Bool := ((decide (w.At < 0)) || (decide (w.At ≥ n))) || ((w.Data.length : Int) != 128)
def badS (s : Str) : Bool := (s.length : Int) != 128
def okB (d : api_Disk) : Bool := (((decide ((d.Sectors.length : Int) ≥ 4)) && (decide ((d.Sectors.length : Int) ≤ 64))) && (decide ((d.Dirty.length : Int) ≤ 200))) && (!d.Sectors.any badS) && (!d.Dirty.any (badW (d.Sectors.length : Int)))
theorem well_ok (l : List api_Write) (n : Int) (hb : l.length < 4611686018427387904) : f_disk_well l n = some (!l.any (badW n)) := by
  unfold f_disk_well
  rw [containsW l (fun a0 => f_disk_well_1 a0 n) (badW n) (fun x => rfl) hb]; rfl
theorem right_ok (d : api_Disk) (h1 : d.Sectors.length < 4611686018427387904) (h2 : d.Dirty.length < 4611686018427387904) : f_disk_Right d = some (okB d) := by
  unfold f_disk_Right okB
  rw [containsS _ f_disk_Right_1 badS (fun x => rfl) h1, well_ok _ _ h2]
  generalize (((decide ((d.Sectors.length : Int) ≥ 4)) && (decide ((d.Sectors.length : Int) ≤ 64))) && (decide ((d.Dirty.length : Int) ≤ 200))) = a
  generalize d.Sectors.any badS = b
  generalize d.Dirty.any (badW (d.Sectors.length : Int)) = c
  cases a <;> cases b <;> cases c <;> rfl
/-- A disk that may be. -/
structure OkD (d : api_Disk) : Prop where
  lo : 4 ≤ d.Sectors.length
  hi : d.Sectors.length ≤ 64
  dirty : d.Dirty.length ≤ 200
  sect : ∀ s ∈ d.Sectors, s.length = 128
theorem okB_ok {d : api_Disk} (h : okB d = true) : OkD d := by
  unfold okB at h
  simp only [Bool.and_eq_true, decide_eq_true_eq, Bool.not_eq_true', List.any_eq_false] at h
  obtain ⟨⟨⟨⟨h1, h2⟩, h3⟩, h4⟩, h5⟩ := h
  refine ⟨by omega, by omega, by omega, fun s hs => ?_⟩
  have := h4 s hs
  unfold badS at this
  simp at this
  omega
theorem flat128 : ∀ (l : List Str), (∀ s ∈ l, s.length = 128) → l.flatten.length = 128 * l.length
  | [], _ => rfl
  | s :: l, h => by
    rw [List.flatten_cons, List.length_append, flat128 l (fun x hx => h x (List.mem_cons_of_mem _ hx)), h s (List.mem_cons_self ..), List.length_cons]; omega
theorem join_flat (l : List Str) : Lib.join l [] = l.flatten := by
  cases l with
  | nil => rfl
  | cons x r =>
    rw [Lib.join_cons, List.flatten_cons]
    congr 1
    unfold Lib.joinTail
    congr 1
    show List.map (fun x => [] ++ x) r = r
    simp
/-- A half's room. -/
def hf (d : api_Disk) : Nat := d.Sectors.length / 2
def roomL (d : api_Disk) (half : Nat) : List Str := (d.Sectors.drop (half * hf d + 1)).take (hf d - 1)
def roomS (d : api_Disk) (half : Nat) : Str := (roomL d half).flatten
theorem hf_le {d : api_Disk} (h : OkD d) : 2 ≤ hf d ∧ hf d ≤ 32 ∧ 2 * hf d ≤ d.Sectors.length := by
  have := h.lo; have := h.hi; unfold hf; omega
theorem roomL_len {d : api_Disk} (h : OkD d) {half : Nat} (hh : half ≤ 1) : (roomL d half).length = hf d - 1 := by
  have := hf_le h
  unfold roomL
  rw [List.length_take, List.length_drop]
  have : half * hf d ≤ hf d := by rcases Nat.le_one_iff_eq_zero_or_eq_one.mp hh with rfl | rfl <;> omega
  omega
theorem roomL_mem {d : api_Disk} {half : Nat} : ∀ s ∈ roomL d half, s ∈ d.Sectors := fun s hs => List.mem_of_mem_drop (List.mem_of_mem_take hs)
theorem roomS_len {d : api_Disk} (h : OkD d) {half : Nat} (hh : half ≤ 1) : (roomS d half).length = 128 * (hf d - 1) := by
  unfold roomS
  rw [flat128 _ (fun s hs => h.sect s (roomL_mem s hs)), roomL_len h hh]
theorem half_mul {d : api_Disk} (h : OkD d) : IntKind.i64.wrap ((d.Sectors.length : Int).tdiv 2) = (hf d : Int) := by
  have := h.hi
  rw [Int.tdiv_eq_ediv_of_nonneg (by omega), w_i64 (by omega) (by omega)]
  unfold hf; omega
theorem room_ok (d : api_Disk) (h : OkD d) (half : Nat) (hh : half ≤ 1) : f_ledger_room d (half : Int) = some (((half * hf d : Nat) : Int), roomS d half) := by
  have hl := hf_le h
  have hi := h.hi
  have hm : half * hf d ≤ hf d := by rcases Nat.le_one_iff_eq_zero_or_eq_one.mp hh with rfl | rfl <;> omega
  have hm2 : (half + 1) * hf d = half * hf d + hf d := by rw [Nat.add_mul, Nat.one_mul]
  have e1 : IntKind.i64.wrap ((half : Int) * (hf d : Int)) = ((half * hf d : Nat) : Int) := by rw [← Int.natCast_mul, w_nat (by omega)]
  have e2 : IntKind.i64.wrap (((half * hf d : Nat) : Int) + 1) = ((half * hf d + 1 : Nat) : Int) := w_s (by omega)
  have e3 : IntKind.i64.wrap ((half : Int) + 1) = ((half + 1 : Nat) : Int) := w_s (by omega)
  have e4 : IntKind.i64.wrap (((half + 1 : Nat) : Int) * (hf d : Int)) = ((half * hf d + hf d : Nat) : Int) := by rw [← Int.natCast_mul, hm2, w_nat (by omega)]
  unfold f_ledger_room
  rw [half_mul h, e1, e2, e3, e4, gd_t _ (by omega)]
  have ec : cut d.Sectors ((half * hf d + 1 : Nat) : Int) ((half * hf d + hf d : Nat) : Int) = roomL d half := by
    unfold cut roomL
    rw [Int.toNat_natCast, Int.toNat_natCast, List.take_drop, show half * hf d + 1 + (hf d - 1) = half * hf d + hf d by omega]
  rw [ec]
  have ej : f_strings_Join (roomL d half) ([] : Str) = some (roomS d half) := by
    unfold f_strings_Join
    rw [join_flat, gd_t _ ⟨by rw [roomL_len h hh]; omega, by have := roomS_len h hh; unfold roomS at this; rw [this]; omega⟩]; rfl
  rw [ej]; rfl
end Go.Proofs.Ytjhelpeglgigbaa.V.M
end

section
/- Ledger: heads, and what they tell; by both texts. -/
namespace Go.Proofs.Ytjhelpeglgigbaa.V.M
set_option linter.unusedVariables false
set_option linter.unusedSimpArgs false
open Go Go.RowKit
theorem cut_mid {α : Type} (l : List α) (a b : Nat) : cut l (a : Int) ((a + b : Nat) : Int) = (l.drop a).take b := by
  unfold cut
  rw [Int.toNat_natCast, Int.toNat_natCast, List.take_drop]
def headS (g u : Nat) : Str := (([108, 101, 100] : Str) ++ wideP g 6) ++ wideP u 3 ++ List.replicate 116 0
theorem headS_len (g u : Nat) : (headS g u).length = 128 := by simp [headS, wideP_len]
theorem head_ok (g u : Nat) (hg : g < 281474976710656) (hu : u < 16777216) : f_ledger_head (g : Int) (u : Int) = some (headS g u) := by
  unfold f_ledger_head
  have e1 : f_octet_Wide ((g : Nat) : Int) 6 = some (wideP g 6, 0) := by
    have := wideN_ok g 6 (by omega) (by omega)
    rw [if_neg (by intro h; exact h.2 (Nat.div_eq_of_lt (by omega)))] at this
    exact this
  have e2 : f_octet_Wide ((u : Nat) : Int) 3 = some (wideP u 3, 0) := by
    have := wideN_ok u 3 (by omega) (by omega)
    rw [if_neg (by intro h; exact h.2 (Nat.div_eq_of_lt (by omega)))] at this
    exact this
  rw [w_u64n (by omega), w_u64n (by omega), e1, Option.bind_some, e2, Option.bind_some]
  dsimp only
  have l1 : ((([108, 101, 100] : Str) ++ wideP g 6) ++ wideP u 3).length = 12 := by simp [wideP_len]
  have l2 : (([108, 101, 100] : Str) ++ wideP g 6).length = 9 := by simp [wideP_len]
  rw [gd_t _ (by rw [wideP_len]; omega), gd_t _ (by rw [l2, wideP_len]; omega), l1]
  have e3 : f_strings_Repeat ([0] : Str) (IntKind.i64.wrap (128 - ((12 : Nat) : Int))) = some (List.replicate 116 0) := by
    rw [w_i64 (by omega) (by omega)]
    unfold f_strings_Repeat
    rw [gd_t _ (by decide), show ((128 : Int) - ((12 : Nat) : Int)).toNat = 116 from rfl]
    have := Lib.repeatL_replicate (0 : UInt8) 1 116
    exact congrArg some this
  rw [e3, Option.bind_some, gd_t _ (by simp)]; rfl
/-- What a half's head tells; 0: nothing. -/
def secS (d : api_Disk) (half : Nat) : Str := d.Sectors.getD (half * hf d) []
def genN (s : Str) : Nat := wholeN ((s.drop 3).take 6)
def usedN (s : Str) : Nat := wholeN ((s.drop 9).take 3)
def toldB (d : api_Disk) (half : Nat) : Bool := decide (1 ≤ genN (secS d half)) && decide (genN (secS d half) ≤ 1099511627776) && decide (usedN (secS d half) ≤ 128 * (hf d - 1)) && (headS (genN (secS d half)) (usedN (secS d half)) == secS d half)
def tellsS (d : api_Disk) (half : Nat) : Nat × Nat := if toldB d half = true then (genN (secS d half), usedN (secS d half)) else (0, 0)
theorem sec_ix {d : api_Disk} (h : OkD d) {half : Nat} (hh : half ≤ 1) : ix d.Sectors ((half * hf d : Nat) : Int) = some (secS d half) ∧ (secS d half).length = 128 := by
  have hl := hf_le h
  have hm : half * hf d ≤ hf d := by rcases Nat.le_one_iff_eq_zero_or_eq_one.mp hh with rfl | rfl <;> omega
  have e : secS d half = d.Sectors[half * hf d]'(by omega) := by unfold secS; rw [List.getD_eq_getElem?_getD, List.getElem?_eq_getElem (by omega)]; rfl
  rw [ix_nat, List.getElem?_eq_getElem (by omega), e]
  exact ⟨rfl, h.sect _ (List.getElem_mem _)⟩
theorem genN_lt (s : Str) : genN s < 281474976710656 := by
  unfold genN
  have h1 := wholeN_lt ((s.drop 3).take 6)
  have h2 : ((s.drop 3).take 6).length ≤ 6 := by rw [List.length_take]; omega
  exact Nat.lt_of_lt_of_le h1 (Nat.pow_le_pow_right (by decide) (show 8 * ((s.drop 3).take 6).length ≤ 48 by omega))
theorem usedN_lt (s : Str) : usedN s < 16777216 := by
  unfold usedN
  have h1 := wholeN_lt ((s.drop 9).take 3)
  have h2 : ((s.drop 9).take 3).length ≤ 3 := by rw [List.length_take]; omega
  exact Nat.lt_of_lt_of_le h1 (Nat.pow_le_pow_right (by decide) (show 8 * ((s.drop 9).take 3).length ≤ 24 by omega))
theorem tells_ok (d : api_Disk) (h : OkD d) (half : Nat) (hh : half ≤ 1) : f_ledger_tells d (half : Int) = some (((tellsS d half).1 : Int), ((tellsS d half).2 : Int)) := by
  obtain ⟨e1, e2⟩ := sec_ix h hh
  have hl := hf_le h
  have hr := roomS_len h hh
  unfold f_ledger_tells tellsS toldB
  rw [room_ok d h half hh, Option.bind_some]
  dsimp only
  rw [e1, Option.bind_some]
  generalize secS d half = s at e2
  have c1 : cut s 3 9 = (s.drop 3).take 6 := cut_mid s 3 6
  have c2 : cut s 9 12 = (s.drop 9).take 3 := cut_mid s 9 3
  have g1 := genN_lt s
  have u1 := usedN_lt s
  rw [gd_t _ (by omega), c1, whole_ok _ (by rw [List.length_take]; omega), Option.bind_some, gd_t _ (by omega), c2, whole_ok _ (by rw [List.length_take]; omega), Option.bind_some]
  dsimp only
  rw [show wholeN ((s.drop 3).take 6) = genN s from rfl, show wholeN ((s.drop 9).take 3) = usedN s from rfl]
  rw [w_nat (n := genN s) (by omega), w_nat (n := usedN s) (by omega), head_ok _ _ g1 u1, hr, w_u64n (by omega)]
  generalize genN s = g at g1
  generalize usedN s = u at u1
  generalize 128 * (hf d - 1) = r
  by_cases a : 1 ≤ g
  · by_cases b : g ≤ 1099511627776
    · by_cases c : u ≤ r
      · have x1 : (decide ((g : Int) < 1)) = false := decide_eq_false (by omega)
        have x2 : (decide ((g : Int) > 1099511627776)) = false := decide_eq_false (by omega)
        have x3 : (decide ((u : Int) > (r : Int))) = false := decide_eq_false (by omega)
        simp only [x1, x2, x3, a, b, c, decide_true, Bool.or_self, Bool.false_or, Bool.true_and, Bool.not_false, gx, if_true, Option.bind_some]
        by_cases e : headS g u = s
        · rw [e]; simp
        · have : (headS g u == s) = false := by simpa using e
          simp [this]
      · have x3 : (decide ((u : Int) > (r : Int))) = true := decide_eq_true (by omega)
        have c' : decide (u ≤ r) = false := decide_eq_false c
        have x1 : (decide ((g : Int) < 1)) = false := decide_eq_false (by omega)
        have x2 : (decide ((g : Int) > 1099511627776)) = false := decide_eq_false (by omega)
        simp only [x1, x2, x3, a, b, c', decide_true, Bool.or_true, Bool.true_or, Bool.or_self, Bool.false_or, Bool.true_and, Bool.and_false, Bool.false_and, Bool.not_true, gx, if_true, Bool.false_eq_true, if_false, Option.bind_some]
        rfl
    · have x2 : (decide ((g : Int) > 1099511627776)) = true := decide_eq_true (by omega)
      have b' : decide (g ≤ 1099511627776) = false := decide_eq_false b
      simp [x2, b', gx]
  · have x1 : (decide ((g : Int) < 1)) = true := decide_eq_true (by omega)
    have a' : decide (1 ≤ g) = false := decide_eq_false a
    simp [x1, a', gx]
end Go.Proofs.Ytjhelpeglgigbaa.V.M
end

section
/- Ledger: the reference's half; entries, by both texts. -/
namespace Go.Proofs.Ytjhelpeglgigbaa.V.M
set_option linter.unusedVariables false
set_option linter.unusedSimpArgs false
open Go Go.RowKit
/-- Entries of bytes. -/
def entG : Nat → Str → List Str → Option (List Str)
  | 0, _, _ => none
  | m + 1, s, out =>
    if s = [] then some out
    else if s.length < 2 then none
    else if 4096 < wholeN (s.take 2) ∨ (s.drop 2).length < wholeN (s.take 2) then none
    else entG m ((s.drop 2).drop (wholeN (s.take 2))) (out ++ [(s.drop 2).take (wholeN (s.take 2))])
def entS (s : Str) : Option (List Str) := entG (s.length + 1) s []
def entR (o : Option (List Str)) : List Str × Bool := match o with | some l => (l, true) | none => ([], false)
def entX (o : Option (List Str)) : (Str × (List Str)) ⊕ ((List Str) × Bool) := match o with | some l => .inl ([], l) | none => .inr ([], false)
theorem ent10 (s0 : Str) (m : Nat) : ∀ (s : Str) (out : List Str), s.length ≤ 1000000 → s.length < m → out.length + s.length ≤ 2000000 → f_ledger_entries_l10 s0 m s out = some (entX (entG m s out)) := by
  induction m with
  | zero => intro s out _ h _; omega
  | succ m ih =>
    intro s out hs hm ho
    rw [f_ledger_entries_l10]
    by_cases c : s = []
    · subst c; rw [if_neg (by decide), entG, if_pos rfl]; rfl
    · rw [if_pos (by simp [c])]
      by_cases c1 : s.length < 2
      · rw [if_pos (by simp; omega), entG, if_neg c, if_pos c1]; rfl
      · rw [if_neg (by simp; omega), gd_t _ (by omega), show cut s 0 2 = s.take 2 from cut_zero s 2, whole_ok _ (by rw [List.length_take]; omega), Option.bind_some, gd_t _ (by omega), show cut s 2 (s.length : Int) = s.drop 2 from cut_all s 2]
        have hw := wholeN_lt (s.take 2)
        have l2 : (s.take 2).length = 2 := by rw [List.length_take]; omega
        rw [l2] at hw
        have ld : (s.drop 2).length = s.length - 2 := List.length_drop
        rw [w_u64n (n := (s.drop 2).length) (by omega)]
        by_cases c2 : 4096 < wholeN (s.take 2) ∨ (s.drop 2).length < wholeN (s.take 2)
        · rw [if_pos (by simp; omega), entG, if_neg c, if_neg c1, if_pos c2]; rfl
        · rw [if_neg (by simp; omega), gd_t _ (by dsimp only; omega), gd_t _ (by omega), gd_t _ (by dsimp only; omega), cut_all, cut_zero, entG, if_neg c, if_neg c1, if_neg c2]
          exact ih _ _ (by simp only [List.length_drop]; omega) (by simp only [List.length_drop]; omega) (by simp only [List.length_drop, List.length_append, List.length_singleton]; omega)
theorem entries_ok (s : Str) (hs : s.length ≤ 1000000) : f_ledger_entries s = some (entR (entS s)) := by
  unfold f_ledger_entries entS
  rw [ent10 s (s.length + 1) s [] hs (by omega) (by simp; omega), Option.bind_some]
  cases entG (s.length + 1) s [] <;> rfl
end Go.Proofs.Ytjhelpeglgigbaa.V.M
end

section
/- Ledger: what a disk has, by both texts. -/
namespace Go.Proofs.Ytjhelpeglgigbaa.V.M
set_option linter.unusedVariables false
set_option linter.unusedSimpArgs false
open Go Go.RowKit
def okX (s : Str) (o : Option (List Str)) (r : (Int × (List Str)) ⊕ ((List Str) × Bool)) : Prop := match o with | some l => r = .inl ((s.length : Int), l) | none => r = .inr ([], false)
abbrev zeroL : api_Ledger := api_Ledger.mk (api_Disk.mk ([] : (List Str)) ([] : (List api_Write))) 0 0 0 ([] : (List Str))
/-- The half that is told: its number, its generation, its bytes. -/
def pickS (d : api_Disk) : Nat × Nat × Nat := if (tellsS d 0).1 < (tellsS d 1).1 then (1, tellsS d 1) else (0, tellsS d 0)
def openS (d : api_Disk) : api_Ledger × Int :=
  if (!okB d) || (decide ((d.Dirty.length : Int) > 0)) then (zeroL, 1)
  else match entS ((roomS d (pickS d).1).take (pickS d).2.2) with
    | none => (zeroL, 14)
    | some l => if (pickS d).2.1 = 0 then (zeroL, 14) else (api_Ledger.mk d (pickS d).1 (pickS d).2.1 (pickS d).2.2 l, 0)
theorem tells_le (d : api_Disk) (half : Nat) : (tellsS d half).2 ≤ 128 * (hf d - 1) ∧ (tellsS d half).1 ≤ 1099511627776 ∧ ((tellsS d half).1 ≠ 0 → (tellsS d half).2 = usedN (secS d half)) ∧ ((tellsS d half).1 = 0 → (tellsS d half).2 = 0) := by
  unfold tellsS
  by_cases c : toldB d half = true
  · rw [if_pos c]
    unfold toldB at c
    simp only [Bool.and_eq_true, decide_eq_true_eq] at c
    exact ⟨c.1.2, c.1.1.2, fun _ => rfl, fun h => by have := c.1.1.1; dsimp only at h; omega⟩
  · rw [if_neg c]; exact ⟨Nat.zero_le _, Nat.zero_le _, fun h => absurd rfl h, fun _ => rfl⟩
theorem pick_le (d : api_Disk) : (pickS d).1 ≤ 1 ∧ (pickS d).2.2 ≤ 128 * (hf d - 1) := by
  unfold pickS
  split
  · exact ⟨Nat.le_refl _, (tells_le d 1).1⟩
  · exact ⟨Nat.zero_le _, (tells_le d 0).1⟩
theorem open_ok (d : api_Disk) (h1 : d.Sectors.length < 4611686018427387904) (h2 : d.Dirty.length < 4611686018427387904) : f_ledger_Open d = some (openS d) := by
  unfold f_ledger_Open openS
  rw [right_ok d h1 h2, Option.bind_some]
  by_cases c : ((!okB d) || (decide ((d.Dirty.length : Int) > 0))) = true
  · rw [if_pos c, if_pos c]
  · rw [if_neg c, if_neg c]
    have hok : OkD d := okB_ok (by cases h : okB d <;> simp [h] at c ⊢)
    have hl := hf_le hok
    have hp := pick_le d
    have hr := roomS_len hok hp.1
    have e0 : f_ledger_tells d 0 = some (((tellsS d 0).1 : Int), ((tellsS d 0).2 : Int)) := tells_ok d hok 0 (by decide)
    have e1 : f_ledger_tells d 1 = some (((tellsS d 1).1 : Int), ((tellsS d 1).2 : Int)) := tells_ok d hok 1 (by decide)
    have z0 := (tells_le d 0).2.2.2
    have el : f_ledger_Open_l11 d (((2 : Int) - 0).toNat + 1) 0 0 0 0 = some (2, ((pickS d).1 : Int), ((pickS d).2.1 : Int), ((pickS d).2.2 : Int)) := by
      show f_ledger_Open_l11 d 3 0 0 0 0 = _
      rw [f_ledger_Open_l11, if_pos (by decide), e0, Option.bind_some]
      dsimp only
      have w1 : IntKind.i64.wrap ((0 : Int) + 1) = 1 := by decide
      have w2 : IntKind.i64.wrap ((1 : Int) + 1) = 2 := by decide
      unfold pickS
      by_cases a : (tellsS d 0).1 = 0
      · rw [if_neg (by simp; omega), w1, f_ledger_Open_l11, if_pos (by decide), e1, Option.bind_some]
        dsimp only
        by_cases b : (tellsS d 0).1 < (tellsS d 1).1
        · rw [if_pos (by simp; omega), w2, f_ledger_Open_l11, if_neg (by decide), if_pos b]; rfl
        · rw [if_neg (by simp; omega), w2, f_ledger_Open_l11, if_neg (by decide), if_neg b, a, z0 a]; rfl
      · rw [if_pos (by simp; omega), w1, f_ledger_Open_l11, if_pos (by decide), e1, Option.bind_some]
        dsimp only
        by_cases b : (tellsS d 0).1 < (tellsS d 1).1
        · rw [if_pos (by simp; omega), w2, f_ledger_Open_l11, if_neg (by decide), if_pos b]; rfl
        · rw [if_neg (by simp; omega), w2, f_ledger_Open_l11, if_neg (by decide), if_neg b]; rfl
    rw [el, Option.bind_some]
    dsimp only
    rw [room_ok d hok _ hp.1, Option.bind_some]
    dsimp only
    rw [gd_t _ (by omega), cut_zero, entries_ok _ (by rw [List.length_take]; omega), Option.bind_some]
    cases entS ((roomS d (pickS d).1).take (pickS d).2.2) with
    | none => simp [entR]
    | some l =>
      by_cases a : (pickS d).2.1 = 0
      · simp [entR, a]
      · simp [entR, a]
end Go.Proofs.Ytjhelpeglgigbaa.V.M
end

section
/- Ledger: the law LedgerOpens. -/
namespace Go.Proofs.Ytjhelpeglgigbaa.V.M
set_option linter.unusedVariables false
set_option linter.unusedSimpArgs false
open Go Go.RowKit
theorem equal9_ok (a b : List Str) (hl : a.length = b.length) (hb : a.length < 9000000000000000000) (k : Nat) : ∀ (i m : Nat), i + k = a.length → k < m →
    f_slices_Equal_string_string_l9 a b m (i : Int) = some (if a.drop i = b.drop i then .inl (a.length : Int) else .inr false) := by
  induction k with
  | zero =>
    intro i m hi hm
    obtain ⟨m, rfl⟩ : ∃ k, m = k + 1 := ⟨m - 1, by omega⟩
    rw [f_slices_Equal_string_string_l9, if_neg (by simp; omega), List.drop_eq_nil_of_le (by omega), List.drop_eq_nil_of_le (by omega), if_pos rfl, show i = a.length by omega]
  | succ k ih =>
    intro i m hi hm
    obtain ⟨m, rfl⟩ : ∃ k, m = k + 1 := ⟨m - 1, by omega⟩
    rw [f_slices_Equal_string_string_l9, if_pos (by simp; omega), ix_nat, List.getElem?_eq_getElem (by omega), Option.bind_some, ix_nat, List.getElem?_eq_getElem (by omega), Option.bind_some, List.drop_eq_getElem_cons (show i < a.length by omega), List.drop_eq_getElem_cons (show i < b.length by omega)]
    by_cases c : a[i]'(by omega) = b[i]'(by omega)
    · rw [if_neg (by simp [c]), w_i64 (by omega) (by omega), show ((i : Int) + 1) = ((i + 1 : Nat) : Int) by omega, ih (i + 1) m (by omega) (by omega), c]
      congr 1
      by_cases d : a.drop (i + 1) = b.drop (i + 1)
      · rw [if_pos d, if_pos (by rw [d])]
      · rw [if_neg d, if_neg (fun h => d (List.cons.inj h).2)]
    · rw [if_pos (by simp [c]), if_neg (fun h => c (List.cons.inj h).1)]
theorem equal_ok (a b : List Str) (hb : a.length < 9000000000000000000) : f_slices_Equal_string_string a b = some (decide (a = b)) := by
  unfold f_slices_Equal_string_string
  by_cases c : a.length = b.length
  · have q := equal9_ok a b c hb a.length 0 ((((a.length : Int) : Int) - 0).toNat + 1) (by omega) (by omega)
    rw [show ((0 : Nat) : Int) = 0 from rfl, List.drop_zero, List.drop_zero] at q
    rw [if_neg (by simp; omega), q, Option.bind_some]
    by_cases e : a = b
    · rw [if_pos e]; simp [e]
    · rw [if_neg e]; simp [e]
  · rw [if_pos (by simp; omega)]
    have : ¬ a = b := fun h => c (by rw [h])
    simp [this]
theorem like9 (d : api_Disk) (hb : d.Sectors.length < 9000000000000000000) (k : Nat) : ∀ (i m : Nat), i + k = d.Sectors.length → k < m → f_ref09_Like_l9 d d m (i : Int) = some (.inl (d.Sectors.length : Int)) := by
  induction k with
  | zero =>
    intro i m hi hm
    obtain ⟨m, rfl⟩ : ∃ k, m = k + 1 := ⟨m - 1, by omega⟩
    rw [f_ref09_Like_l9, if_neg (by simp; omega), show i = d.Sectors.length by omega]
  | succ k ih =>
    intro i m hi hm
    obtain ⟨m, rfl⟩ : ∃ k, m = k + 1 := ⟨m - 1, by omega⟩
    rw [f_ref09_Like_l9, if_pos (by simp; omega), ix_nat, List.getElem?_eq_getElem (by omega), Option.bind_some, Option.bind_some, if_neg (by simp), w_i64 (by omega) (by omega), show ((i : Int) + 1) = ((i + 1 : Nat) : Int) by omega]
    exact ih (i + 1) m (by omega) (by omega)
theorem like16 (d : api_Disk) (hb : d.Dirty.length < 9000000000000000000) (k : Nat) : ∀ (i m : Nat), i + k = d.Dirty.length → k < m → f_ref09_Like_l16 d d m (i : Int) = some (.inl (d.Dirty.length : Int)) := by
  induction k with
  | zero =>
    intro i m hi hm
    obtain ⟨m, rfl⟩ : ∃ k, m = k + 1 := ⟨m - 1, by omega⟩
    rw [f_ref09_Like_l16, if_neg (by simp; omega), show i = d.Dirty.length by omega]
  | succ k ih =>
    intro i m hi hm
    obtain ⟨m, rfl⟩ : ∃ k, m = k + 1 := ⟨m - 1, by omega⟩
    rw [f_ref09_Like_l16, if_pos (by simp; omega), ix_nat, List.getElem?_eq_getElem (by omega), Option.bind_some, Option.bind_some, if_neg (by simp), w_i64 (by omega) (by omega), show ((i : Int) + 1) = ((i + 1 : Nat) : Int) by omega]
    exact ih (i + 1) m (by omega) (by omega)
theorem like_self (d : api_Disk) (h1 : d.Sectors.length < 9000000000000000000) (h2 : d.Dirty.length < 9000000000000000000) : f_ref09_Like d d = some true := by
  unfold f_ref09_Like
  have q := like9 d h1 d.Sectors.length 0 ((((d.Sectors.length : Int) : Int) - 0).toNat + 1) (by omega) (by omega)
  have q2 := like16 d h2 d.Dirty.length 0 ((((d.Dirty.length : Int) : Int) - 0).toNat + 1) (by omega) (by omega)
  rw [show ((0 : Nat) : Int) = 0 from rfl] at q q2
  rw [if_neg (by simp), q, Option.bind_some]
  dsimp only
  rw [q2]; rfl
theorem alive10 : f_law10_alive = some true := by kernel_rfl
end Go.Proofs.Ytjhelpeglgigbaa.V.M
end

section
/- Ledger: the law LedgerOpens. -/
namespace Go.Proofs.Ytjhelpeglgigbaa.V.M
set_option linter.unusedVariables false
set_option linter.unusedSimpArgs false
open Go Go.RowKit
theorem entG_len : ∀ (m : Nat) (s : Str) (out l : List Str), entG m s out = some l → l.length ≤ out.length + s.length := by
  intro m
  induction m with
  | zero => intro s out l h; cases h
  | succ m ih =>
    intro s out l h
    rw [entG] at h
    split at h
    · cases h; omega
    · split at h
      · cases h
      · split at h
        · cases h
        · have := ih _ _ _ h
          simp only [List.length_append, List.length_singleton, List.length_drop] at this
          omega
theorem openS_cases (d : api_Disk) : (openS d).2 = 0 ∧ (openS d).1.Disk = d ∧ (openS d).1.Entries.length ≤ 10000 ∨ (openS d).2 ≠ 0 ∧ (openS d).1 = zeroL := by
  unfold openS
  by_cases c : ((!okB d) || (decide ((d.Dirty.length : Int) > 0))) = true
  · rw [if_pos c]; exact .inr ⟨(by decide : (1 : Int) ≠ 0), rfl⟩
  · rw [if_neg c]
    have hok : OkD d := okB_ok (by cases h : okB d <;> simp [h] at c ⊢)
    have hl := hf_le hok
    have hr := roomS_len hok (pick_le d).1
    cases e : entS ((roomS d (pickS d).1).take (pickS d).2.2) with
    | none => exact .inr ⟨(by decide : (14 : Int) ≠ 0), rfl⟩
    | some l =>
      dsimp only
      by_cases a : (pickS d).2.1 = 0
      · rw [if_pos a]; exact .inr ⟨(by decide : (14 : Int) ≠ 0), rfl⟩
      · rw [if_neg a]
        have := entG_len _ _ _ _ e
        rw [List.length_take, List.length_nil] at this
        exact .inl ⟨rfl, rfl, by dsimp only; omega⟩
def rrB (o : api_Ledger × Int) (l : api_Ledger) : Bool := ((((o.2 == 0) && (o.1.Half == l.Half)) && (o.1.Gen == l.Gen)) && (o.1.Used == l.Used)) && decide (o.1.Entries = l.Entries)
theorem ent_le (d : api_Disk) : (openS d).1.Entries.length < 9000000000000000000 := by
  rcases openS_cases d with ⟨_, _, h⟩ | ⟨_, h⟩
  · omega
  · rw [h]; exact (by decide : ([] : List Str).length < 9000000000000000000)
theorem lright_ok (l : api_Ledger) (h1 : l.Disk.Sectors.length < 4611686018427387904) (h2 : l.Disk.Dirty.length < 4611686018427387904) : f_ledger_Right l = some (rrB (openS l.Disk) l) := by
  unfold f_ledger_Right rrB
  rw [open_ok _ h1 h2, Option.bind_some, equal_ok _ _ (ent_le _)]
  generalize (((((openS l.Disk).2 == 0) && ((openS l.Disk).1.Half == l.Half)) && ((openS l.Disk).1.Gen == l.Gen)) && ((openS l.Disk).1.Used == l.Used)) = a
  cases a <;> simp [gx]
end Go.Proofs.Ytjhelpeglgigbaa.V.M
end

section
/- Ledger: texts that are added; what is written. -/
namespace Go.Proofs.Ytjhelpeglgigbaa.V.M
set_option linter.unusedVariables false
set_option linter.unusedSimpArgs false
open Go Go.RowKit
theorem texts7_ok (l t : List Str) (ht : t.length ≤ 66) (he : ([] : List Str) ++ (cut l 0 (if 66 < (l.length : Int) then 66 else (l.length : Int))) = t) (suf : List Str) : ∀ (pre : List Str) (m : Nat), pre.length + suf.length = t.length → suf.length < m →
    f_law10_texts_l7 l m (pre.length : Int) (pre ++ suf) = some ((t.length : Int), pre ++ suf.map (·.take 4100)) := by
  induction suf with
  | nil =>
    intro pre m hl hm
    obtain ⟨m, rfl⟩ : ∃ k, m = k + 1 := ⟨m - 1, by omega⟩
    simp only [List.length_nil] at hl
    rw [f_law10_texts_l7, he, if_neg (by simp; omega), List.map_nil, show t.length = pre.length by omega]
  | cons x r ih =>
    intro pre m hl hm
    obtain ⟨m, rfl⟩ : ∃ k, m = k + 1 := ⟨m - 1, by omega⟩
    simp only [List.length_cons] at hl hm
    rw [f_law10_texts_l7, he, if_pos (by simp; omega), ix_nat, List.getElem?_append_right (Nat.le_refl _), Nat.sub_self, List.getElem?_cons_zero, Option.bind_some, Option.bind_some, gd_t _ (cut_gdI x 4100 (by decide)), show cut x 0 (if 4100 < (x.length : Int) then 4100 else (x.length : Int)) = x.take 4100 from cut_take x 4100, w_i64 (by omega) (by omega), Int.toNat_natCast, List.set_append_right _ _ (Nat.le_refl _), Nat.sub_self, List.set_cons_zero]
    have q := ih (pre ++ [x.take 4100]) m (by simp; omega) (by omega)
    rw [List.length_append, List.length_singleton] at q
    rw [show ((pre.length : Int) + 1) = ((pre.length + 1 : Nat) : Int) by omega]
    rw [show pre ++ x.take 4100 :: r = pre ++ [x.take 4100] ++ r by simp, q]; simp
theorem texts_ok (l : List Str) : f_law10_texts l = some (fewL l) := by
  unfold f_law10_texts
  have e : ([] : List Str) ++ (cut l 0 (if 66 < (l.length : Int) then 66 else (l.length : Int))) = l.take 66 := cut_take l 66
  rw [gd_t _ (cut_gdI l 66 (by decide)), show cut l 0 (if 66 < (l.length : Int) then 66 else (l.length : Int)) = l.take 66 from cut_take l 66, gd_t _ (by rw [List.length_take]; omega), List.nil_append]
  have q := texts7_ok l (l.take 66) (by rw [List.length_take]; omega) e (l.take 66) [] ((((l.take 66).length : Int) - 0).toNat + 1) (by simp) (by omega)
  rw [List.nil_append] at q
  rw [show ((([] : List Str).length : Nat) : Int) = 0 from rfl] at q
  rw [q]; rfl
end Go.Proofs.Ytjhelpeglgigbaa.V.M
end

section
/- Disks: what Save, Flush and Crash make of one. -/
namespace Go.Proofs.Ytjhelpeglgigbaa.V.M
set_option linter.unusedVariables false
set_option linter.unusedSimpArgs false
open Go Go.RowKit
/-- A write that may be, on so many sectors. -/
structure GoodW (n : Nat) (w : api_Write) : Prop where
  lo : 0 ≤ w.At
  hi : w.At < (n : Int)
  len : w.Data.length = 128
theorem badW_no {n : Nat} {w : api_Write} (h : GoodW n w) : badW (n : Int) w = false := by
  have := h.lo; have := h.hi; have := h.len
  unfold badW; simp; omega
theorem any_badW {n : Nat} {l : List api_Write} (h : ∀ w ∈ l, GoodW n w) : l.any (badW (n : Int)) = false := by
  rw [List.any_eq_false]; intro w hw; rw [badW_no (h w hw)]; decide
theorem badS_no {s : Str} (h : s.length = 128) : badS s = false := by unfold badS; simp; omega
theorem okB_true {d : api_Disk} (h : OkD d) (hw : ∀ w ∈ d.Dirty, GoodW d.Sectors.length w) : okB d = true := by
  have := h.lo; have := h.hi; have := h.dirty
  unfold okB
  rw [any_badW hw, show d.Sectors.any badS = false by rw [List.any_eq_false]; intro s hs; rw [badS_no (h.sect s hs)]; decide]
  simp; omega
theorem save_ok (d : api_Disk) (h : OkD d) (hw : ∀ w ∈ d.Dirty, GoodW d.Sectors.length w) (l : List api_Write) (hl : ∀ w ∈ l, GoodW d.Sectors.length w) (hn : d.Dirty.length + l.length ≤ 200) :
    f_disk_Save d l = some (api_Disk.mk d.Sectors (d.Dirty ++ l), 0) := by
  have := h.hi; have := h.dirty
  unfold f_disk_Save f_slices_Clip_api_Write_api_Write
  rw [right_ok d (by omega) (by omega), okB_true h hw, Option.bind_some, show gx (!(!true)) (f_disk_well l (d.Sectors.length : Int)) default = f_disk_well l (d.Sectors.length : Int) from rfl, well_ok _ _ (by omega), any_badW hl, Option.bind_some, if_neg (by decide), w_i64 (by omega) (by omega), if_neg (by simp; omega), gd_t _ (by omega), cut_zero, List.take_length, Option.bind_some, gd_t _ (by omega)]
/-- What becomes of a sector by a fate. -/
def mixS (c : Int) (new old : Str) : Str := if c = 2 then new.take 64 ++ old.drop 64 else if c = 1 then new else old
theorem mixS_len {c : Int} {a b : Str} (ha : a.length = 128) (hb : b.length = 128) : (mixS c a b).length = 128 := by
  unfold mixS; split
  · simp; omega
  · split <;> assumption
def endS (f : Nat → Int) : Nat → List api_Write → List Str → List Str
  | _, [], l => l
  | i, w :: r, l => endS f (i + 1) r (l.set w.At.toNat (mixS (f i) w.Data (l.getD w.At.toNat [])))
theorem endS_len (f : Nat → Int) : ∀ (r : List api_Write) (i : Nat) (l : List Str), (endS f i r l).length = l.length
  | [], _, _ => rfl
  | w :: r, i, l => by rw [endS, endS_len f r, List.length_set]
theorem set_sect {l : List Str} (h : ∀ s ∈ l, s.length = 128) (i : Nat) {x : Str} (hx : x.length = 128) : ∀ s ∈ l.set i x, s.length = 128 := by
  intro s hs
  rcases List.mem_or_eq_of_mem_set hs with h1 | rfl
  · exact h s h1
  · exact hx
theorem getD_sect {l : List Str} (h : ∀ s ∈ l, s.length = 128) {i : Nat} (hi : i < l.length) : (l.getD i []).length = 128 := by
  rw [List.getD_eq_getElem?_getD, List.getElem?_eq_getElem hi]; exact h _ (List.getElem_mem _)
theorem endS_sect (f : Nat → Int) : ∀ (r : List api_Write) (i : Nat) (l : List Str), (∀ s ∈ l, s.length = 128) → (∀ w ∈ r, GoodW l.length w) → ∀ s ∈ endS f i r l, s.length = 128
  | [], _, _, h, _ => h
  | w :: r, i, l, h, hw => by
    have g := hw w (List.mem_cons_self ..)
    have := g.lo; have := g.hi
    rw [endS]
    refine endS_sect f r _ _ (set_sect h _ (mixS_len g.len (getD_sect h (by omega)))) ?_
    rw [List.length_set]
    exact fun v hv => hw v (List.mem_cons_of_mem _ hv)
theorem ends12_ok (d : api_Disk) (fate : Int → Option Int) (f : Nat → Int) (hf : ∀ i : Nat, i < d.Dirty.length → fate (i : Int) = some (f i)) (hb : d.Dirty.length ≤ 200) (suf : List api_Write) : ∀ (pre : List api_Write) (m : Nat) (l : List Str), d.Dirty = pre ++ suf → suf.length < m → (∀ s ∈ l, s.length = 128) → (∀ w ∈ suf, GoodW l.length w) →
    f_disk_ends_l12 d fate m (pre.length : Int) l = some ((d.Dirty.length : Int), endS f pre.length suf l) := by
  induction suf with
  | nil =>
    intro pre m l h hm _ _
    obtain ⟨m, rfl⟩ : ∃ k, m = k + 1 := ⟨m - 1, by omega⟩
    rw [List.append_nil] at h
    rw [f_disk_ends_l12, h, if_neg (by simp)]; rfl
  | cons w r ih =>
    intro pre m l h hm hs hw
    obtain ⟨m, rfl⟩ : ∃ k, m = k + 1 := ⟨m - 1, by omega⟩
    have hl : d.Dirty.length = pre.length + 1 + r.length := by rw [h]; simp; omega
    simp only [List.length_cons] at hm
    have g := hw w (List.mem_cons_self ..)
    have g1 := g.lo; have g2 := g.hi; have g3 := g.len
    have e1 : ix d.Dirty (pre.length : Int) = some w := by rw [h, ix_nat]; simp
    have ex : ix l w.At = some (l.getD w.At.toNat []) := by
      have := ix_lt l [] w.At.toNat (by omega)
      rwa [show ((w.At.toNat : Nat) : Int) = w.At by omega] at this
    have lx := getD_sect hs (i := w.At.toNat) (by omega)
    have q := fun x : Str => fun hx : x.length = 128 => ih (pre ++ [w]) m (l.set w.At.toNat x) (by simp [h]) (by omega) (set_sect hs _ hx) (by rw [List.length_set]; exact fun v hv => hw v (List.mem_cons_of_mem _ hv))
    rw [List.length_append, List.length_singleton] at q
    have wi : IntKind.i64.wrap ((pre.length : Int) + 1) = ((pre.length + 1 : Nat) : Int) := by rw [w_i64 (by omega) (by omega)]; rfl
    rw [f_disk_ends_l12, if_pos (by simp; omega), e1, Option.bind_some, hf _ (by omega), Option.bind_some, endS, wi]
    generalize f pre.length = c
    by_cases c2 : c = 2
    · subst c2
      rw [if_pos (by decide), ex, Option.bind_some, gd_t _ (by omega)]
      have c64 : cut (l.getD w.At.toNat []) 64 ((l.getD w.At.toNat []).length : Int) = (l.getD w.At.toNat []).drop 64 := cut_all _ 64
      have l64 : ((l.getD w.At.toNat []).drop 64).length = 64 := by rw [List.length_drop]; omega
      rw [c64, l64, show IntKind.i64.wrap (128 - ((64 : Nat) : Int)) = 64 by decide, gd_t _ (by omega), show cut w.Data 0 64 = w.Data.take 64 from cut_zero _ 64, gd_t _ (by rw [List.length_take]; omega), Option.bind_some]
      have e : mixS 2 w.Data (l.getD w.At.toNat []) = w.Data.take 64 ++ (l.getD w.At.toNat []).drop 64 := by unfold mixS; rw [if_pos rfl]
      rw [← e]
      exact q _ (mixS_len g3 lx)
    · rw [if_neg (by simpa using c2)]
      by_cases c1 : c = 1
      · subst c1
        rw [if_pos (by decide), show IntKind.i64.wrap (128 - 0) = 128 by decide, gd_t _ (by omega), show cut w.Data 0 128 = w.Data from (cut_zero _ 128).trans (List.take_of_length_le (by omega)), gd_t _ (by omega), ex, Option.bind_some]
        have e : mixS 1 w.Data (l.getD w.At.toNat []) = w.Data := by unfold mixS; rw [if_neg (by decide), if_pos rfl]
        rw [e]
        exact q _ g3
      · rw [if_neg (by simpa using c1)]
        have e : mixS c w.Data (l.getD w.At.toNat []) = l.getD w.At.toNat [] := by unfold mixS; rw [if_neg c2, if_neg c1]
        have e2 : l.set w.At.toNat (l.getD w.At.toNat []) = l := by
          have hh : l.getD w.At.toNat [] = l[w.At.toNat]'(by omega) := by rw [List.getD_eq_getElem?_getD, List.getElem?_eq_getElem (by omega)]; rfl
          rw [hh]; exact List.set_getElem_self (by omega)
        rw [e]
        have := q (l.getD w.At.toNat []) lx
        rw [e2] at this ⊢
        exact this
theorem ends_ok (d : api_Disk) (h : OkD d) (hw : ∀ w ∈ d.Dirty, GoodW d.Sectors.length w) (fate : Int → Option Int) (f : Nat → Int) (hf : ∀ i : Nat, i < d.Dirty.length → fate (i : Int) = some (f i)) :
    f_disk_ends d fate = some (api_Disk.mk (endS f 0 d.Dirty d.Sectors) []) := by
  have := h.hi; have := h.dirty
  have q := ends12_ok d fate f hf h.dirty d.Dirty [] ((((d.Dirty.length : Int) : Int) - 0).toNat + 1) d.Sectors rfl (by omega) h.sect hw
  rw [show (([] : List api_Write).length : Int) = 0 from rfl, show ([] : List api_Write).length = 0 from rfl] at q
  unfold f_disk_ends f_slices_Clone_string_string
  rw [gd_t _ (by omega), Option.bind_some, q, Option.bind_some]
theorem flush_ok (d : api_Disk) (h : OkD d) (hw : ∀ w ∈ d.Dirty, GoodW d.Sectors.length w) : f_disk_Flush d = some (api_Disk.mk (endS (fun _ => 1) 0 d.Dirty d.Sectors) [], 0) := by
  have := h.hi; have := h.dirty
  unfold f_disk_Flush
  rw [right_ok d (by omega) (by omega), okB_true h hw, Option.bind_some, if_neg (by decide), ends_ok d h hw _ (fun _ => 1) (fun i _ => rfl)]; rfl
/-- Sectors behind writes to places that follow one another. -/
theorem endS_range (f : Nat → Int) (a : Nat) (g : Nat → Str) : ∀ (n k0 off : Nat) (l : List Str), a + k0 + n ≤ l.length → ∀ i : Nat,
    (endS f off ((List.range' k0 n).map fun k => api_Write.mk ((a + k : Nat) : Int) (g k)) l)[i]? = if a + k0 ≤ i ∧ i < a + k0 + n then some (mixS (f (off + (i - a - k0))) (g (i - a)) (l.getD i [])) else l[i]?
  | 0, k0, off, l, hl, i => by rw [if_neg (by omega)]; rfl
  | n + 1, k0, off, l, hl, i => by
    rw [List.range'_succ, List.map_cons, endS]
    dsimp only
    rw [Int.toNat_natCast, endS_range f a g n (k0 + 1) (off + 1) _ (by rw [List.length_set]; omega) i]
    by_cases c : i = a + k0
    · subst c
      rw [if_neg (by omega), if_pos (by omega), List.getElem?_set_self (by omega), show off + (a + k0 - a - k0) = off by omega, show a + k0 - a = k0 by omega]
    · by_cases c2 : a + (k0 + 1) ≤ i ∧ i < a + (k0 + 1) + n
      · rw [if_pos c2, if_pos (by omega), show off + 1 + (i - a - (k0 + 1)) = off + (i - a - k0) by omega, List.getD_eq_getElem?_getD, List.getElem?_set_ne (by omega), ← List.getD_eq_getElem?_getD]
      · rw [if_neg c2, if_neg (by omega), List.getElem?_set_ne (by omega)]
end Go.Proofs.Ytjhelpeglgigbaa.V.M
end

section
/- Ledger: what is laid in a half, and what its room holds then. -/
namespace Go.Proofs.Ytjhelpeglgigbaa.V.M
set_option linter.unusedVariables false
set_option linter.unusedSimpArgs false
open Go Go.RowKit
def thenS (R : Str) (used : Nat) (s : Str) : Str := R.take used ++ s ++ List.replicate (R.length - used - s.length) 0
def chunkS (t : Str) (k : Nat) : Str := (t.drop (128 * k)).take 128
/-- The sectors of a room that are written: from which, how many. -/
def outFrom (used : Nat) : Nat := used / 128
def outNum (used len : Nat) : Nat := (used + len + 127) / 128 - used / 128
def outW (at_ used len : Nat) (t : Str) : List api_Write := (List.range' (outFrom used) (outNum used len)).map fun k => api_Write.mk ((at_ + 1 + k : Nat) : Int) (chunkS t k)
theorem thenS_len {R s : Str} {used : Nat} (h : used + s.length ≤ R.length) : (thenS R used s).length = R.length := by
  unfold thenS; rw [List.length_append, List.length_append, List.length_take, List.length_replicate]; omega
theorem lay8_ok (d : api_Disk) (gen : Int) (used at_ : Nat) (R s t2 : Str) (hR : R.length ≤ 100000) (hu : used + s.length ≤ R.length) (ha : at_ ≤ 1000) (hm8 : R.length % 128 = 0) (t : Str) (ht : ((cut R 0 (used : Int)) ++ s) ++ t2 = t) (htl : t.length = R.length) (n : Nat) : ∀ (k m : Nat) (out : List api_Write), k + n = (used + s.length + 127) / 128 → n < m → out.length + n ≤ 10000 →
    ∃ z, f_ledger_lay_l8 d gen (used : Int) s ((at_ : Int), R) t2 m (k : Int) out = some (z, out ++ (List.range' k n).map fun k => api_Write.mk ((at_ + 1 + k : Nat) : Int) (chunkS t k)) := by
  induction n with
  | zero =>
    intro k m out hk hm ho
    obtain ⟨m, rfl⟩ : ∃ k, m = k + 1 := ⟨m - 1, by omega⟩
    rw [f_ledger_lay_l8, w_i64 (n := (k : Int) * 128) (by omega) (by omega), w_i64 (n := (used : Int) + (s.length : Int)) (by omega) (by omega), if_neg (by simp; omega)]
    exact ⟨(k : Int), by simp⟩
  | succ n ih =>
    intro k m out hk hm ho
    obtain ⟨m, rfl⟩ : ∃ k, m = k + 1 := ⟨m - 1, by omega⟩
    have e1 : IntKind.i64.wrap ((k : Int) + 1) = ((k + 1 : Nat) : Int) := w_s (by omega)
    have e2 : IntKind.i64.wrap (((k + 1 : Nat) : Int) * 128) = ((128 * k + 128 : Nat) : Int) := by rw [w_i64 (by omega) (by omega)]; omega
    have e3 : IntKind.i64.wrap ((k : Int) * 128) = ((128 * k : Nat) : Int) := by rw [w_i64 (by omega) (by omega)]; omega
    have e4 : IntKind.i64.wrap ((at_ : Int) + 1) = ((at_ + 1 : Nat) : Int) := w_s (by omega)
    have e5 : IntKind.i64.wrap (((at_ + 1 : Nat) : Int) + (k : Int)) = ((at_ + 1 + k : Nat) : Int) := by rw [w_i64 (by omega) (by omega)]; omega
    rw [f_ledger_lay_l8, e3, w_i64 (n := (used : Int) + (s.length : Int)) (by omega) (by omega), if_pos (by simp; omega), e1, e2]
    dsimp only
    rw [ht, gd_t _ (by omega), gd_t _ (by omega), e4, e5, cut_mid t (128 * k) 128]
    obtain ⟨z, q⟩ := ih (k + 1) m (out ++ [api_Write.mk ((at_ + 1 + k : Nat) : Int) (chunkS t k)]) (by omega) (by omega) (by simp; omega)
    refine ⟨z, q.trans ?_⟩
    rw [List.append_assoc, List.range'_succ, List.map_cons]; rfl
/-- What is laid. -/
def layS (d : api_Disk) (half gen used : Nat) (s : Str) : List (List api_Write) :=
  [if s = [] then [] else outW (half * hf d) used s.length (thenS (roomS d half) used s), [api_Write.mk ((half * hf d : Nat) : Int) (headS gen (used + s.length))]]
theorem lay_ok (d : api_Disk) (h : OkD d) (half : Nat) (hh : half ≤ 1) (gen used : Nat) (hg : gen < 281474976710656) (s : Str) (hu : used + s.length ≤ 128 * (hf d - 1)) :
    f_ledger_lay d (half : Int) (gen : Int) (used : Int) s = some (layS d half gen used s) := by
  have hl := hf_le h
  have hr := roomS_len h hh
  have hm : half * hf d ≤ hf d := by rcases Nat.le_one_iff_eq_zero_or_eq_one.mp hh with rfl | rfl <;> omega
  unfold f_ledger_lay
  rw [room_ok d h half hh, Option.bind_some]
  dsimp only
  generalize hR : roomS d half = R at hr
  have lt : (R.take used).length = used := by rw [List.length_take]; omega
  rw [gd_t _ (by omega), cut_zero, gd_t _ (by omega), w_i64 (n := (R.length : Int) - (used : Int)) (by omega) (by omega), w_i64 (n := (R.length : Int) - (used : Int) - (s.length : Int)) (by omega) (by omega)]
  have er : f_strings_Repeat ([0] : Str) ((R.length : Int) - (used : Int) - (s.length : Int)) = some (List.replicate (R.length - used - s.length) 0) := by
    unfold f_strings_Repeat
    rw [show ((R.length : Int) - (used : Int) - (s.length : Int)).toNat = R.length - used - s.length by omega, gd_t _ ⟨by omega, by omega, by simp; omega⟩]
    have := Lib.repeatL_replicate (0 : UInt8) 1 (R.length - used - s.length)
    rw [Nat.mul_one] at this
    exact congrArg some this
  have wa : IntKind.i64.wrap ((used : Int) + (s.length : Int)) = ((used + s.length : Nat) : Int) := by rw [w_i64 (by omega) (by omega)]; omega
  have wt : IntKind.i64.wrap ((used : Int).tdiv 128) = ((used / 128 : Nat) : Int) := by rw [Int.tdiv_eq_ediv_of_nonneg (by omega), w_i64 (by omega) (by omega)]; omega
  have wm : IntKind.i64.wrap (((used / 128 : Nat) : Int) * 128) = ((used / 128 * 128 : Nat) : Int) := by rw [w_i64 (by omega) (by omega)]; omega
  rw [er, Option.bind_some, gd_t _ (by rw [List.length_append, List.length_replicate]; omega), wa, wt, wm]
  obtain ⟨z, q⟩ := lay8_ok d (gen : Int) used (half * hf d) R s (List.replicate (R.length - used - s.length) 0) (by omega) (by omega) (by omega) (by omega) (thenS R used s) (by rw [cut_zero]; rfl) (thenS_len (by omega)) (outNum used s.length) (used / 128)
    ((((used + s.length : Nat) : Int) - ((used / 128 * 128 : Nat) : Int)).toNat + 1) [] (by unfold outNum; omega) (by unfold outNum; omega) (by unfold outNum; simp; omega)
  rw [q, Option.bind_some, List.nil_append, head_ok gen (used + s.length) hg (by omega)]
  unfold layS
  rw [hR]
  by_cases c : s = []
  · rw [if_pos (by simp [c]), if_pos c]; rfl
  · rw [if_neg (by simp [c]), if_neg c]; rfl
end Go.Proofs.Ytjhelpeglgigbaa.V.M
end

section
/- Ledger: a disk behind what was laid: its sectors, its rooms, its heads. -/
namespace Go.Proofs.Ytjhelpeglgigbaa.V.M
set_option linter.unusedVariables false
set_option linter.unusedSimpArgs false
open Go Go.RowKit
theorem flat_get : ∀ (L : List Str), (∀ s ∈ L, s.length = 128) → ∀ i : Nat, L.flatten[i]? = (L[i / 128]?).bind fun s => s[i % 128]?
  | [], _, i => by simp
  | x :: L, h, i => by
    have hx := h x (List.mem_cons_self ..)
    rw [List.flatten_cons, List.getElem?_append]
    by_cases c : i < 128
    · rw [if_pos (by omega), show i / 128 = 0 by omega, show i % 128 = i by omega]; rfl
    · rw [if_neg (by omega), hx, flat_get L (fun s hs => h s (List.mem_cons_of_mem _ hs)) (i - 128), show (i - 128) / 128 = i / 128 - 1 by omega, show (i - 128) % 128 = i % 128 by omega, show i / 128 = (i / 128 - 1) + 1 by omega, List.getElem?_cons_succ, Nat.add_sub_cancel]
/-- A row of sectors of one size, and the halves in it. -/
theorem room_get (d : api_Disk) (h : OkD d) {half : Nat} (hh : half ≤ 1) (i : Nat) (hi : i < 128 * (hf d - 1)) : (roomS d half)[i]? = (d.Sectors[half * hf d + 1 + i / 128]?).bind fun s => s[i % 128]? := by
  unfold roomS
  rw [flat_get _ (fun s hs => h.sect s (roomL_mem s hs))]
  unfold roomL
  rw [List.getElem?_take_of_lt (by omega), List.getElem?_drop]
theorem chunk_get (t : Str) (k j : Nat) (hj : j < 128) : (chunkS t k)[j]? = t[128 * k + j]? := by
  unfold chunkS; rw [List.getElem?_take_of_lt hj, List.getElem?_drop]
theorem chunk_len {t : Str} {k : Nat} (h : 128 * k + 128 ≤ t.length) : (chunkS t k).length = 128 := by
  unfold chunkS; rw [List.length_take, List.length_drop]; omega
theorem then_get_lo {R s : Str} {used : Nat} (h : used + s.length ≤ R.length) (i : Nat) (hi : i < used) : (thenS R used s)[i]? = R[i]? := by
  unfold thenS
  rw [List.append_assoc, List.getElem?_append_left (by rw [List.length_take]; omega), List.getElem?_take_of_lt hi]
theorem then_take {R s : Str} {used : Nat} (h : used + s.length ≤ R.length) : (thenS R used s).take (used + s.length) = R.take used ++ s := by
  unfold thenS
  rw [List.take_left' (by rw [List.length_append, List.length_take]; omega)]
/-- What is written of a room, as fates have it: sector by sector. -/
def wrote (used len k : Nat) : Prop := used / 128 ≤ k ∧ 128 * k < used + len
instance (used len k : Nat) : Decidable (wrote used len k) := inferInstanceAs (Decidable (_ ∧ _))
def crashS (f : Nat → Int) (d : api_Disk) (half used : Nat) (s : Str) : List Str := endS f 0 (if s = [] then [] else outW (half * hf d) used s.length (thenS (roomS d half) used s)) d.Sectors
theorem outW_good (d : api_Disk) (h : OkD d) {half : Nat} (hh : half ≤ 1) {used : Nat} {s : Str} (hu : used + s.length ≤ 128 * (hf d - 1)) : ∀ w ∈ (if s = [] then [] else outW (half * hf d) used s.length (thenS (roomS d half) used s)), GoodW d.Sectors.length w := by
  have hl := hf_le h
  have hm : half * hf d ≤ hf d := by rcases Nat.le_one_iff_eq_zero_or_eq_one.mp hh with rfl | rfl <;> omega
  have hr := roomS_len h hh
  split
  · intro w hw; cases hw
  · intro w hw
    unfold outW at hw
    obtain ⟨k, hk, rfl⟩ := List.mem_map.mp hw
    have := List.mem_range'_1.mp hk
    unfold outFrom outNum at this
    exact ⟨by dsimp only; omega, by dsimp only; omega, chunk_len (by rw [thenS_len (by omega), hr]; omega)⟩
theorem outW_num (a used len : Nat) (t : Str) (h : used + len ≤ 4000) : (outW a used len t).length ≤ 32 := by
  unfold outW outNum; rw [List.length_map, List.length_range']; omega
theorem crash_len (f : Nat → Int) (d : api_Disk) (half used : Nat) (s : Str) : (crashS f d half used s).length = d.Sectors.length := endS_len ..
theorem crash_get (f : Nat → Int) (d : api_Disk) (h : OkD d) {half : Nat} (hh : half ≤ 1) {used : Nat} {s : Str} (hu : used + s.length ≤ 128 * (hf d - 1)) (hs : s ≠ []) (i : Nat) :
    (crashS f d half used s)[i]? = if half * hf d + 1 + used / 128 ≤ i ∧ wrote used s.length (i - (half * hf d + 1)) then some (mixS (f (i - (half * hf d + 1) - used / 128)) (chunkS (thenS (roomS d half) used s) (i - (half * hf d + 1))) (d.Sectors.getD i [])) else d.Sectors[i]? := by
  have hl := hf_le h
  have hm : half * hf d ≤ hf d := by rcases Nat.le_one_iff_eq_zero_or_eq_one.mp hh with rfl | rfl <;> omega
  unfold crashS
  rw [if_neg hs]
  have q := endS_range f (half * hf d + 1) (chunkS (thenS (roomS d half) used s)) (outNum used s.length) (outFrom used) 0 d.Sectors (by unfold outNum outFrom; omega) i
  refine q.trans ?_
  unfold outFrom outNum wrote
  have hp : 0 < s.length := List.length_pos_iff.mpr hs
  by_cases c : half * hf d + 1 + used / 128 ≤ i ∧ used / 128 ≤ i - (half * hf d + 1) ∧ 128 * (i - (half * hf d + 1)) < used + s.length
  · rw [if_pos c, if_pos (by omega), Nat.zero_add]
  · rw [if_neg c, if_neg (by omega)]
theorem crash_get0 (f : Nat → Int) (d : api_Disk) (half used i : Nat) : (crashS f d half used [])[i]? = d.Sectors[i]? := by unfold crashS; rw [if_pos rfl]; rfl
theorem crash_sect (f : Nat → Int) (d : api_Disk) (h : OkD d) {half : Nat} (hh : half ≤ 1) {used : Nat} {s : Str} (hu : used + s.length ≤ 128 * (hf d - 1)) : ∀ x ∈ crashS f d half used s, x.length = 128 :=
  endS_sect f _ _ _ h.sect (outW_good d h hh hu)
/-- Out of the room nothing is changed. -/
theorem crash_out (f : Nat → Int) (d : api_Disk) (h : OkD d) {half : Nat} (hh : half ≤ 1) {used : Nat} {s : Str} (hu : used + s.length ≤ 128 * (hf d - 1)) (i : Nat) (hi : i < half * hf d + 1 ∨ half * hf d + hf d ≤ i) : (crashS f d half used s)[i]? = d.Sectors[i]? := by
  have hl := hf_le h
  by_cases c : s = []
  · subst c; exact crash_get0 ..
  · rw [crash_get f d h hh hu c, if_neg (by unfold wrote; omega)]
/-- Within what was used nothing is changed, whatever the fates are. -/
theorem crash_used (f : Nat → Int) (d : api_Disk) (h : OkD d) {half : Nat} (hh : half ≤ 1) {used : Nat} {s : Str} (hu : used + s.length ≤ 128 * (hf d - 1)) (i : Nat) (hi : i < used) :
    ((crashS f d half used s)[half * hf d + 1 + i / 128]?).bind (fun x => x[i % 128]?) = (roomS d half)[i]? := by
  have hl := hf_le h
  have hr := roomS_len h hh
  have hm : half * hf d ≤ hf d := by rcases Nat.le_one_iff_eq_zero_or_eq_one.mp hh with rfl | rfl <;> omega
  have hget := room_get d h hh i (by omega)
  by_cases c : s = []
  · subst c; rw [crash_get0, ← hget]
  · rw [crash_get f d h hh hu c, show half * hf d + 1 + i / 128 - (half * hf d + 1) = i / 128 by omega]
    split
    · rename_i hw
      have hlt : half * hf d + 1 + i / 128 < d.Sectors.length := by omega
      have e : d.Sectors[half * hf d + 1 + i / 128]? = some (d.Sectors.getD (half * hf d + 1 + i / 128) []) := by rw [List.getD_eq_getElem?_getD, List.getElem?_eq_getElem hlt]; rfl
      rw [e, Option.bind_some] at hget
      have lo := getD_sect h.sect hlt
      generalize d.Sectors.getD (half * hf d + 1 + i / 128) [] = old at hget lo
      have hn : (chunkS (thenS (roomS d half) used s) (i / 128))[i % 128]? = old[i % 128]? := by
        rw [chunk_get _ _ _ (by omega), show 128 * (i / 128) + i % 128 = i by omega, then_get_lo (by omega) i hi, hget]
      have ln : (chunkS (thenS (roomS d half) used s) (i / 128)).length = 128 := chunk_len (by rw [thenS_len (by omega), hr]; omega)
      generalize chunkS (thenS (roomS d half) used s) (i / 128) = new at hn ln
      rw [Option.bind_some, hget]
      unfold mixS
      split
      · rw [List.getElem?_append]
        split
        · rename_i h1; rw [List.length_take] at h1; rw [List.getElem?_take_of_lt (by omega), hn]
        · rename_i h1; rw [List.length_take] at h1; rw [List.length_take, List.getElem?_drop, show 64 + (i % 128 - min 64 new.length) = i % 128 by omega]
      · split
        · exact hn
        · rfl
    · rw [← hget]
/-- All kept: what was laid stands behind what was used. -/
theorem kept_get (d : api_Disk) (h : OkD d) {half : Nat} (hh : half ≤ 1) {used : Nat} {s : Str} (hu : used + s.length ≤ 128 * (hf d - 1)) (i : Nat) (hi : i < used + s.length) :
    ((crashS (fun _ => 1) d half used s)[half * hf d + 1 + i / 128]?).bind (fun x => x[i % 128]?) = (thenS (roomS d half) used s)[i]? := by
  have hl := hf_le h
  have hr := roomS_len h hh
  by_cases c : i < used
  · rw [crash_used _ d h hh hu i c, then_get_lo (by omega) i c]
  · have hs : s ≠ [] := by intro e; subst e; simp at hi; omega
    rw [crash_get _ d h hh hu hs, show half * hf d + 1 + i / 128 - (half * hf d + 1) = i / 128 by omega, if_pos ⟨by omega, by unfold wrote; omega⟩, Option.bind_some, show mixS 1 (chunkS (thenS (roomS d half) used s) (i / 128)) (d.Sectors.getD (half * hf d + 1 + i / 128) []) = chunkS (thenS (roomS d half) used s) (i / 128) from rfl, chunk_get _ _ _ (by omega), show 128 * (i / 128) + i % 128 = i by omega]
/-- Zeros behind what is used: they stay such. -/
def clean (R : Str) (used : Nat) : Prop := ∀ i, used ≤ i → i < R.length → R[i]? = some 0
theorem then_get_hi {R s : Str} {used : Nat} (h : used + s.length ≤ R.length) (i : Nat) (hi : used + s.length ≤ i) (hl : i < R.length) : (thenS R used s)[i]? = some 0 := by
  unfold thenS
  rw [List.getElem?_append_right (by rw [List.length_append, List.length_take]; omega), List.getElem?_replicate, if_pos (by rw [List.length_append, List.length_take]; omega)]
theorem kept_clean (d : api_Disk) (h : OkD d) {half : Nat} (hh : half ≤ 1) {used : Nat} {s : Str} (hu : used + s.length ≤ 128 * (hf d - 1)) (hc : clean (roomS d half) used) (i : Nat) (hi : i < 128 * (hf d - 1)) :
    ((crashS (fun _ => 1) d half used s)[half * hf d + 1 + i / 128]?).bind (fun x => x[i % 128]?) = (thenS (roomS d half) used s)[i]? := by
  have hl := hf_le h
  have hr := roomS_len h hh
  by_cases c : i < used + s.length
  · exact kept_get d h hh hu i c
  · rw [then_get_hi (by omega) i (by omega) (by omega)]
    by_cases hs : s = []
    · subst hs
      rw [crash_get0, ← room_get d h hh i hi]
      simp at c
      exact hc i (by omega) (by omega)
    · rw [crash_get _ d h hh hu hs, show half * hf d + 1 + i / 128 - (half * hf d + 1) = i / 128 by omega]
      split
      · rw [Option.bind_some, show mixS 1 (chunkS (thenS (roomS d half) used s) (i / 128)) (d.Sectors.getD (half * hf d + 1 + i / 128) []) = chunkS (thenS (roomS d half) used s) (i / 128) from rfl, chunk_get _ _ _ (by omega), show 128 * (i / 128) + i % 128 = i by omega]
        exact then_get_hi (by omega) i (by omega) (by omega)
      · rw [← room_get d h hh i hi]
        exact hc i (by omega) (by omega)
end Go.Proofs.Ytjhelpeglgigbaa.V.M
end

section
/- Ledger: what is told of a disk; entries behind entries; a ledger that was added to, or renewed. -/
namespace Go.Proofs.Ytjhelpeglgigbaa.V.M
set_option linter.unusedVariables false
set_option linter.unusedSimpArgs false
open Go Go.RowKit
theorem genN_head (g u : Nat) (hg : g < 281474976710656) : genN (headS g u) = g := by
  unfold genN headS
  rw [List.append_assoc, List.append_assoc, show ([108, 101, 100] : Str) ++ (wideP g 6 ++ (wideP u 3 ++ List.replicate 116 0)) = [108, 101, 100] ++ (wideP g 6 ++ (wideP u 3 ++ List.replicate 116 0)) from rfl, show List.drop 3 (([108, 101, 100] : Str) ++ (wideP g 6 ++ (wideP u 3 ++ List.replicate 116 0))) = wideP g 6 ++ (wideP u 3 ++ List.replicate 116 0) from rfl, List.take_left' (wideP_len g 6), wholeN_wide]
  exact Nat.mod_eq_of_lt hg
theorem usedN_head (g u : Nat) (hu : u < 16777216) : usedN (headS g u) = u := by
  unfold usedN headS
  rw [List.append_assoc, List.drop_left' (by simp [wideP_len]), List.take_left' (wideP_len u 3), wholeN_wide]
  exact Nat.mod_eq_of_lt hu
theorem head_tail (g u : Nat) : (headS g u).drop 64 = List.replicate 64 0 := by
  unfold headS
  rw [List.drop_append, List.drop_of_length_le (by simp [wideP_len]), List.nil_append, List.drop_replicate]
  congr 1
/-- A disk of other sectors, as many. -/
abbrev mkD (L : List Str) : api_Disk := api_Disk.mk L []
theorem hf_mk {d : api_Disk} {L : List Str} (h : L.length = d.Sectors.length) : hf (mkD L) = hf d := by unfold hf; rw [show (mkD L).Sectors = L from rfl, h]
theorem okD_mk {d : api_Disk} (h : OkD d) {L : List Str} (hl : L.length = d.Sectors.length) (hs : ∀ x ∈ L, x.length = 128) : OkD (mkD L) :=
  ⟨by show 4 ≤ L.length; rw [hl]; exact h.lo, by show L.length ≤ 64; rw [hl]; exact h.hi, by show 0 ≤ 200; decide, hs⟩
theorem secS_get {d : api_Disk} (half : Nat) : secS d half = (d.Sectors[half * hf d]?).getD [] := by unfold secS; rw [List.getD_eq_getElem?_getD]
theorem sec_mk {d : api_Disk} {L : List Str} (hl : L.length = d.Sectors.length) {half : Nat} (hg : L[half * hf d]? = d.Sectors[half * hf d]?) : secS (mkD L) half = secS d half := by
  rw [secS_get, secS_get, hf_mk hl, show (mkD L).Sectors = L from rfl, hg]
theorem tells_mk {d : api_Disk} {L : List Str} (hl : L.length = d.Sectors.length) {half : Nat} (hg : L[half * hf d]? = d.Sectors[half * hf d]?) : tellsS (mkD L) half = tellsS d half := by
  unfold tellsS toldB; rw [sec_mk hl hg, hf_mk hl]
theorem tells_head {d : api_Disk} {half gen used : Nat} (hs : secS d half = headS gen used) (h1 : 1 ≤ gen) (h2 : gen ≤ 1099511627776) (h3 : used ≤ 128 * (hf d - 1)) (h4 : used < 16777216) : tellsS d half = (gen, used) := by
  unfold tellsS toldB
  rw [hs, genN_head _ _ (by omega), usedN_head _ _ h4]
  simp [h1, h2, h3]
theorem room_take {d : api_Disk} (h : OkD d) {L : List Str} (hl : L.length = d.Sectors.length) (hs : ∀ x ∈ L, x.length = 128) {half : Nat} (hh : half ≤ 1) (n : Nat) (t : Str) (hn : n ≤ 128 * (hf d - 1)) (ht : n ≤ t.length)
    (hg : ∀ i, i < n → (L[half * hf d + 1 + i / 128]?).bind (fun x => x[i % 128]?) = t[i]?) : (roomS (mkD L) half).take n = t.take n := by
  have hok := okD_mk h hl hs
  apply List.ext_getElem?
  intro i
  by_cases c : i < n
  · rw [List.getElem?_take_of_lt c, List.getElem?_take_of_lt c, room_get _ hok hh i (by rw [hf_mk hl]; omega), hf_mk hl]
    exact hg i c
  · rw [List.getElem?_take_eq_none (by omega), List.getElem?_take_eq_none (by omega)]
/-- A ledger that a disk has. -/
structure Led (d : api_Disk) (half gen used : Nat) (es : List Str) : Prop where
  ok : OkD d
  dirty : d.Dirty = []
  pick : pickS d = (half, gen, used)
  gen0 : gen ≠ 0
  ent : entS ((roomS d half).take used) = some es
theorem Led.half_le {d : api_Disk} {half gen used : Nat} {es : List Str} (h : Led d half gen used es) : half ≤ 1 := by have := (pick_le d).1; rw [h.pick] at this; exact this
theorem Led.used_le {d : api_Disk} {half gen used : Nat} {es : List Str} (h : Led d half gen used es) : used ≤ 128 * (hf d - 1) := by have := (pick_le d).2; rw [h.pick] at this; exact this
theorem Led.tells {d : api_Disk} {half gen used : Nat} {es : List Str} (h : Led d half gen used es) : tellsS d half = (gen, used) ∧ (half = 0 → (tellsS d 1).1 ≤ gen) ∧ (half = 1 → (tellsS d 0).1 < gen) := by
  have hp := h.pick
  unfold pickS at hp
  split at hp
  · rename_i c
    obtain ⟨h1, h2⟩ := Prod.mk.inj hp
    subst h1
    rw [h2] at c
    exact ⟨h2, by omega, fun _ => c⟩
  · rename_i c
    obtain ⟨h1, h2⟩ := Prod.mk.inj hp
    subst h1
    rw [h2] at c
    exact ⟨h2, fun _ => by dsimp only at c; omega, by omega⟩
theorem Led.gen_le {d : api_Disk} {half gen used : Nat} {es : List Str} (h : Led d half gen used es) : gen ≤ 1099511627776 := by
  have := (tells_le d half).2.1; rw [h.tells.1] at this; exact this
theorem pick_of {d : api_Disk} {half gen used : Nat} (hh : half ≤ 1) (h1 : tellsS d half = (gen, used)) (h2 : half = 0 → (tellsS d 1).1 ≤ gen) (h3 : half = 1 → (tellsS d 0).1 < gen) : pickS d = (half, gen, used) := by
  unfold pickS
  rcases Nat.le_one_iff_eq_zero_or_eq_one.mp hh with rfl | rfl
  · rw [if_neg (by rw [h1]; have := h2 rfl; dsimp only; omega), h1]
  · rw [if_pos (by rw [h1]; exact h3 rfl), h1]
theorem Led.openS {d : api_Disk} {half gen used : Nat} {es : List Str} (h : Led d half gen used es) : openS d = (api_Ledger.mk d half gen used es, 0) := by
  unfold M.openS
  rw [okB_true h.ok (by rw [h.dirty]; intro w hw; cases hw), h.dirty, if_neg (by decide), h.pick]
  dsimp only
  rw [h.ent]
  dsimp only
  rw [if_neg h.gen0]
theorem open_led {d : api_Disk} (h : (openS d).2 = 0) : ∃ half gen used es, Led d half gen used es := by
  unfold openS at h
  split at h
  · exact absurd h (by decide)
  · rename_i c
    have hb : okB d = true := by cases h : okB d <;> simp [h] at c ⊢
    have hd : d.Dirty = [] := by
      rw [hb] at c; simp at c; exact c
    cases e : entS ((roomS d (pickS d).1).take (pickS d).2.2) with
    | none => rw [e] at h; exact absurd (show (14 : Int) = 0 from h) (by decide)
    | some l =>
      rw [e] at h
      dsimp only at h
      split at h
      · exact absurd h (by decide)
      · rename_i g
        exact ⟨(pickS d).1, (pickS d).2.1, (pickS d).2.2, l, okB_ok hb, hd, rfl, g, e⟩
/-- Entries behind entries. -/
theorem ent_bind : ∀ (news : List Str), (∀ x ∈ news, x.length ≤ 4096) → ∀ (m : Nat) (out : List Str), (bindP news).length < m → entG m (bindP news) out = some (out ++ news)
  | [], _, m, out, hm => by
    obtain ⟨m, rfl⟩ : ∃ k, m = k + 1 := ⟨m - 1, by omega⟩
    rw [entG, if_pos (show bindP [] = ([] : Str) from rfl), List.append_nil]
  | x :: r, h, m, out, hm => by
    obtain ⟨m, rfl⟩ : ∃ k, m = k + 1 := ⟨m - 1, by omega⟩
    have hx := h x (List.mem_cons_self ..)
    have hl : (bindP (x :: r)).length = 2 + x.length + (bindP r).length := by rw [bindP_cons, List.length_append, List.length_append, two_len]; omega
    have ht : (bindP (x :: r)).take 2 = two x.length := by rw [bindP_cons]; exact List.take_left' rfl
    have hd : (bindP (x :: r)).drop 2 = x ++ bindP r := by rw [bindP_cons]; exact List.drop_left' rfl
    rw [entG, if_neg (by intro e; rw [e] at hl; simp at hl; omega), if_neg (by omega), ht, hd, wholeN_two _ (by omega), if_neg (by rw [List.length_append]; omega), List.drop_left' rfl, List.take_left' rfl, ent_bind r (fun y hy => h y (List.mem_cons_of_mem _ hy)) m _ (by omega), List.append_assoc]; rfl
theorem ent_app (b : Str) (news : List Str) (hb : ∀ (m : Nat) (out : List Str), b.length < m → entG m b out = some (out ++ news)) : ∀ (m : Nat) (a : Str) (out l : List Str), entG m a out = some l → ∀ M, a.length + b.length < M → entG M (a ++ b) out = some (l ++ news)
  | 0, _, _, _, h, _, _ => by cases h
  | m + 1, a, out, l, h, M, hM => by
    rw [entG] at h
    by_cases c : a = []
    · rw [if_pos c] at h
      obtain rfl := Option.some.inj h
      subst c
      rw [List.nil_append]
      exact hb M out (by simp at hM; omega)
    · rw [if_neg c] at h
      by_cases c1 : a.length < 2
      · rw [if_pos c1] at h; cases h
      · rw [if_neg c1] at h
        obtain ⟨M, rfl⟩ : ∃ k, M = k + 1 := ⟨M - 1, by omega⟩
        rw [entG, if_neg (by simp [c]), if_neg (by rw [List.length_append]; omega), List.take_append_of_le_length (by omega), List.drop_append_of_le_length (by omega)]
        generalize wholeN (a.take 2) = v at h ⊢
        split at h
        · cases h
        · rename_i c2
          have ld : (a.drop 2).length = a.length - 2 := List.length_drop
          rw [if_neg (by rw [List.length_append]; omega), List.take_append_of_le_length (by omega), List.drop_append_of_le_length (by omega)]
          exact ent_app b news hb m _ _ _ h M (by rw [List.length_drop, ld]; omega)
theorem ent_add {a : Str} {es news : List Str} (h : entS a = some es) (hn : ∀ x ∈ news, x.length ≤ 4096) : entS (a ++ bindP news) = some (es ++ news) := by
  unfold entS at h ⊢
  exact ent_app (bindP news) news (ent_bind news hn) _ a [] es h _ (by rw [List.length_append]; omega)
/-- A disk behind all that was laid. -/
def newD (d : api_Disk) (half gen used : Nat) (s : Str) : api_Disk := mkD ((crashS (fun _ => 1) d half used s).set (half * hf d) (headS gen (used + s.length)))
theorem newD_len (d : api_Disk) (half gen used : Nat) (s : Str) : (newD d half gen used s).Sectors.length = d.Sectors.length := by
  show (List.set _ _ _).length = _; rw [List.length_set, crash_len]
theorem newD_sect {d : api_Disk} (h : OkD d) {half : Nat} (hh : half ≤ 1) (gen : Nat) {used : Nat} {s : Str} (hu : used + s.length ≤ 128 * (hf d - 1)) : ∀ x ∈ (newD d half gen used s).Sectors, x.length = 128 :=
  set_sect (crash_sect _ d h hh hu) _ (headS_len _ _)
theorem newD_ok {d : api_Disk} (h : OkD d) {half : Nat} (hh : half ≤ 1) (gen : Nat) {used : Nat} {s : Str} (hu : used + s.length ≤ 128 * (hf d - 1)) : OkD (newD d half gen used s) :=
  okD_mk h (newD_len d half gen used s) (newD_sect h hh gen hu)
theorem half_mul_le {d : api_Disk} {half : Nat} (hh : half ≤ 1) : half * hf d ≤ hf d := by
  rcases Nat.le_one_iff_eq_zero_or_eq_one.mp hh with rfl | rfl <;> omega
theorem newD_head {d : api_Disk} (h : OkD d) {half : Nat} (hh : half ≤ 1) (gen used : Nat) (s : Str) : secS (newD d half gen used s) half = headS gen (used + s.length) := by
  have hl := hf_le h
  have hm := half_mul_le (d := d) hh
  rw [secS_get, show hf (newD d half gen used s) = hf d from hf_mk (newD_len ..)]
  show (List.set _ _ _)[_]?.getD [] = _
  rw [List.getElem?_set_self (by rw [crash_len]; omega)]; rfl
/-- In the other half, and of the other head, nothing is changed. -/
theorem newD_other {d : api_Disk} (h : OkD d) {half : Nat} (hh : half ≤ 1) (gen : Nat) {used : Nat} {s : Str} (hu : used + s.length ≤ 128 * (hf d - 1)) (i : Nat) (hi : i < half * hf d ∨ half * hf d + hf d ≤ i) : (newD d half gen used s).Sectors[i]? = d.Sectors[i]? := by
  have hl := hf_le h
  show (List.set _ _ _)[i]? = _
  rw [List.getElem?_set_ne (by omega), crash_out _ d h hh hu i (by omega)]
theorem newD_tells_other {d : api_Disk} (h : OkD d) {half : Nat} (hh : half ≤ 1) (gen : Nat) {used : Nat} {s : Str} (hu : used + s.length ≤ 128 * (hf d - 1)) : tellsS (newD d half gen used s) (1 - half) = tellsS d (1 - half) := by
  have hl := hf_le h
  refine tells_mk (newD_len ..) (newD_other h hh gen hu _ ?_)
  rcases Nat.le_one_iff_eq_zero_or_eq_one.mp hh with rfl | rfl <;> omega
theorem newD_room {d : api_Disk} (h : OkD d) {half : Nat} (hh : half ≤ 1) (gen : Nat) {used : Nat} {s : Str} (hu : used + s.length ≤ 128 * (hf d - 1)) : (roomS (newD d half gen used s) half).take (used + s.length) = (roomS d half).take used ++ s := by
  have hl := hf_le h
  have hr := roomS_len h hh
  rw [← then_take (by omega)]
  refine room_take h (newD_len d half gen used s) (newD_sect h hh gen hu) hh _ _ hu (by rw [thenS_len (by omega)]; omega) fun i hi => ?_
  rw [show (newD d half gen used s).Sectors = (crashS (fun _ => 1) d half used s).set (half * hf d) (headS gen (used + s.length)) from rfl, List.getElem?_set_ne (by omega)]
  exact kept_get d h hh hu i hi
theorem newD_room_clean {d : api_Disk} (h : OkD d) {half : Nat} (hh : half ≤ 1) (gen : Nat) {used : Nat} {s : Str} (hu : used + s.length ≤ 128 * (hf d - 1)) (hc : clean (roomS d half) used) : roomS (newD d half gen used s) half = thenS (roomS d half) used s := by
  have hl := hf_le h
  have hr := roomS_len h hh
  have hn : (roomS (newD d half gen used s) half).length = 128 * (hf d - 1) := by rw [roomS_len (newD_ok h hh gen hu) hh, show hf (newD d half gen used s) = hf d from hf_mk (newD_len ..)]
  have ht : (thenS (roomS d half) used s).length = 128 * (hf d - 1) := by rw [thenS_len (by omega), hr]
  have q := room_take h (newD_len d half gen used s) (newD_sect h hh gen hu) hh (128 * (hf d - 1)) (thenS (roomS d half) used s) (Nat.le_refl _) (by omega) fun i hi => by
    rw [show (newD d half gen used s).Sectors = (crashS (fun _ => 1) d half used s).set (half * hf d) (headS gen (used + s.length)) from rfl, List.getElem?_set_ne (by omega)]
    exact kept_clean d h hh hu hc i hi
  rw [List.take_of_length_le (by rw [show mkD (newD d half gen used s).Sectors = newD d half gen used s from rfl, hn]; omega), List.take_of_length_le (by omega)] at q
  exact q
theorem Led.add {d : api_Disk} {half gen used : Nat} {es : List Str} (h : Led d half gen used es) {news : List Str} (hn : ∀ x ∈ news, x.length ≤ 4096) (hu : used + (bindP news).length ≤ 128 * (hf d - 1)) :
    Led (newD d half gen used (bindP news)) half gen (used + (bindP news).length) (es ++ news) := by
  have hl := hf_le h.ok
  have ht := h.tells
  have hg := h.gen_le
  have h0 := h.gen0
  have ho := newD_tells_other h.ok h.half_le gen hu
  refine ⟨newD_ok h.ok h.half_le gen hu, rfl, pick_of h.half_le (tells_head (newD_head h.ok h.half_le _ _ _) (by omega) hg (by rw [show hf (newD d half gen used (bindP news)) = hf d from hf_mk (newD_len ..)]; exact hu) (by omega)) ?_ ?_, h0, ?_⟩
  · rintro rfl; rw [ho]; exact ht.2.1 rfl
  · rintro rfl; rw [show (0 : Nat) = 1 - 1 from rfl, ho]; exact ht.2.2 rfl
  · rw [newD_room h.ok h.half_le gen hu]; exact ent_add h.ent hn
theorem Led.renew {d : api_Disk} {half gen used : Nat} {es : List Str} (h : Led d half gen used es) {news : List Str} (hn : ∀ x ∈ news, x.length ≤ 4096) (hg : gen + 1 ≤ 1099511627776) (hu : 0 + (bindP news).length ≤ 128 * (hf d - 1)) :
    Led (newD d (1 - half) (gen + 1) 0 (bindP news)) (1 - half) (gen + 1) (0 + (bindP news).length) news := by
  have hl := hf_le h.ok
  have ht := h.tells
  have h0 := h.gen0
  have hh : 1 - half ≤ 1 := by omega
  have hh1 := h.half_le
  have ho := newD_tells_other h.ok hh (gen + 1) hu
  refine ⟨newD_ok h.ok hh _ hu, rfl, pick_of hh (tells_head (newD_head h.ok hh _ _ _) (by omega) hg (by rw [show hf (newD d (1 - half) (gen + 1) 0 (bindP news)) = hf d from hf_mk (newD_len ..)]; exact hu) (by omega)) ?_ ?_, by omega, ?_⟩
  · intro e
    rw [e] at ho ⊢
    rw [show (1 : Nat) = 1 - 0 from rfl, ho, show (1 - 0 : Nat) = half by omega, ht.1]; dsimp only; omega
  · intro e
    rw [e] at ho ⊢
    rw [show (0 : Nat) = 1 - 1 from rfl, ho, show (1 - 1 : Nat) = half by omega, ht.1]; dsimp only; omega
  · rw [newD_room h.ok hh _ hu, List.take_zero, List.nil_append]
    have := ent_add (a := []) (es := []) (news := news) rfl hn
    rwa [List.nil_append, List.nil_append] at this
end Go.Proofs.Ytjhelpeglgigbaa.V.M
end
