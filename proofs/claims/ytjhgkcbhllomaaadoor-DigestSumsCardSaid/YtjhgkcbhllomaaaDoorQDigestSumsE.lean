/- Go functions compute what Lean functions do. -/
import Derived.Test.YtjhgkcbhllomaaaDoorProg
import Derived.Test.YtjhgkcbhllomaaaDoorQDigestSumsB
import Derived.Test.YtjhgkcbhllomaaaDoorQDigestSumsC
import Derived.Test.YtjhgkcbhllomaaaDoorQDigestSumsD
import Derived.KernelRfl
section
/- Go functions compute what Lean functions do. -/
namespace Go.Proofs.YtjhgkcbhllomaaaDoor.V
open Go Go.RowKit
set_option linter.unusedVariables false
set_option linter.unusedSimpArgs false
set_option maxHeartbeats 1000000
-- 40 consignor/consignorref01.Hex
def c40r0 : List Opn := [
  ⟨(some 2), none, .mv (.c (.s (.d (.str []))))⟩]
def c40r1 : List Opn := [
  ⟨(some 7), none, .bsl 1 []⟩, 
  ⟨(some 3), none, .mv (.t 7)⟩]
def c40r2 : List Opn := [
  ⟨(some 4), none, .mv (.c (.s (.d (.int .i64 0))))⟩]
def c40r3 : List Opn := [
  ⟨(some 8), none, .mv (.t 4)⟩, 
  ⟨(some 9), none, .mv (.t 0)⟩, 
  ⟨(some 10), none, .len .str (.t 9)⟩, 
  ⟨(some 11), none, .bin .lss (.t 8) (.t 10)⟩]
def c40r5 : List Opn := [
  ⟨(some 14), none, .mv (.t 0)⟩, 
  ⟨(some 15), none, .mv (.t 4)⟩, 
  ⟨(some 16), none, .idx .str (.t 14) (.t 15)⟩, 
  ⟨(some 17), none, .bin .quo (.t 16) (.c (.s (.d (.int .u8 16))))⟩, 
  ⟨(some 18), none, .mv (.t 0)⟩, 
  ⟨(some 19), none, .mv (.t 4)⟩, 
  ⟨(some 20), none, .idx .str (.t 18) (.t 19)⟩, 
  ⟨(some 21), none, .bin .rem (.t 20) (.c (.s (.d (.int .u8 16))))⟩, 
  ⟨(some 22), none, .bsl 1 [(.t 17), (.t 21)]⟩, 
  ⟨(some 23), none, .len (.sl 0) (.t 22)⟩, 
  ⟨(some 24), none, .mv (.c (.s (.d (.int .i64 0))))⟩]
def c40r6 : List Opn := [
  ⟨(some 25), none, .bin .lss (.t 24) (.t 23)⟩]
def c40r7 : List Opn := [
  ⟨(some 26), none, .iadr (.sl 1) (.t 22) (.t 24)⟩, 
  ⟨(some 27), none, .load false 1 (.t 26)⟩, 
  ⟨(some 6), none, .mv (.t 27)⟩]
def c40r8 : List Opn := [
  ⟨(some 28), none, .mv (.t 6)⟩, 
  ⟨(some 29), none, .bin .lss (.t 28) (.c (.s (.d (.int .u8 10))))⟩]
def c40r9 : List Opn := [
  ⟨(some 30), none, .mv (.t 3)⟩, 
  ⟨(some 31), none, .mv (.t 6)⟩, 
  ⟨(some 32), none, .bin .add (.c (.s (.d (.int .u8 48)))) (.t 31)⟩, 
  ⟨(some 33), none, .bsl 1 [(.t 32)]⟩, 
  ⟨(some 34), none, .app 1 1 false (.t 30) (.t 33)⟩, 
  ⟨(some 3), none, .mv (.t 34)⟩]
def c40r10 : List Opn := [
  ⟨(some 35), none, .mv (.t 3)⟩, 
  ⟨(some 36), none, .mv (.t 6)⟩, 
  ⟨(some 37), none, .bin .add (.c (.s (.d (.int .u8 97)))) (.t 36)⟩, 
  ⟨(some 38), none, .bin .sub (.t 37) (.c (.s (.d (.int .u8 10))))⟩, 
  ⟨(some 39), none, .bsl 1 [(.t 38)]⟩, 
  ⟨(some 40), none, .app 1 1 false (.t 35) (.t 39)⟩, 
  ⟨(some 3), none, .mv (.t 40)⟩]
def c40r11 : List Opn := [
  ⟨(some 41), none, .bin .add (.t 24) (.c (.s (.d (.int .i64 1))))⟩, 
  ⟨(some 24), none, .mv (.t 41)⟩]
def c40l11 : C := .seq (.reg c40r6 none [0, 3, 4, 22, 23, 24, 25]) (.seq (.cond (.t 25) (.skip) (.exit 2)) (.seq (.blk 3 (.seq (.reg c40r7 none [0, 3, 4, 6, 22, 23, 24]) (.seq (.reg c40r8 none [0, 3, 4, 6, 22, 23, 24, 29]) (.cond (.t 29) (.reg c40r9 none [0, 3, 4, 22, 23, 24]) (.reg c40r10 none [0, 3, 4, 22, 23, 24]))))) (.reg c40r11 none [0, 3, 4, 22, 23, 24])))
def c40r4 : List Opn := [
  ⟨(some 12), none, .mv (.t 4)⟩, 
  ⟨(some 13), none, .bin .add (.t 12) (.c (.s (.d (.int .i64 1))))⟩, 
  ⟨(some 4), none, .mv (.t 13)⟩]
def c40l13 : C := .seq (.seq (.reg c40r3 none [0, 3, 4, 11]) (.cond (.t 11) (.skip) (.exit 0))) (.seq (.blk 1 (.seq (.reg c40r5 (some [0, 0, 3, 7, 0, 0, 48, 112, 255, 511, 0]) [0, 3, 4, 22, 23, 24]) (.blk 2 (.loop c40l11)))) (.reg c40r4 none [0, 3, 4]))
def c40r12 : List Opn := [
  ⟨(some 42), none, .mv (.t 3)⟩, 
  ⟨(some 43), none, .cv .b2s (.t 42)⟩, 
  ⟨(some 2), none, .mv (.t 43)⟩]
def c40 : C := .seq (.reg c40r0 none [0]) (.seq (.reg c40r1 none [0, 3]) (.seq (.seq (.reg c40r2 none [0, 3, 4]) (.blk 0 (.loop c40l13))) (.seq (.reg c40r12 none [2]) (.ret))))
def k40 : List (Nat × List Nat) := [(12, [2]), (4, [0, 3, 4]), (11, [0, 3, 4, 22, 23, 24]), (9, [0, 3, 4, 22, 23, 24]), (10, [0, 3, 4, 22, 23, 24]), (8, [0, 3, 4, 6, 22, 23, 24, 29]), (7, [0, 3, 4, 6, 22, 23, 24]), (6, [0, 3, 4, 22, 23, 24, 25]), (5, [0, 3, 4, 22, 23, 24]), (3, [0, 3, 4, 11]), (2, [0, 3, 4]), (1, [0, 3]), (0, [0])]
theorem cc40 : (Tryd.f40.body).bind (cC Tryd.prog 44 k40) = some c40 := by kernel_rfl
def rv40 : List RV := [.t 2]
theorem cr40 : cRVs Tryd.prog Tryd.f40.results.toList = some rv40 := by kernel_rfl
theorem f_ref01_Hex_l11_ok (s : Str) (i : Int) (b : (List Int)) (c : UInt8) (c2 : UInt8) (y_ : Str) (R_ : St → Prop) (hR : (Ret Tryd.prog glP [] rv40 (.b (.s (.d (.str y_))))) = R_) : ∀ (m_ : Nat) (v24 : Int) (b2 : (List Int)) (res_ : Int × (List Int)) (h : f_ref01_Hex_l11 s i b c c2 m_ v24 b2 = some res_) (k_ : List It) (hx : ∀ s_ : Int × (List Int), res_ = s_ → W Tryd.prog glP 44 k_ ⟨lkT [(0, .b (.s (.d (.str s)))), (3, .b (.s (.own 7 s_.2.length))), (4, .b (.s (.d (.int .i64 i)))), (22, .b (.s (.own 22 2))), (23, .b (.s (.d (.int .i64 2)))), (24, .b (.s (.d (.int .i64 s_.1))))], lkG [(7, ⟨1, er (eI .u8) s_.2, false⟩), (22, ⟨1, er (eI .u8) ([(IntKind.u8.wrap ((bn c).tdiv 16)), ((bn c2).tmod 16)] : List Int), false⟩)]⟩ R_), W Tryd.prog glP 44 (.c c40l11 :: .lp c40l11 :: .blk 2 :: k_) ⟨lkT [(0, .b (.s (.d (.str s)))), (3, .b (.s (.own 7 b2.length))), (4, .b (.s (.d (.int .i64 i)))), (22, .b (.s (.own 22 2))), (23, .b (.s (.d (.int .i64 2)))), (24, .b (.s (.d (.int .i64 v24))))], lkG [(7, ⟨1, er (eI .u8) b2, false⟩), (22, ⟨1, er (eI .u8) ([(IntKind.u8.wrap ((bn c).tdiv 16)), ((bn c2).tmod 16)] : List Int), false⟩)]⟩ R_ := by
  intro m_; induction m_ with
  | zero => intro v24 b2 res_ h; rw [f_ref01_Hex_l11.eq_1] at h; cases h
  | succ m_ ih =>
    intro v24 b2 res_ h k_ hx; rw [f_ref01_Hex_l11.eq_2] at h; refine W.cdef c40l11.eq_1 ?_
    refine .seq ?_
    refine Rw.walk ?_
    simp only [wz, wd, ws, Nat.reduceAdd, Nat.reduceSub, Nat.reduceMul, Nat.reduceLeDiff, Nat.reduceEqDiff, Nat.reduceLT, Nat.reduceBEq, reduceIte, reduceCtorEq, Int.reduceToNat, Nat.reduceShiftRight, Nat.reduceAnd, Nat.reduceBneDiff, Nat.reduceBNe, c40r6, semI.eq_10, semI.eq_11, semI.eq_3, semI.eq_5, semI.eq_7]
    refine .seq ?_
    refine .cond (p := (decide (v24 < 2))) (by first | rfl | simp only [wz, wd, ws, Nat.reduceAdd, Nat.reduceSub, Nat.reduceMul, Nat.reduceLeDiff, Nat.reduceEqDiff, Nat.reduceLT, Nat.reduceBEq, reduceIte, reduceCtorEq, Int.reduceToNat, Nat.reduceShiftRight, Nat.reduceAnd, Nat.reduceBneDiff, Nat.reduceBNe]) (fun h1 => ?_) (fun h1 => ?_)
    · rw [ite_t h1] at h
      refine .skip ?_
      refine .seq ?_
      refine .blk ?_
      refine .seq ?_
      refine Rw.walk ?_
      simp only [wz, wd, ws, Nat.reduceAdd, Nat.reduceSub, Nat.reduceMul, Nat.reduceLeDiff, Nat.reduceEqDiff, Nat.reduceLT, Nat.reduceBEq, reduceIte, reduceCtorEq, Int.reduceToNat, Nat.reduceShiftRight, Nat.reduceAnd, Nat.reduceBneDiff, Nat.reduceBNe, c40r7, semI.eq_10, semI.eq_11, semI.eq_3, semI.eq_5, semI.eq_7]
      obtain ⟨x, e3, h⟩ := Option.bind_eq_some_iff.1 h
      refine Go1.of (sem_iadrO (l := ([(IntKind.u8.wrap ((bn c).tdiv 16)), ((bn c2).tmod 16)] : List Int)) e3 (by rfl) (by rfl) (by rfl)) ?_
      simp only [wz, wd, ws, Nat.reduceAdd, Nat.reduceSub, Nat.reduceMul, Nat.reduceLeDiff, Nat.reduceEqDiff, Nat.reduceLT, Nat.reduceBEq, reduceIte, reduceCtorEq, Int.reduceToNat, Nat.reduceShiftRight, Nat.reduceAnd, Nat.reduceBneDiff, Nat.reduceBNe, c40r7, semI.eq_10, semI.eq_11, semI.eq_3, semI.eq_5, semI.eq_7, er_get e3]
      refine .seq ?_
      refine Rw.walk ?_
      simp only [wz, wd, ws, Nat.reduceAdd, Nat.reduceSub, Nat.reduceMul, Nat.reduceLeDiff, Nat.reduceEqDiff, Nat.reduceLT, Nat.reduceBEq, reduceIte, reduceCtorEq, Int.reduceToNat, Nat.reduceShiftRight, Nat.reduceAnd, Nat.reduceBneDiff, Nat.reduceBNe, c40r8, semI.eq_10, semI.eq_11, semI.eq_3, semI.eq_5, semI.eq_7, er_get e3]
      refine .cond (p := (decide (x < 10))) (by first | rfl | simp only [wz, wd, ws, Nat.reduceAdd, Nat.reduceSub, Nat.reduceMul, Nat.reduceLeDiff, Nat.reduceEqDiff, Nat.reduceLT, Nat.reduceBEq, reduceIte, reduceCtorEq, Int.reduceToNat, Nat.reduceShiftRight, Nat.reduceAnd, Nat.reduceBneDiff, Nat.reduceBNe]) (fun h1 => ?_) (fun h1 => ?_)
      · rw [ite_t h1] at h
        refine Rw.walk ?_
        simp only [wz, wd, ws, Nat.reduceAdd, Nat.reduceSub, Nat.reduceMul, Nat.reduceLeDiff, Nat.reduceEqDiff, Nat.reduceLT, Nat.reduceBEq, reduceIte, reduceCtorEq, Int.reduceToNat, Nat.reduceShiftRight, Nat.reduceAnd, Nat.reduceBneDiff, Nat.reduceBNe, c40r9, semI.eq_10, semI.eq_11, semI.eq_3, semI.eq_5, semI.eq_7, er_get e3]
        refine Go1.of (sem_bsl (enc := (eI .u8)) (m := ([(IntKind.u8.wrap (48 + x))] : List Int)) (eI_len _) (by rfl) (by rfl) (by rfl) ⟨trivial, trivial⟩) ?_
        simp only [wz, wd, ws, Nat.reduceAdd, Nat.reduceSub, Nat.reduceMul, Nat.reduceLeDiff, Nat.reduceEqDiff, Nat.reduceLT, Nat.reduceBEq, reduceIte, reduceCtorEq, Int.reduceToNat, Nat.reduceShiftRight, Nat.reduceAnd, Nat.reduceBneDiff, Nat.reduceBNe, c40r9, semI.eq_10, semI.eq_11, semI.eq_3, semI.eq_5, semI.eq_7, er_get e3]
        obtain ⟨g4, h⟩ := gd_iff.1 h
        refine Go1.of (sem_app (enc := (eI .u8)) (l := b2) (m := ([(IntKind.u8.wrap (48 + x))] : List Int)) (eI_len _) (by rfl) (by rfl) (newV_own (m := ([(IntKind.u8.wrap (48 + x))] : List Int)) (by rfl) (by rfl))) ?_
        simp only [wz, wd, ws, Nat.reduceAdd, Nat.reduceSub, Nat.reduceMul, Nat.reduceLeDiff, Nat.reduceEqDiff, Nat.reduceLT, Nat.reduceBEq, reduceIte, reduceCtorEq, Int.reduceToNat, Nat.reduceShiftRight, Nat.reduceAnd, Nat.reduceBneDiff, Nat.reduceBNe, c40r9, semI.eq_10, semI.eq_11, semI.eq_3, semI.eq_5, semI.eq_7, er_get e3]
        repeat (refine And.intro ?_ ?_; · first | omega | (intro q; simp only [wz, wd, ws, Nat.reduceAdd, Nat.reduceSub, Nat.reduceMul, Nat.reduceLeDiff, Nat.reduceEqDiff, Nat.reduceLT, Nat.reduceBEq, reduceIte, reduceCtorEq, Int.reduceToNat, Nat.reduceShiftRight, Nat.reduceAnd, Nat.reduceBneDiff, Nat.reduceBNe, q]; done))
        refine .eblk ?_
        refine Rw.walk ?_
        simp only [wz, wd, ws, Nat.reduceAdd, Nat.reduceSub, Nat.reduceMul, Nat.reduceLeDiff, Nat.reduceEqDiff, Nat.reduceLT, Nat.reduceBEq, reduceIte, reduceCtorEq, Int.reduceToNat, Nat.reduceShiftRight, Nat.reduceAnd, Nat.reduceBneDiff, Nat.reduceBNe, c40r11, semI.eq_10, semI.eq_11, semI.eq_3, semI.eq_5, semI.eq_7, er_get e3]
        refine .lp ?_
        refine .weak (Imp.co [] _ _ ?_ ?_ ?_ ?_ ?_) (ih (IntKind.i64.wrap (v24 + 1)) (b2 ++ ([(IntKind.u8.wrap (48 + x))] : List Int)) _ h k_ hx) <;> simp only [wz, wd, ws, Nat.reduceAdd, Nat.reduceSub, Nat.reduceMul, Nat.reduceLeDiff, Nat.reduceEqDiff, Nat.reduceLT, Nat.reduceBEq, reduceIte, reduceCtorEq, Int.reduceToNat, Nat.reduceShiftRight, Nat.reduceAnd, Nat.reduceBneDiff, Nat.reduceBNe, wi, er_nil]
      · rw [ite_f h1] at h
        refine Rw.walk ?_
        simp only [wz, wd, ws, Nat.reduceAdd, Nat.reduceSub, Nat.reduceMul, Nat.reduceLeDiff, Nat.reduceEqDiff, Nat.reduceLT, Nat.reduceBEq, reduceIte, reduceCtorEq, Int.reduceToNat, Nat.reduceShiftRight, Nat.reduceAnd, Nat.reduceBneDiff, Nat.reduceBNe, c40r10, semI.eq_10, semI.eq_11, semI.eq_3, semI.eq_5, semI.eq_7, er_get e3]
        refine Go1.of (sem_bsl (enc := (eI .u8)) (m := ([(IntKind.u8.wrap ((IntKind.u8.wrap (97 + x)) - 10))] : List Int)) (eI_len _) (by rfl) (by rfl) (by rfl) ⟨trivial, trivial⟩) ?_
        simp only [wz, wd, ws, Nat.reduceAdd, Nat.reduceSub, Nat.reduceMul, Nat.reduceLeDiff, Nat.reduceEqDiff, Nat.reduceLT, Nat.reduceBEq, reduceIte, reduceCtorEq, Int.reduceToNat, Nat.reduceShiftRight, Nat.reduceAnd, Nat.reduceBneDiff, Nat.reduceBNe, c40r10, semI.eq_10, semI.eq_11, semI.eq_3, semI.eq_5, semI.eq_7, er_get e3]
        obtain ⟨g5, h⟩ := gd_iff.1 h
        refine Go1.of (sem_app (enc := (eI .u8)) (l := b2) (m := ([(IntKind.u8.wrap ((IntKind.u8.wrap (97 + x)) - 10))] : List Int)) (eI_len _) (by rfl) (by rfl) (newV_own (m := ([(IntKind.u8.wrap ((IntKind.u8.wrap (97 + x)) - 10))] : List Int)) (by rfl) (by rfl))) ?_
        simp only [wz, wd, ws, Nat.reduceAdd, Nat.reduceSub, Nat.reduceMul, Nat.reduceLeDiff, Nat.reduceEqDiff, Nat.reduceLT, Nat.reduceBEq, reduceIte, reduceCtorEq, Int.reduceToNat, Nat.reduceShiftRight, Nat.reduceAnd, Nat.reduceBneDiff, Nat.reduceBNe, c40r10, semI.eq_10, semI.eq_11, semI.eq_3, semI.eq_5, semI.eq_7, er_get e3]
        repeat (refine And.intro ?_ ?_; · first | omega | (intro q; simp only [wz, wd, ws, Nat.reduceAdd, Nat.reduceSub, Nat.reduceMul, Nat.reduceLeDiff, Nat.reduceEqDiff, Nat.reduceLT, Nat.reduceBEq, reduceIte, reduceCtorEq, Int.reduceToNat, Nat.reduceShiftRight, Nat.reduceAnd, Nat.reduceBneDiff, Nat.reduceBNe, q]; done))
        refine .eblk ?_
        refine Rw.walk ?_
        simp only [wz, wd, ws, Nat.reduceAdd, Nat.reduceSub, Nat.reduceMul, Nat.reduceLeDiff, Nat.reduceEqDiff, Nat.reduceLT, Nat.reduceBEq, reduceIte, reduceCtorEq, Int.reduceToNat, Nat.reduceShiftRight, Nat.reduceAnd, Nat.reduceBneDiff, Nat.reduceBNe, c40r11, semI.eq_10, semI.eq_11, semI.eq_3, semI.eq_5, semI.eq_7, er_get e3]
        refine .lp ?_
        refine .weak (Imp.co [] _ _ ?_ ?_ ?_ ?_ ?_) (ih (IntKind.i64.wrap (v24 + 1)) (b2 ++ ([(IntKind.u8.wrap ((IntKind.u8.wrap (97 + x)) - 10))] : List Int)) _ h k_ hx) <;> simp only [wz, wd, ws, Nat.reduceAdd, Nat.reduceSub, Nat.reduceMul, Nat.reduceLeDiff, Nat.reduceEqDiff, Nat.reduceLT, Nat.reduceBEq, reduceIte, reduceCtorEq, Int.reduceToNat, Nat.reduceShiftRight, Nat.reduceAnd, Nat.reduceBneDiff, Nat.reduceBNe, wi, er_nil]
    · rw [ite_f h1] at h
      refine .exit rfl ?_
      obtain rfl := Option.some.inj h
      refine .weak (Imp.co [] _ _ ?_ ?_ ?_ ?_ ?_) (hx _ rfl) <;> simp only [wz, wd, ws, Nat.reduceAdd, Nat.reduceSub, Nat.reduceMul, Nat.reduceLeDiff, Nat.reduceEqDiff, Nat.reduceLT, Nat.reduceBEq, reduceIte, reduceCtorEq, Int.reduceToNat, Nat.reduceShiftRight, Nat.reduceAnd, Nat.reduceBneDiff, Nat.reduceBNe, wi, er_nil]
theorem f_ref01_Hex_l13_ok (s : Str) (y_ : Str) (R_ : St → Prop) (hR : (Ret Tryd.prog glP [] rv40 (.b (.s (.d (.str y_))))) = R_) : ∀ (m_ : Nat) (i : Int) (b : (List Int)) (res_ : Int × (List Int)) (h : f_ref01_Hex_l13 s m_ i b = some res_) (k_ : List It) (hx : ∀ s_ : Int × (List Int), res_ = s_ → W Tryd.prog glP 44 k_ ⟨lkT [(0, .b (.s (.d (.str s)))), (3, .b (.s (.own 7 s_.2.length))), (4, .b (.s (.d (.int .i64 s_.1))))], lkG [(7, ⟨1, er (eI .u8) s_.2, false⟩)]⟩ R_), W Tryd.prog glP 44 (.c c40l13 :: .lp c40l13 :: .blk 0 :: k_) ⟨lkT [(0, .b (.s (.d (.str s)))), (3, .b (.s (.own 7 b.length))), (4, .b (.s (.d (.int .i64 i))))], lkG [(7, ⟨1, er (eI .u8) b, false⟩)]⟩ R_ := by
  intro m_; induction m_ with
  | zero => intro i b res_ h; rw [f_ref01_Hex_l13.eq_1] at h; cases h
  | succ m_ ih =>
    intro i b res_ h k_ hx; rw [f_ref01_Hex_l13.eq_2] at h; refine W.cdef c40l13.eq_1 ?_
    refine .seq ?_
    refine .seq ?_
    refine Rw.walk ?_
    simp only [wz, wd, ws, Nat.reduceAdd, Nat.reduceSub, Nat.reduceMul, Nat.reduceLeDiff, Nat.reduceEqDiff, Nat.reduceLT, Nat.reduceBEq, reduceIte, reduceCtorEq, Int.reduceToNat, Nat.reduceShiftRight, Nat.reduceAnd, Nat.reduceBneDiff, Nat.reduceBNe, c40r3, semI.eq_10, semI.eq_11, semI.eq_3, semI.eq_5, semI.eq_7]
    refine .cond (p := (decide (i < (s.length : Int)))) (by first | rfl | simp only [wz, wd, ws, Nat.reduceAdd, Nat.reduceSub, Nat.reduceMul, Nat.reduceLeDiff, Nat.reduceEqDiff, Nat.reduceLT, Nat.reduceBEq, reduceIte, reduceCtorEq, Int.reduceToNat, Nat.reduceShiftRight, Nat.reduceAnd, Nat.reduceBneDiff, Nat.reduceBNe]) (fun h1 => ?_) (fun h1 => ?_)
    · rw [ite_t h1] at h
      refine .skip ?_
      refine .seq ?_
      refine .blk ?_
      refine .seq ?_
      refine RwD.walk ?_
      simp only [wz, wd, ws, Nat.reduceAdd, Nat.reduceSub, Nat.reduceMul, Nat.reduceLeDiff, Nat.reduceEqDiff, Nat.reduceLT, Nat.reduceBEq, reduceIte, reduceCtorEq, Int.reduceToNat, Nat.reduceShiftRight, Nat.reduceAnd, Nat.reduceBneDiff, Nat.reduceBNe, c40r5, semI.eq_10, semI.eq_11, semI.eq_3, semI.eq_5, semI.eq_7]
      obtain ⟨c, e1, h⟩ := Option.bind_eq_some_iff.1 h
      refine GoD1.of (sem_idx e1 (by rfl) (by rfl)) ?_
      simp only [wz, wd, ws, Nat.reduceAdd, Nat.reduceSub, Nat.reduceMul, Nat.reduceLeDiff, Nat.reduceEqDiff, Nat.reduceLT, Nat.reduceBEq, reduceIte, reduceCtorEq, Int.reduceToNat, Nat.reduceShiftRight, Nat.reduceAnd, Nat.reduceBneDiff, Nat.reduceBNe, c40r5, semI.eq_10, semI.eq_11, semI.eq_3, semI.eq_5, semI.eq_7]
      repeat (refine And.intro ?_ ?_; · first | omega | (intro q; simp only [wz, wd, ws, Nat.reduceAdd, Nat.reduceSub, Nat.reduceMul, Nat.reduceLeDiff, Nat.reduceEqDiff, Nat.reduceLT, Nat.reduceBEq, reduceIte, reduceCtorEq, Int.reduceToNat, Nat.reduceShiftRight, Nat.reduceAnd, Nat.reduceBneDiff, Nat.reduceBNe, q]; done))
      obtain ⟨c2, e2, h⟩ := Option.bind_eq_some_iff.1 h
      refine GoD1.of (sem_idx e2 (by rfl) (by rfl)) ?_
      simp only [wz, wd, ws, Nat.reduceAdd, Nat.reduceSub, Nat.reduceMul, Nat.reduceLeDiff, Nat.reduceEqDiff, Nat.reduceLT, Nat.reduceBEq, reduceIte, reduceCtorEq, Int.reduceToNat, Nat.reduceShiftRight, Nat.reduceAnd, Nat.reduceBneDiff, Nat.reduceBNe, c40r5, semI.eq_10, semI.eq_11, semI.eq_3, semI.eq_5, semI.eq_7]
      repeat (refine And.intro ?_ ?_; · first | omega | (intro q; simp only [wz, wd, ws, Nat.reduceAdd, Nat.reduceSub, Nat.reduceMul, Nat.reduceLeDiff, Nat.reduceEqDiff, Nat.reduceLT, Nat.reduceBEq, reduceIte, reduceCtorEq, Int.reduceToNat, Nat.reduceShiftRight, Nat.reduceAnd, Nat.reduceBneDiff, Nat.reduceBNe, q]; done))
      refine GoD1.of (sem_bsl (enc := (eI .u8)) (m := ([(IntKind.u8.wrap ((bn c).tdiv 16)), ((bn c2).tmod 16)] : List Int)) (eI_len _) (by rfl) (by rfl) (by rfl) ⟨trivial, trivial, trivial⟩) ?_
      simp only [wz, wd, ws, Nat.reduceAdd, Nat.reduceSub, Nat.reduceMul, Nat.reduceLeDiff, Nat.reduceEqDiff, Nat.reduceLT, Nat.reduceBEq, reduceIte, reduceCtorEq, Int.reduceToNat, Nat.reduceShiftRight, Nat.reduceAnd, Nat.reduceBneDiff, Nat.reduceBNe, c40r5, semI.eq_10, semI.eq_11, semI.eq_3, semI.eq_5, semI.eq_7]
      refine .blk ?_
      obtain ⟨s2, hf, h⟩ := Option.bind_eq_some_iff.1 h
      refine .loop (.weak (Imp.co [] _ _ ?c1 ?c2 ?c3 ?c4 ?c5) (f_ref01_Hex_l11_ok s i b c c2 _ _ hR _ _ _ _ hf _ ?_))
      case c1 | c2 | c3 | c4 | c5 => simp only [wz, wd, ws, Nat.reduceAdd, Nat.reduceSub, Nat.reduceMul, Nat.reduceLeDiff, Nat.reduceEqDiff, Nat.reduceLT, Nat.reduceBEq, reduceIte, reduceCtorEq, Int.reduceToNat, Nat.reduceShiftRight, Nat.reduceAnd, Nat.reduceBneDiff, Nat.reduceBNe, wi, er_nil]
      · intro s2_ hs; subst hs
        refine .eblk ?_
        refine Rw.walk ?_
        simp only [wz, wd, ws, Nat.reduceAdd, Nat.reduceSub, Nat.reduceMul, Nat.reduceLeDiff, Nat.reduceEqDiff, Nat.reduceLT, Nat.reduceBEq, reduceIte, reduceCtorEq, Int.reduceToNat, Nat.reduceShiftRight, Nat.reduceAnd, Nat.reduceBneDiff, Nat.reduceBNe, c40r4, semI.eq_10, semI.eq_11, semI.eq_3, semI.eq_5, semI.eq_7]
        refine .lp ?_
        refine .weak (Imp.co [] _ _ ?_ ?_ ?_ ?_ ?_) (ih (IntKind.i64.wrap (i + 1)) s2.2 _ h k_ hx) <;> simp only [wz, wd, ws, Nat.reduceAdd, Nat.reduceSub, Nat.reduceMul, Nat.reduceLeDiff, Nat.reduceEqDiff, Nat.reduceLT, Nat.reduceBEq, reduceIte, reduceCtorEq, Int.reduceToNat, Nat.reduceShiftRight, Nat.reduceAnd, Nat.reduceBneDiff, Nat.reduceBNe, wi, er_nil]
    · rw [ite_f h1] at h
      refine .exit rfl ?_
      obtain rfl := Option.some.inj h
      refine .weak (Imp.co [] _ _ ?_ ?_ ?_ ?_ ?_) (hx _ rfl) <;> simp only [wz, wd, ws, Nat.reduceAdd, Nat.reduceSub, Nat.reduceMul, Nat.reduceLeDiff, Nat.reduceEqDiff, Nat.reduceLT, Nat.reduceBEq, reduceIte, reduceCtorEq, Int.reduceToNat, Nat.reduceShiftRight, Nat.reduceAnd, Nat.reduceBneDiff, Nat.reduceBNe, wi, er_nil]
theorem f_ref01_Hex_ok (s : Str) (y_ : Str) (h : f_ref01_Hex s = some y_) : Fun Tryd.prog glP 40 [.b (.s (.d (.str s)))] (.b (.s (.d (.str y_)))) := by
  refine fun_walk [] Tryd.func40 Tryd.ntmps40 cc40 cr40 (by kernel_rfl) (by simp only [List.length_cons, List.length_nil]; decide) ?_
  generalize hR : Ret _ _ _ _ _ = R_
  simp only [wz, wd, ws, Nat.reduceAdd, Nat.reduceSub, Nat.reduceMul, Nat.reduceLeDiff, Nat.reduceEqDiff, Nat.reduceLT, Nat.reduceBEq, reduceIte, reduceCtorEq, Int.reduceToNat, Nat.reduceShiftRight, Nat.reduceAnd, Nat.reduceBneDiff, Nat.reduceBNe]
  unfold f_ref01_Hex at h; unfold c40
  refine .seq ?_
  refine Rw.walk ?_
  simp only [wz, wd, ws, Nat.reduceAdd, Nat.reduceSub, Nat.reduceMul, Nat.reduceLeDiff, Nat.reduceEqDiff, Nat.reduceLT, Nat.reduceBEq, reduceIte, reduceCtorEq, Int.reduceToNat, Nat.reduceShiftRight, Nat.reduceAnd, Nat.reduceBneDiff, Nat.reduceBNe, c40r0, semI.eq_10, semI.eq_11, semI.eq_3, semI.eq_5, semI.eq_7]
  refine .seq ?_
  refine Rw.walk ?_
  simp only [wz, wd, ws, Nat.reduceAdd, Nat.reduceSub, Nat.reduceMul, Nat.reduceLeDiff, Nat.reduceEqDiff, Nat.reduceLT, Nat.reduceBEq, reduceIte, reduceCtorEq, Int.reduceToNat, Nat.reduceShiftRight, Nat.reduceAnd, Nat.reduceBneDiff, Nat.reduceBNe, c40r1, semI.eq_10, semI.eq_11, semI.eq_3, semI.eq_5, semI.eq_7]
  refine Go1.of (sem_bsl (enc := (eI .u8)) (m := ([] : List Int)) (eI_len _) (by rfl) (by rfl) (by rfl) trivial) ?_
  simp only [wz, wd, ws, Nat.reduceAdd, Nat.reduceSub, Nat.reduceMul, Nat.reduceLeDiff, Nat.reduceEqDiff, Nat.reduceLT, Nat.reduceBEq, reduceIte, reduceCtorEq, Int.reduceToNat, Nat.reduceShiftRight, Nat.reduceAnd, Nat.reduceBneDiff, Nat.reduceBNe, c40r1, semI.eq_10, semI.eq_11, semI.eq_3, semI.eq_5, semI.eq_7]
  refine .seq ?_
  refine .seq ?_
  refine Rw.walk ?_
  simp only [wz, wd, ws, Nat.reduceAdd, Nat.reduceSub, Nat.reduceMul, Nat.reduceLeDiff, Nat.reduceEqDiff, Nat.reduceLT, Nat.reduceBEq, reduceIte, reduceCtorEq, Int.reduceToNat, Nat.reduceShiftRight, Nat.reduceAnd, Nat.reduceBneDiff, Nat.reduceBNe, c40r2, semI.eq_10, semI.eq_11, semI.eq_3, semI.eq_5, semI.eq_7]
  refine .blk ?_
  obtain ⟨s2, hf, h⟩ := Option.bind_eq_some_iff.1 h
  refine .loop (.weak (Imp.co [] _ _ ?c1 ?c2 ?c3 ?c4 ?c5) (f_ref01_Hex_l13_ok s _ _ hR _ _ _ _ hf _ ?_))
  case c1 | c2 | c3 | c4 | c5 => simp only [wz, wd, ws, Nat.reduceAdd, Nat.reduceSub, Nat.reduceMul, Nat.reduceLeDiff, Nat.reduceEqDiff, Nat.reduceLT, Nat.reduceBEq, reduceIte, reduceCtorEq, Int.reduceToNat, Nat.reduceShiftRight, Nat.reduceAnd, Nat.reduceBneDiff, Nat.reduceBNe, wi, er_nil]
  · intro s2_ hs; subst hs
    refine .seq ?_
    refine Rw.walk ?_
    simp only [wz, wd, ws, Nat.reduceAdd, Nat.reduceSub, Nat.reduceMul, Nat.reduceLeDiff, Nat.reduceEqDiff, Nat.reduceLT, Nat.reduceBEq, reduceIte, reduceCtorEq, Int.reduceToNat, Nat.reduceShiftRight, Nat.reduceAnd, Nat.reduceBneDiff, Nat.reduceBNe, c40r12, semI.eq_10, semI.eq_11, semI.eq_3, semI.eq_5, semI.eq_7]
    refine Go1.of (sem_b2s (n := s2.2) (rowsV_own (m := s2.2) (by rfl) (by rfl))) ?_
    simp only [wz, wd, ws, Nat.reduceAdd, Nat.reduceSub, Nat.reduceMul, Nat.reduceLeDiff, Nat.reduceEqDiff, Nat.reduceLT, Nat.reduceBEq, reduceIte, reduceCtorEq, Int.reduceToNat, Nat.reduceShiftRight, Nat.reduceAnd, Nat.reduceBneDiff, Nat.reduceBNe, c40r12, semI.eq_10, semI.eq_11, semI.eq_3, semI.eq_5, semI.eq_7]
    obtain rfl := Option.some.inj h
    refine .ret ?_
    rw [← hR]
    simp only [wz, wd, ws, Nat.reduceAdd, Nat.reduceSub, Nat.reduceMul, Nat.reduceLeDiff, Nat.reduceEqDiff, Nat.reduceLT, Nat.reduceBEq, reduceIte, reduceCtorEq, Int.reduceToNat, Nat.reduceShiftRight, Nat.reduceAnd, Nat.reduceBneDiff, Nat.reduceBNe, rv40]
-- 15 consignor/consignorref02.Of
def c15r0 : List Opn := [
  ⟨(some 2), none, .mv (.c (.s (.d (.str []))))⟩]
def c15r1 : List Opn := [
  ⟨(some 3), none, .mv (.t 0)⟩, 
  ⟨(some 4), none, .call (.fn 13) [(.t 3)]⟩, 
  ⟨(some 5), none, .call (.fn 40) [(.t 4)]⟩, 
  ⟨(some 6), none, .bin .add (.c (.s (.d (.str [115, 104, 97, 50, 53, 54, 58])))) (.t 5)⟩, 
  ⟨(some 2), none, .mv (.t 6)⟩]
def c15 : C := .seq (.reg c15r0 none [0]) (.seq (.reg c15r1 none [2]) (.ret))
def k15 : List (Nat × List Nat) := [(1, [2]), (0, [0])]
theorem cc15 : (Tryd.f15.body).bind (cC Tryd.prog 7 k15) = some c15 := by kernel_rfl
def rv15 : List RV := [.t 2]
theorem cr15 : cRVs Tryd.prog Tryd.f15.results.toList = some rv15 := by kernel_rfl
theorem f_ref02_Of_ok (s : Str) (y_ : Str) (h : f_ref02_Of s = some y_) : Fun Tryd.prog glP 15 [.b (.s (.d (.str s)))] (.b (.s (.d (.str y_)))) := by
  refine fun_walk [] Tryd.func15 Tryd.ntmps15 cc15 cr15 (by kernel_rfl) (by simp only [List.length_cons, List.length_nil]; decide) ?_
  generalize hR : Ret _ _ _ _ _ = R_
  simp only [wz, wd, ws, Nat.reduceAdd, Nat.reduceSub, Nat.reduceMul, Nat.reduceLeDiff, Nat.reduceEqDiff, Nat.reduceLT, Nat.reduceBEq, reduceIte, reduceCtorEq, Int.reduceToNat, Nat.reduceShiftRight, Nat.reduceAnd, Nat.reduceBneDiff, Nat.reduceBNe]
  unfold f_ref02_Of at h; unfold c15
  refine .seq ?_
  refine Rw.walk ?_
  simp only [wz, wd, ws, Nat.reduceAdd, Nat.reduceSub, Nat.reduceMul, Nat.reduceLeDiff, Nat.reduceEqDiff, Nat.reduceLT, Nat.reduceBEq, reduceIte, reduceCtorEq, Int.reduceToNat, Nat.reduceShiftRight, Nat.reduceAnd, Nat.reduceBneDiff, Nat.reduceBNe, c15r0, semI.eq_10, semI.eq_11, semI.eq_3, semI.eq_5, semI.eq_7]
  refine .seq ?_
  refine Rw.walk ?_
  simp only [wz, wd, ws, Nat.reduceAdd, Nat.reduceSub, Nat.reduceMul, Nat.reduceLeDiff, Nat.reduceEqDiff, Nat.reduceLT, Nat.reduceBEq, reduceIte, reduceCtorEq, Int.reduceToNat, Nat.reduceShiftRight, Nat.reduceAnd, Nat.reduceBneDiff, Nat.reduceBNe, c15r1, semI.eq_10, semI.eq_11, semI.eq_3, semI.eq_5, semI.eq_7]
  obtain ⟨t, e1, h⟩ := Option.bind_eq_some_iff.1 h
  refine call_fun [] false ⟨trivial, trivial, trivial⟩ rfl ?_ (f_ref02_Sum_ok _ _ e1) (fun _ => rfl) (fun i hi => by cases hi) ?_
  · simp only [wz, wd, ws, Nat.reduceAdd, Nat.reduceSub, Nat.reduceMul, Nat.reduceLeDiff, Nat.reduceEqDiff, Nat.reduceLT, Nat.reduceBEq, reduceIte, reduceCtorEq, Int.reduceToNat, Nat.reduceShiftRight, Nat.reduceAnd, Nat.reduceBneDiff, Nat.reduceBNe]
  simp only [wz, wd, ws, Nat.reduceAdd, Nat.reduceSub, Nat.reduceMul, Nat.reduceLeDiff, Nat.reduceEqDiff, Nat.reduceLT, Nat.reduceBEq, reduceIte, reduceCtorEq, Int.reduceToNat, Nat.reduceShiftRight, Nat.reduceAnd, Nat.reduceBneDiff, Nat.reduceBNe, c15r1, semI.eq_10, semI.eq_11, semI.eq_3, semI.eq_5, semI.eq_7]
  obtain ⟨t2, e2, h⟩ := Option.bind_eq_some_iff.1 h
  refine call_fun [] false ⟨trivial, trivial, trivial⟩ rfl ?_ (f_ref01_Hex_ok _ _ e2) (fun _ => rfl) (fun i hi => by cases hi) ?_
  · simp only [wz, wd, ws, Nat.reduceAdd, Nat.reduceSub, Nat.reduceMul, Nat.reduceLeDiff, Nat.reduceEqDiff, Nat.reduceLT, Nat.reduceBEq, reduceIte, reduceCtorEq, Int.reduceToNat, Nat.reduceShiftRight, Nat.reduceAnd, Nat.reduceBneDiff, Nat.reduceBNe]
  simp only [wz, wd, ws, Nat.reduceAdd, Nat.reduceSub, Nat.reduceMul, Nat.reduceLeDiff, Nat.reduceEqDiff, Nat.reduceLT, Nat.reduceBEq, reduceIte, reduceCtorEq, Int.reduceToNat, Nat.reduceShiftRight, Nat.reduceAnd, Nat.reduceBneDiff, Nat.reduceBNe, c15r1, semI.eq_10, semI.eq_11, semI.eq_3, semI.eq_5, semI.eq_7]
  obtain ⟨g3, h⟩ := gd_iff.1 h
  repeat (refine And.intro ?_ ?_; · first | omega | (intro q; simp only [wz, wd, ws, Nat.reduceAdd, Nat.reduceSub, Nat.reduceMul, Nat.reduceLeDiff, Nat.reduceEqDiff, Nat.reduceLT, Nat.reduceBEq, reduceIte, reduceCtorEq, Int.reduceToNat, Nat.reduceShiftRight, Nat.reduceAnd, Nat.reduceBneDiff, Nat.reduceBNe, q]; done))
  obtain rfl := Option.some.inj h
  refine .ret ?_
  rw [← hR]
  simp only [wz, wd, ws, Nat.reduceAdd, Nat.reduceSub, Nat.reduceMul, Nat.reduceLeDiff, Nat.reduceEqDiff, Nat.reduceLT, Nat.reduceBEq, reduceIte, reduceCtorEq, Int.reduceToNat, Nat.reduceShiftRight, Nat.reduceAnd, Nat.reduceBneDiff, Nat.reduceBNe, rv15]
-- 41 consignor/consignorref02.primes
def c41r0 : List Opn := [
  ⟨(some 2), none, .mv (.c (.s .nils))⟩]
def c41r1 : List Opn := [
  ⟨(some 8), none, .bsl 1 []⟩, 
  ⟨(some 3), none, .mv (.t 8)⟩]
def c41r2 : List Opn := [
  ⟨(some 4), none, .mv (.c (.s (.d (.int .i64 2))))⟩]
def c41r3 : List Opn := [
  ⟨(some 9), none, .mv (.t 3)⟩, 
  ⟨(some 10), none, .len (.sl 0) (.t 9)⟩, 
  ⟨(some 11), none, .mv (.t 0)⟩, 
  ⟨(some 12), none, .bin .lss (.t 10) (.t 11)⟩]
def c41r4 : List Opn := [
  ⟨(some 5), none, .mv (.c (.s (.d (.bool true))))⟩]
def c41r5 : List Opn := [
  ⟨(some 13), none, .mv (.t 3)⟩, 
  ⟨(some 14), none, .len (.sl 0) (.t 13)⟩, 
  ⟨(some 15), none, .mv (.c (.s (.d (.int .i64 0))))⟩]
def c41r6 : List Opn := [
  ⟨(some 16), none, .bin .lss (.t 15) (.t 14)⟩]
def c41r7 : List Opn := [
  ⟨(some 17), none, .iadr (.sl 1) (.t 13) (.t 15)⟩, 
  ⟨(some 18), none, .load false 1 (.t 17)⟩, 
  ⟨(some 7), none, .mv (.t 18)⟩]
def c41r8 : List Opn := [
  ⟨(some 19), none, .mv (.t 4)⟩, 
  ⟨(some 20), none, .mv (.t 7)⟩, 
  ⟨(some 21), none, .bin .rem (.t 19) (.t 20)⟩, 
  ⟨(some 22), none, .bin .eql (.t 21) (.c (.s (.d (.int .i64 0))))⟩]
def c41r9 : List Opn := [
  ⟨(some 5), none, .mv (.c (.s (.d (.bool false))))⟩]
def c41r10 : List Opn := [
  ⟨(some 23), none, .bin .add (.t 15) (.c (.s (.d (.int .i64 1))))⟩, 
  ⟨(some 15), none, .mv (.t 23)⟩]
def c41l11 : C := .seq (.reg c41r6 none [0, 3, 4, 5, 13, 14, 15, 16]) (.seq (.cond (.t 16) (.skip) (.exit 2)) (.seq (.blk 3 (.seq (.reg c41r7 none [0, 3, 4, 5, 7, 13, 14, 15]) (.seq (.reg c41r8 none [0, 3, 4, 5, 13, 14, 15, 22]) (.cond (.t 22) (.reg c41r9 none [0, 3, 4, 5, 13, 14, 15]) (.skip))))) (.reg c41r10 none [0, 3, 4, 5, 13, 14, 15])))
def c41r11 : List Opn := [
  ⟨(some 24), none, .mv (.t 5)⟩]
def c41r12 : List Opn := [
  ⟨(some 25), none, .mv (.t 3)⟩, 
  ⟨(some 26), none, .mv (.t 4)⟩, 
  ⟨(some 27), none, .bsl 1 [(.t 26)]⟩, 
  ⟨(some 28), none, .app 1 8 false (.t 25) (.t 27)⟩, 
  ⟨(some 3), none, .mv (.t 28)⟩]
def c41r13 : List Opn := [
  ⟨(some 29), none, .mv (.t 4)⟩, 
  ⟨(some 30), none, .bin .add (.t 29) (.c (.s (.d (.int .i64 1))))⟩, 
  ⟨(some 4), none, .mv (.t 30)⟩]
def c41l15 : C := .seq (.seq (.reg c41r3 none [0, 3, 4, 12]) (.cond (.t 12) (.skip) (.exit 0))) (.blk 1 (.seq (.reg c41r4 none [0, 3, 4, 5]) (.seq (.seq (.reg c41r5 none [0, 3, 4, 5, 13, 14, 15]) (.blk 2 (.loop c41l11))) (.seq (.seq (.reg c41r11 none [0, 3, 4, 24]) (.cond (.t 24) (.reg c41r12 none [0, 3, 4]) (.skip))) (.reg c41r13 none [0, 3, 4])))))
def c41r14 : List Opn := [
  ⟨(some 31), none, .mv (.t 3)⟩, 
  ⟨(some 2), none, .mv (.t 31)⟩]
def c41 : C := .seq (.reg c41r0 none [0]) (.seq (.reg c41r1 none [0, 3]) (.seq (.reg c41r2 none [0, 3, 4]) (.seq (.blk 0 (.loop c41l15)) (.seq (.reg c41r14 none [2]) (.ret)))))
def k41 : List (Nat × List Nat) := [(14, [2]), (13, [0, 3, 4]), (12, [0, 3, 4]), (11, [0, 3, 4, 24]), (10, [0, 3, 4, 5, 13, 14, 15]), (9, [0, 3, 4, 5, 13, 14, 15]), (8, [0, 3, 4, 5, 13, 14, 15, 22]), (7, [0, 3, 4, 5, 7, 13, 14, 15]), (6, [0, 3, 4, 5, 13, 14, 15, 16]), (5, [0, 3, 4, 5, 13, 14, 15]), (4, [0, 3, 4, 5]), (3, [0, 3, 4, 12]), (2, [0, 3, 4]), (1, [0, 3]), (0, [0])]
theorem cc41 : (Tryd.f41.body).bind (cC Tryd.prog 32 k41) = some c41 := by kernel_rfl
def rv41 : List RV := [.t 2]
theorem cr41 : cRVs Tryd.prog Tryd.f41.results.toList = some rv41 := by kernel_rfl
theorem f_ref02_primes_l11_ok (n : Int) (p : Int) (out : (List Int)) (y_ : (List Int)) (R_ : St → Prop) (hR : (RetO Tryd.prog glP 2 1 (y_.map (eI .i64))) = R_) : ∀ (m_ : Nat) (is : Bool) (v15 : Int) (res_ : Bool × Int) (h : f_ref02_primes_l11 n p out m_ is v15 = some res_) (k_ : List It) (hx : ∀ s_ : Bool × Int, res_ = s_ → W Tryd.prog glP 32 k_ ⟨lkT [(0, .b (.s (.d (.int .i64 n)))), (3, .b (.s (.own 8 out.length))), (4, .b (.s (.d (.int .i64 p)))), (5, .b (.s (.d (.bool s_.1)))), (13, .b (.s (.own 8 out.length))), (14, .b (.s (.d (.int .i64 (out.length : Int))))), (15, .b (.s (.d (.int .i64 s_.2))))], lkG [(8, ⟨1, er (eI .i64) out, false⟩)]⟩ R_), W Tryd.prog glP 32 (.c c41l11 :: .lp c41l11 :: .blk 2 :: k_) ⟨lkT [(0, .b (.s (.d (.int .i64 n)))), (3, .b (.s (.own 8 out.length))), (4, .b (.s (.d (.int .i64 p)))), (5, .b (.s (.d (.bool is)))), (13, .b (.s (.own 8 out.length))), (14, .b (.s (.d (.int .i64 (out.length : Int))))), (15, .b (.s (.d (.int .i64 v15))))], lkG [(8, ⟨1, er (eI .i64) out, false⟩)]⟩ R_ := by
  intro m_; induction m_ with
  | zero => intro is v15 res_ h; rw [f_ref02_primes_l11.eq_1] at h; cases h
  | succ m_ ih =>
    intro is v15 res_ h k_ hx; rw [f_ref02_primes_l11.eq_2] at h; refine W.cdef c41l11.eq_1 ?_
    refine .seq ?_
    refine Rw.walk ?_
    simp only [wz, wd, ws, Nat.reduceAdd, Nat.reduceSub, Nat.reduceMul, Nat.reduceLeDiff, Nat.reduceEqDiff, Nat.reduceLT, Nat.reduceBEq, reduceIte, reduceCtorEq, Int.reduceToNat, Nat.reduceShiftRight, Nat.reduceAnd, Nat.reduceBneDiff, Nat.reduceBNe, c41r6, semI.eq_10, semI.eq_11, semI.eq_3, semI.eq_5, semI.eq_7]
    refine .seq ?_
    refine .cond (p := (decide (v15 < (out.length : Int)))) (by first | rfl | simp only [wz, wd, ws, Nat.reduceAdd, Nat.reduceSub, Nat.reduceMul, Nat.reduceLeDiff, Nat.reduceEqDiff, Nat.reduceLT, Nat.reduceBEq, reduceIte, reduceCtorEq, Int.reduceToNat, Nat.reduceShiftRight, Nat.reduceAnd, Nat.reduceBneDiff, Nat.reduceBNe]) (fun h1 => ?_) (fun h1 => ?_)
    · rw [ite_t h1] at h
      refine .skip ?_
      refine .seq ?_
      refine .blk ?_
      refine .seq ?_
      refine Rw.walk ?_
      simp only [wz, wd, ws, Nat.reduceAdd, Nat.reduceSub, Nat.reduceMul, Nat.reduceLeDiff, Nat.reduceEqDiff, Nat.reduceLT, Nat.reduceBEq, reduceIte, reduceCtorEq, Int.reduceToNat, Nat.reduceShiftRight, Nat.reduceAnd, Nat.reduceBneDiff, Nat.reduceBNe, c41r7, semI.eq_10, semI.eq_11, semI.eq_3, semI.eq_5, semI.eq_7]
      obtain ⟨x, e1, h⟩ := Option.bind_eq_some_iff.1 h
      refine Go1.of (sem_iadrO (l := out) e1 (by rfl) (by rfl) (by rfl)) ?_
      simp only [wz, wd, ws, Nat.reduceAdd, Nat.reduceSub, Nat.reduceMul, Nat.reduceLeDiff, Nat.reduceEqDiff, Nat.reduceLT, Nat.reduceBEq, reduceIte, reduceCtorEq, Int.reduceToNat, Nat.reduceShiftRight, Nat.reduceAnd, Nat.reduceBneDiff, Nat.reduceBNe, c41r7, semI.eq_10, semI.eq_11, semI.eq_3, semI.eq_5, semI.eq_7, er_get e1]
      refine .seq ?_
      refine Rw.walk ?_
      obtain ⟨g2, h⟩ := gd_iff.1 h
      simp only [wz, wd, ws, Nat.reduceAdd, Nat.reduceSub, Nat.reduceMul, Nat.reduceLeDiff, Nat.reduceEqDiff, Nat.reduceLT, Nat.reduceBEq, reduceIte, reduceCtorEq, Int.reduceToNat, Nat.reduceShiftRight, Nat.reduceAnd, Nat.reduceBneDiff, Nat.reduceBNe, c41r8, semI.eq_10, semI.eq_11, semI.eq_3, semI.eq_5, semI.eq_7, er_get e1]
      repeat (refine And.intro ?_ ?_; · first | omega | (intro q; simp only [wz, wd, ws, Nat.reduceAdd, Nat.reduceSub, Nat.reduceMul, Nat.reduceLeDiff, Nat.reduceEqDiff, Nat.reduceLT, Nat.reduceBEq, reduceIte, reduceCtorEq, Int.reduceToNat, Nat.reduceShiftRight, Nat.reduceAnd, Nat.reduceBneDiff, Nat.reduceBNe, q]; done))
      refine .cond (p := ((p.tmod x) == 0)) (by first | rfl | simp only [wz, wd, ws, Nat.reduceAdd, Nat.reduceSub, Nat.reduceMul, Nat.reduceLeDiff, Nat.reduceEqDiff, Nat.reduceLT, Nat.reduceBEq, reduceIte, reduceCtorEq, Int.reduceToNat, Nat.reduceShiftRight, Nat.reduceAnd, Nat.reduceBneDiff, Nat.reduceBNe]) (fun h1 => ?_) (fun h1 => ?_)
      · rw [ite_t h1] at h
        refine Rw.walk ?_
        simp only [wz, wd, ws, Nat.reduceAdd, Nat.reduceSub, Nat.reduceMul, Nat.reduceLeDiff, Nat.reduceEqDiff, Nat.reduceLT, Nat.reduceBEq, reduceIte, reduceCtorEq, Int.reduceToNat, Nat.reduceShiftRight, Nat.reduceAnd, Nat.reduceBneDiff, Nat.reduceBNe, c41r9, semI.eq_10, semI.eq_11, semI.eq_3, semI.eq_5, semI.eq_7, er_get e1]
        refine .eblk ?_
        refine Rw.walk ?_
        simp only [wz, wd, ws, Nat.reduceAdd, Nat.reduceSub, Nat.reduceMul, Nat.reduceLeDiff, Nat.reduceEqDiff, Nat.reduceLT, Nat.reduceBEq, reduceIte, reduceCtorEq, Int.reduceToNat, Nat.reduceShiftRight, Nat.reduceAnd, Nat.reduceBneDiff, Nat.reduceBNe, c41r10, semI.eq_10, semI.eq_11, semI.eq_3, semI.eq_5, semI.eq_7, er_get e1]
        refine .lp ?_
        refine .weak (Imp.co [] _ _ ?_ ?_ ?_ ?_ ?_) (ih false (IntKind.i64.wrap (v15 + 1)) _ h k_ hx) <;> simp only [wz, wd, ws, Nat.reduceAdd, Nat.reduceSub, Nat.reduceMul, Nat.reduceLeDiff, Nat.reduceEqDiff, Nat.reduceLT, Nat.reduceBEq, reduceIte, reduceCtorEq, Int.reduceToNat, Nat.reduceShiftRight, Nat.reduceAnd, Nat.reduceBneDiff, Nat.reduceBNe, wi, er_nil]
      · rw [ite_f h1] at h
        refine .skip ?_
        refine .eblk ?_
        refine Rw.walk ?_
        simp only [wz, wd, ws, Nat.reduceAdd, Nat.reduceSub, Nat.reduceMul, Nat.reduceLeDiff, Nat.reduceEqDiff, Nat.reduceLT, Nat.reduceBEq, reduceIte, reduceCtorEq, Int.reduceToNat, Nat.reduceShiftRight, Nat.reduceAnd, Nat.reduceBneDiff, Nat.reduceBNe, c41r10, semI.eq_10, semI.eq_11, semI.eq_3, semI.eq_5, semI.eq_7, er_get e1]
        refine .lp ?_
        refine .weak (Imp.co [] _ _ ?_ ?_ ?_ ?_ ?_) (ih is (IntKind.i64.wrap (v15 + 1)) _ h k_ hx) <;> simp only [wz, wd, ws, Nat.reduceAdd, Nat.reduceSub, Nat.reduceMul, Nat.reduceLeDiff, Nat.reduceEqDiff, Nat.reduceLT, Nat.reduceBEq, reduceIte, reduceCtorEq, Int.reduceToNat, Nat.reduceShiftRight, Nat.reduceAnd, Nat.reduceBneDiff, Nat.reduceBNe, wi, er_nil]
    · rw [ite_f h1] at h
      refine .exit rfl ?_
      obtain rfl := Option.some.inj h
      refine .weak (Imp.co [] _ _ ?_ ?_ ?_ ?_ ?_) (hx _ rfl) <;> simp only [wz, wd, ws, Nat.reduceAdd, Nat.reduceSub, Nat.reduceMul, Nat.reduceLeDiff, Nat.reduceEqDiff, Nat.reduceLT, Nat.reduceBEq, reduceIte, reduceCtorEq, Int.reduceToNat, Nat.reduceShiftRight, Nat.reduceAnd, Nat.reduceBneDiff, Nat.reduceBNe, wi, er_nil]
theorem f_ref02_primes_l15_ok (n : Int) (y_ : (List Int)) (R_ : St → Prop) (hR : (RetO Tryd.prog glP 2 1 (y_.map (eI .i64))) = R_) : ∀ (m_ : Nat) (p : Int) (out : (List Int)) (res_ : Int × (List Int)) (h : f_ref02_primes_l15 n m_ p out = some res_) (k_ : List It) (hx : ∀ s_ : Int × (List Int), res_ = s_ → W Tryd.prog glP 32 k_ ⟨lkT [(0, .b (.s (.d (.int .i64 n)))), (3, .b (.s (.own 8 s_.2.length))), (4, .b (.s (.d (.int .i64 s_.1))))], lkG [(8, ⟨1, er (eI .i64) s_.2, false⟩)]⟩ R_), W Tryd.prog glP 32 (.c c41l15 :: .lp c41l15 :: .blk 0 :: k_) ⟨lkT [(0, .b (.s (.d (.int .i64 n)))), (3, .b (.s (.own 8 out.length))), (4, .b (.s (.d (.int .i64 p))))], lkG [(8, ⟨1, er (eI .i64) out, false⟩)]⟩ R_ := by
  intro m_; induction m_ with
  | zero => intro p out res_ h; rw [f_ref02_primes_l15.eq_1] at h; cases h
  | succ m_ ih =>
    intro p out res_ h k_ hx; rw [f_ref02_primes_l15.eq_2] at h; refine W.cdef c41l15.eq_1 ?_
    refine .seq ?_
    refine .seq ?_
    refine Rw.walk ?_
    simp only [wz, wd, ws, Nat.reduceAdd, Nat.reduceSub, Nat.reduceMul, Nat.reduceLeDiff, Nat.reduceEqDiff, Nat.reduceLT, Nat.reduceBEq, reduceIte, reduceCtorEq, Int.reduceToNat, Nat.reduceShiftRight, Nat.reduceAnd, Nat.reduceBneDiff, Nat.reduceBNe, c41r3, semI.eq_10, semI.eq_11, semI.eq_3, semI.eq_5, semI.eq_7]
    refine .cond (p := (decide ((out.length : Int) < n))) (by first | rfl | simp only [wz, wd, ws, Nat.reduceAdd, Nat.reduceSub, Nat.reduceMul, Nat.reduceLeDiff, Nat.reduceEqDiff, Nat.reduceLT, Nat.reduceBEq, reduceIte, reduceCtorEq, Int.reduceToNat, Nat.reduceShiftRight, Nat.reduceAnd, Nat.reduceBneDiff, Nat.reduceBNe]) (fun h1 => ?_) (fun h1 => ?_)
    · rw [ite_t h1] at h
      refine .skip ?_
      refine .blk ?_
      refine .seq ?_
      refine Rw.walk ?_
      simp only [wz, wd, ws, Nat.reduceAdd, Nat.reduceSub, Nat.reduceMul, Nat.reduceLeDiff, Nat.reduceEqDiff, Nat.reduceLT, Nat.reduceBEq, reduceIte, reduceCtorEq, Int.reduceToNat, Nat.reduceShiftRight, Nat.reduceAnd, Nat.reduceBneDiff, Nat.reduceBNe, c41r4, semI.eq_10, semI.eq_11, semI.eq_3, semI.eq_5, semI.eq_7]
      refine .seq ?_
      refine .seq ?_
      refine Rw.walk ?_
      simp only [wz, wd, ws, Nat.reduceAdd, Nat.reduceSub, Nat.reduceMul, Nat.reduceLeDiff, Nat.reduceEqDiff, Nat.reduceLT, Nat.reduceBEq, reduceIte, reduceCtorEq, Int.reduceToNat, Nat.reduceShiftRight, Nat.reduceAnd, Nat.reduceBneDiff, Nat.reduceBNe, c41r5, semI.eq_10, semI.eq_11, semI.eq_3, semI.eq_5, semI.eq_7]
      refine .blk ?_
      obtain ⟨s, hf, h⟩ := Option.bind_eq_some_iff.1 h
      refine .loop (.weak (Imp.co [] _ _ ?c1 ?c2 ?c3 ?c4 ?c5) (f_ref02_primes_l11_ok n p out _ _ hR _ _ _ _ hf _ ?_))
      case c1 | c2 | c3 | c4 | c5 => simp only [wz, wd, ws, Nat.reduceAdd, Nat.reduceSub, Nat.reduceMul, Nat.reduceLeDiff, Nat.reduceEqDiff, Nat.reduceLT, Nat.reduceBEq, reduceIte, reduceCtorEq, Int.reduceToNat, Nat.reduceShiftRight, Nat.reduceAnd, Nat.reduceBneDiff, Nat.reduceBNe, wi, er_nil]
      · intro s_ hs; subst hs
        refine .seq ?_
        refine .seq ?_
        refine Rw.walk ?_
        simp only [wz, wd, ws, Nat.reduceAdd, Nat.reduceSub, Nat.reduceMul, Nat.reduceLeDiff, Nat.reduceEqDiff, Nat.reduceLT, Nat.reduceBEq, reduceIte, reduceCtorEq, Int.reduceToNat, Nat.reduceShiftRight, Nat.reduceAnd, Nat.reduceBneDiff, Nat.reduceBNe, c41r11, semI.eq_10, semI.eq_11, semI.eq_3, semI.eq_5, semI.eq_7]
        refine .cond (p := s.1) (by first | rfl | simp only [wz, wd, ws, Nat.reduceAdd, Nat.reduceSub, Nat.reduceMul, Nat.reduceLeDiff, Nat.reduceEqDiff, Nat.reduceLT, Nat.reduceBEq, reduceIte, reduceCtorEq, Int.reduceToNat, Nat.reduceShiftRight, Nat.reduceAnd, Nat.reduceBneDiff, Nat.reduceBNe]) (fun h1 => ?_) (fun h1 => ?_)
        · rw [ite_t h1] at h
          refine Rw.walk ?_
          simp only [wz, wd, ws, Nat.reduceAdd, Nat.reduceSub, Nat.reduceMul, Nat.reduceLeDiff, Nat.reduceEqDiff, Nat.reduceLT, Nat.reduceBEq, reduceIte, reduceCtorEq, Int.reduceToNat, Nat.reduceShiftRight, Nat.reduceAnd, Nat.reduceBneDiff, Nat.reduceBNe, c41r12, semI.eq_10, semI.eq_11, semI.eq_3, semI.eq_5, semI.eq_7]
          refine Go1.of (sem_bsl (enc := (eI .i64)) (m := ([p] : List Int)) (eI_len _) (by rfl) (by rfl) (by rfl) ⟨trivial, trivial⟩) ?_
          simp only [wz, wd, ws, Nat.reduceAdd, Nat.reduceSub, Nat.reduceMul, Nat.reduceLeDiff, Nat.reduceEqDiff, Nat.reduceLT, Nat.reduceBEq, reduceIte, reduceCtorEq, Int.reduceToNat, Nat.reduceShiftRight, Nat.reduceAnd, Nat.reduceBneDiff, Nat.reduceBNe, c41r12, semI.eq_10, semI.eq_11, semI.eq_3, semI.eq_5, semI.eq_7]
          obtain ⟨g3, h⟩ := gd_iff.1 h
          refine Go1.of (sem_app (enc := (eI .i64)) (l := out) (m := ([p] : List Int)) (eI_len _) (by rfl) (by rfl) (newV_own (m := ([p] : List Int)) (by rfl) (by rfl))) ?_
          simp only [wz, wd, ws, Nat.reduceAdd, Nat.reduceSub, Nat.reduceMul, Nat.reduceLeDiff, Nat.reduceEqDiff, Nat.reduceLT, Nat.reduceBEq, reduceIte, reduceCtorEq, Int.reduceToNat, Nat.reduceShiftRight, Nat.reduceAnd, Nat.reduceBneDiff, Nat.reduceBNe, c41r12, semI.eq_10, semI.eq_11, semI.eq_3, semI.eq_5, semI.eq_7]
          repeat (refine And.intro ?_ ?_; · first | omega | (intro q; simp only [wz, wd, ws, Nat.reduceAdd, Nat.reduceSub, Nat.reduceMul, Nat.reduceLeDiff, Nat.reduceEqDiff, Nat.reduceLT, Nat.reduceBEq, reduceIte, reduceCtorEq, Int.reduceToNat, Nat.reduceShiftRight, Nat.reduceAnd, Nat.reduceBneDiff, Nat.reduceBNe, q]; done))
          refine Rw.walk ?_
          simp only [wz, wd, ws, Nat.reduceAdd, Nat.reduceSub, Nat.reduceMul, Nat.reduceLeDiff, Nat.reduceEqDiff, Nat.reduceLT, Nat.reduceBEq, reduceIte, reduceCtorEq, Int.reduceToNat, Nat.reduceShiftRight, Nat.reduceAnd, Nat.reduceBneDiff, Nat.reduceBNe, c41r13, semI.eq_10, semI.eq_11, semI.eq_3, semI.eq_5, semI.eq_7]
          refine .eblk ?_
          refine .lp ?_
          refine .weak (Imp.co [] _ _ ?_ ?_ ?_ ?_ ?_) (ih (IntKind.i64.wrap (p + 1)) (out ++ ([p] : List Int)) _ h k_ hx) <;> simp only [wz, wd, ws, Nat.reduceAdd, Nat.reduceSub, Nat.reduceMul, Nat.reduceLeDiff, Nat.reduceEqDiff, Nat.reduceLT, Nat.reduceBEq, reduceIte, reduceCtorEq, Int.reduceToNat, Nat.reduceShiftRight, Nat.reduceAnd, Nat.reduceBneDiff, Nat.reduceBNe, wi, er_nil]
        · rw [ite_f h1] at h
          refine .skip ?_
          refine Rw.walk ?_
          simp only [wz, wd, ws, Nat.reduceAdd, Nat.reduceSub, Nat.reduceMul, Nat.reduceLeDiff, Nat.reduceEqDiff, Nat.reduceLT, Nat.reduceBEq, reduceIte, reduceCtorEq, Int.reduceToNat, Nat.reduceShiftRight, Nat.reduceAnd, Nat.reduceBneDiff, Nat.reduceBNe, c41r13, semI.eq_10, semI.eq_11, semI.eq_3, semI.eq_5, semI.eq_7]
          refine .eblk ?_
          refine .lp ?_
          refine .weak (Imp.co [] _ _ ?_ ?_ ?_ ?_ ?_) (ih (IntKind.i64.wrap (p + 1)) out _ h k_ hx) <;> simp only [wz, wd, ws, Nat.reduceAdd, Nat.reduceSub, Nat.reduceMul, Nat.reduceLeDiff, Nat.reduceEqDiff, Nat.reduceLT, Nat.reduceBEq, reduceIte, reduceCtorEq, Int.reduceToNat, Nat.reduceShiftRight, Nat.reduceAnd, Nat.reduceBneDiff, Nat.reduceBNe, wi, er_nil]
    · rw [ite_f h1] at h
      refine .exit rfl ?_
      obtain rfl := Option.some.inj h
      refine .weak (Imp.co [] _ _ ?_ ?_ ?_ ?_ ?_) (hx _ rfl) <;> simp only [wz, wd, ws, Nat.reduceAdd, Nat.reduceSub, Nat.reduceMul, Nat.reduceLeDiff, Nat.reduceEqDiff, Nat.reduceLT, Nat.reduceBEq, reduceIte, reduceCtorEq, Int.reduceToNat, Nat.reduceShiftRight, Nat.reduceAnd, Nat.reduceBneDiff, Nat.reduceBNe, wi, er_nil]
theorem f_ref02_primes_ok (n : Int) (y_ : (List Int)) (h : f_ref02_primes n = some y_) : FunO Tryd.prog glP 41 [.b (.s (.d (.int .i64 n)))] 1 (y_.map (eI .i64)) := by
  refine funO_walk Tryd.func41 Tryd.ntmps41 cc41 cr41 (by kernel_rfl) (by simp only [List.length_cons, List.length_nil]; decide) ?_
  generalize hR : RetO _ _ _ _ _ = R_
  simp only [wz, wd, ws, Nat.reduceAdd, Nat.reduceSub, Nat.reduceMul, Nat.reduceLeDiff, Nat.reduceEqDiff, Nat.reduceLT, Nat.reduceBEq, reduceIte, reduceCtorEq, Int.reduceToNat, Nat.reduceShiftRight, Nat.reduceAnd, Nat.reduceBneDiff, Nat.reduceBNe]
  unfold f_ref02_primes at h; unfold c41
  refine .seq ?_
  refine Rw.walk ?_
  simp only [wz, wd, ws, Nat.reduceAdd, Nat.reduceSub, Nat.reduceMul, Nat.reduceLeDiff, Nat.reduceEqDiff, Nat.reduceLT, Nat.reduceBEq, reduceIte, reduceCtorEq, Int.reduceToNat, Nat.reduceShiftRight, Nat.reduceAnd, Nat.reduceBneDiff, Nat.reduceBNe, c41r0, semI.eq_10, semI.eq_11, semI.eq_3, semI.eq_5, semI.eq_7]
  refine .seq ?_
  refine Rw.walk ?_
  simp only [wz, wd, ws, Nat.reduceAdd, Nat.reduceSub, Nat.reduceMul, Nat.reduceLeDiff, Nat.reduceEqDiff, Nat.reduceLT, Nat.reduceBEq, reduceIte, reduceCtorEq, Int.reduceToNat, Nat.reduceShiftRight, Nat.reduceAnd, Nat.reduceBneDiff, Nat.reduceBNe, c41r1, semI.eq_10, semI.eq_11, semI.eq_3, semI.eq_5, semI.eq_7]
  refine Go1.of (sem_bsl (enc := (eI .i64)) (m := ([] : List Int)) (eI_len _) (by rfl) (by rfl) (by rfl) trivial) ?_
  simp only [wz, wd, ws, Nat.reduceAdd, Nat.reduceSub, Nat.reduceMul, Nat.reduceLeDiff, Nat.reduceEqDiff, Nat.reduceLT, Nat.reduceBEq, reduceIte, reduceCtorEq, Int.reduceToNat, Nat.reduceShiftRight, Nat.reduceAnd, Nat.reduceBneDiff, Nat.reduceBNe, c41r1, semI.eq_10, semI.eq_11, semI.eq_3, semI.eq_5, semI.eq_7]
  refine .seq ?_
  refine Rw.walk ?_
  simp only [wz, wd, ws, Nat.reduceAdd, Nat.reduceSub, Nat.reduceMul, Nat.reduceLeDiff, Nat.reduceEqDiff, Nat.reduceLT, Nat.reduceBEq, reduceIte, reduceCtorEq, Int.reduceToNat, Nat.reduceShiftRight, Nat.reduceAnd, Nat.reduceBneDiff, Nat.reduceBNe, c41r2, semI.eq_10, semI.eq_11, semI.eq_3, semI.eq_5, semI.eq_7]
  refine .seq ?_
  refine .blk ?_
  obtain ⟨s, hf, h⟩ := Option.bind_eq_some_iff.1 h
  refine .loop (.weak (Imp.co [] _ _ ?c1 ?c2 ?c3 ?c4 ?c5) (f_ref02_primes_l15_ok n _ _ hR _ _ _ _ hf _ ?_))
  case c1 | c2 | c3 | c4 | c5 => simp only [wz, wd, ws, Nat.reduceAdd, Nat.reduceSub, Nat.reduceMul, Nat.reduceLeDiff, Nat.reduceEqDiff, Nat.reduceLT, Nat.reduceBEq, reduceIte, reduceCtorEq, Int.reduceToNat, Nat.reduceShiftRight, Nat.reduceAnd, Nat.reduceBneDiff, Nat.reduceBNe, wi, er_nil]
  · intro s_ hs; subst hs
    refine .seq ?_
    refine Rw.walk ?_
    simp only [wz, wd, ws, Nat.reduceAdd, Nat.reduceSub, Nat.reduceMul, Nat.reduceLeDiff, Nat.reduceEqDiff, Nat.reduceLT, Nat.reduceBEq, reduceIte, reduceCtorEq, Int.reduceToNat, Nat.reduceShiftRight, Nat.reduceAnd, Nat.reduceBneDiff, Nat.reduceBNe, c41r14, semI.eq_10, semI.eq_11, semI.eq_3, semI.eq_5, semI.eq_7]
    obtain rfl := Option.some.inj h
    refine .ret ?_
    rw [← hR]
    refine ⟨8, ?_, ?_⟩ <;> simp only [wz, wd, ws, Nat.reduceAdd, Nat.reduceSub, Nat.reduceMul, Nat.reduceLeDiff, Nat.reduceEqDiff, Nat.reduceLT, Nat.reduceBEq, reduceIte, reduceCtorEq, Int.reduceToNat, Nat.reduceShiftRight, Nat.reduceAnd, Nat.reduceBneDiff, Nat.reduceBNe, er, List.length_map]
-- 59 consignor/consignorref02.power
def c59r0 : List Opn := [
  ⟨(some 4), none, .mv (.c (.s .nils))⟩]
def c59r1 : List Opn := [
  ⟨(some 12), none, .bsl 1 [(.c (.s (.d (.int .i64 1))))]⟩, 
  ⟨(some 5), none, .mv (.t 12)⟩]
def c59r2 : List Opn := [
  ⟨(some 6), none, .mv (.c (.s (.d (.int .i64 0))))⟩]
def c59r3 : List Opn := [
  ⟨(some 13), none, .mv (.t 6)⟩, 
  ⟨(some 14), none, .mv (.t 1)⟩, 
  ⟨(some 15), none, .bin .lss (.t 13) (.t 14)⟩]
def c59r5 : List Opn := [
  ⟨(some 18), none, .mv (.t 5)⟩, 
  ⟨(some 19), none, .len (.sl 0) (.t 18)⟩, 
  ⟨(some 20), none, .mv (.t 0)⟩, 
  ⟨(some 21), none, .len (.sl 0) (.t 20)⟩, 
  ⟨(some 22), none, .bin .add (.t 19) (.t 21)⟩, 
  ⟨(some 23), none, .bin .add (.t 22) (.c (.s (.d (.int .i64 1))))⟩, 
  ⟨(some 24), none, .mksl 1 8 [(.d (.int .i64 0))] (.t 23) (.t 23)⟩, 
  ⟨(some 7), none, .mv (.t 24)⟩]
def c59r6 : List Opn := [
  ⟨(some 25), none, .mv (.t 5)⟩, 
  ⟨(some 26), none, .len (.sl 0) (.t 25)⟩, 
  ⟨(some 27), none, .mv (.c (.s (.d (.int .i64 0))))⟩]
def c59r7 : List Opn := [
  ⟨(some 28), none, .bin .lss (.t 27) (.t 26)⟩]
def c59r8 : List Opn := [
  ⟨(some 29), none, .mv (.t 27)⟩, 
  ⟨(some 8), none, .mv (.t 29)⟩]
def c59r9 : List Opn := [
  ⟨(some 30), none, .mv (.t 0)⟩, 
  ⟨(some 31), none, .len (.sl 0) (.t 30)⟩, 
  ⟨(some 32), none, .mv (.c (.s (.d (.int .i64 0))))⟩]
def c59r10 : List Opn := [
  ⟨(some 33), none, .bin .lss (.t 32) (.t 31)⟩]
def c59r11 : List Opn := [
  ⟨(some 34), none, .mv (.t 32)⟩, 
  ⟨(some 9), none, .mv (.t 34)⟩]
def c59r12 : List Opn := [
  ⟨(some 35), none, .mv (.t 7)⟩, 
  ⟨(some 36), none, .mv (.t 8)⟩, 
  ⟨(some 37), none, .mv (.t 9)⟩, 
  ⟨(some 38), none, .bin .add (.t 36) (.t 37)⟩, 
  ⟨(some 39), none, .mv (.t 7)⟩, 
  ⟨(some 40), none, .mv (.t 8)⟩, 
  ⟨(some 41), none, .mv (.t 9)⟩, 
  ⟨(some 42), none, .bin .add (.t 40) (.t 41)⟩, 
  ⟨(some 43), none, .iadr (.sl 1) (.t 39) (.t 42)⟩, 
  ⟨(some 44), none, .load false 1 (.t 43)⟩, 
  ⟨(some 45), none, .mv (.t 5)⟩, 
  ⟨(some 46), none, .mv (.t 8)⟩, 
  ⟨(some 47), none, .iadr (.sl 1) (.t 45) (.t 46)⟩, 
  ⟨(some 48), none, .load false 1 (.t 47)⟩, 
  ⟨(some 49), none, .mv (.t 0)⟩, 
  ⟨(some 50), none, .mv (.t 9)⟩, 
  ⟨(some 51), none, .iadr (.sl 1) (.t 49) (.t 50)⟩, 
  ⟨(some 52), none, .load false 1 (.t 51)⟩, 
  ⟨(some 53), none, .bin .mul (.t 48) (.t 52)⟩, 
  ⟨(some 54), none, .bin .add (.t 44) (.t 53)⟩, 
  ⟨(some 55), none, .iadr (.sl 1) (.t 35) (.t 38)⟩, 
  ⟨none, none, .store 1 (.t 55) (.t 54)⟩]
def c59r13 : List Opn := [
  ⟨(some 56), none, .bin .add (.t 32) (.c (.s (.d (.int .i64 1))))⟩, 
  ⟨(some 32), none, .mv (.t 56)⟩]
def c59l13 : C := .seq (.reg c59r10 none [0, 1, 5, 6, 7, 8, 26, 27, 31, 32, 33]) (.seq (.cond (.t 33) (.skip) (.exit 4)) (.seq (.blk 5 (.seq (.reg c59r11 none [0, 1, 5, 6, 7, 8, 9, 26, 27, 31, 32]) (.reg c59r12 (some [0, 0, 0, 6, 0, 0, 0, 96, 240, 496, 0, 0, 3072, 7168, 0, 0, 49152, 114688, 261120, 524272, 1048575, 2097151]) [0, 1, 5, 6, 7, 8, 26, 27, 31, 32]))) (.reg c59r13 none [0, 1, 5, 6, 7, 8, 26, 27, 31, 32])))
def c59r14 : List Opn := [
  ⟨(some 57), none, .bin .add (.t 27) (.c (.s (.d (.int .i64 1))))⟩, 
  ⟨(some 27), none, .mv (.t 57)⟩]
def c59l15 : C := .seq (.reg c59r7 none [0, 1, 5, 6, 7, 26, 27, 28]) (.seq (.cond (.t 28) (.skip) (.exit 2)) (.seq (.blk 3 (.seq (.reg c59r8 none [0, 1, 5, 6, 7, 8, 26, 27]) (.seq (.reg c59r9 none [0, 1, 5, 6, 7, 8, 26, 27, 31, 32]) (.blk 4 (.loop c59l13))))) (.reg c59r14 none [0, 1, 5, 6, 7, 26, 27])))
def c59r15 : List Opn := [
  ⟨(some 10), none, .mv (.c (.s (.d (.int .i64 0))))⟩]
def c59r16 : List Opn := [
  ⟨(some 58), none, .mv (.t 7)⟩, 
  ⟨(some 59), none, .len (.sl 0) (.t 58)⟩, 
  ⟨(some 60), none, .mv (.c (.s (.d (.int .i64 0))))⟩]
def c59r17 : List Opn := [
  ⟨(some 61), none, .bin .lss (.t 60) (.t 59)⟩]
def c59r18 : List Opn := [
  ⟨(some 62), none, .mv (.t 60)⟩, 
  ⟨(some 11), none, .mv (.t 62)⟩]
def c59r19 : List Opn := [
  ⟨(some 63), none, .mv (.t 10)⟩, 
  ⟨(some 64), none, .mv (.t 7)⟩, 
  ⟨(some 65), none, .mv (.t 11)⟩, 
  ⟨(some 66), none, .iadr (.sl 1) (.t 64) (.t 65)⟩, 
  ⟨(some 67), none, .load false 1 (.t 66)⟩, 
  ⟨(some 68), none, .bin .add (.t 63) (.t 67)⟩, 
  ⟨(some 10), none, .mv (.t 68)⟩]
def c59r20 : List Opn := [
  ⟨(some 69), none, .mv (.t 7)⟩, 
  ⟨(some 70), none, .mv (.t 11)⟩, 
  ⟨(some 71), none, .mv (.t 10)⟩, 
  ⟨(some 72), none, .bin .rem (.t 71) (.c (.s (.d (.int .i64 65536))))⟩, 
  ⟨(some 73), none, .iadr (.sl 1) (.t 69) (.t 70)⟩, 
  ⟨none, none, .store 1 (.t 73) (.t 72)⟩]
def c59r21 : List Opn := [
  ⟨(some 74), none, .mv (.t 10)⟩, 
  ⟨(some 75), none, .bin .quo (.t 74) (.c (.s (.d (.int .i64 65536))))⟩, 
  ⟨(some 10), none, .mv (.t 75)⟩]
def c59r22 : List Opn := [
  ⟨(some 76), none, .bin .add (.t 60) (.c (.s (.d (.int .i64 1))))⟩, 
  ⟨(some 60), none, .mv (.t 76)⟩]
def c59l24 : C := .seq (.reg c59r17 none [0, 1, 6, 7, 10, 59, 60, 61]) (.seq (.cond (.t 61) (.skip) (.exit 6)) (.seq (.blk 7 (.seq (.reg c59r18 none [0, 1, 6, 7, 10, 11, 59, 60]) (.seq (.reg c59r19 none [0, 1, 6, 7, 10, 11, 59, 60]) (.seq (.reg c59r20 none [0, 1, 6, 7, 10, 59, 60]) (.reg c59r21 none [0, 1, 6, 7, 10, 59, 60]))))) (.reg c59r22 none [0, 1, 6, 7, 10, 59, 60])))
def c59r23 : List Opn := [
  ⟨(some 77), none, .mv (.t 7)⟩, 
  ⟨(some 5), none, .mv (.t 77)⟩]
def c59r4 : List Opn := [
  ⟨(some 16), none, .mv (.t 6)⟩, 
  ⟨(some 17), none, .bin .add (.t 16) (.c (.s (.d (.int .i64 1))))⟩, 
  ⟨(some 6), none, .mv (.t 17)⟩]
def c59l27 : C := .seq (.seq (.reg c59r3 none [0, 1, 5, 6, 15]) (.cond (.t 15) (.skip) (.exit 0))) (.seq (.blk 1 (.seq (.reg c59r5 none [0, 1, 5, 6, 7]) (.seq (.seq (.reg c59r6 none [0, 1, 5, 6, 7, 26, 27]) (.blk 2 (.loop c59l15))) (.seq (.reg c59r15 none [0, 1, 6, 7, 10]) (.seq (.seq (.reg c59r16 none [0, 1, 6, 7, 10, 59, 60]) (.blk 6 (.loop c59l24))) (.reg c59r23 none [0, 1, 5, 6])))))) (.reg c59r4 none [0, 1, 5, 6]))
def c59r24 : List Opn := [
  ⟨(some 78), none, .mv (.t 5)⟩, 
  ⟨(some 4), none, .mv (.t 78)⟩]
def c59 : C := .seq (.reg c59r0 none [0, 1]) (.seq (.reg c59r1 none [0, 1, 5]) (.seq (.seq (.reg c59r2 none [0, 1, 5, 6]) (.blk 0 (.loop c59l27))) (.seq (.reg c59r24 none [4]) (.ret))))
def k59 : List (Nat × List Nat) := [(24, [4]), (4, [0, 1, 5, 6]), (23, [0, 1, 5, 6]), (22, [0, 1, 6, 7, 10, 59, 60]), (21, [0, 1, 6, 7, 10, 59, 60]), (20, [0, 1, 6, 7, 10, 59, 60]), (19, [0, 1, 6, 7, 10, 11, 59, 60]), (18, [0, 1, 6, 7, 10, 11, 59, 60]), (17, [0, 1, 6, 7, 10, 59, 60, 61]), (16, [0, 1, 6, 7, 10, 59, 60]), (15, [0, 1, 6, 7, 10]), (14, [0, 1, 5, 6, 7, 26, 27]), (13, [0, 1, 5, 6, 7, 8, 26, 27, 31, 32]), (12, [0, 1, 5, 6, 7, 8, 26, 27, 31, 32]), (11, [0, 1, 5, 6, 7, 8, 9, 26, 27, 31, 32]), (10, [0, 1, 5, 6, 7, 8, 26, 27, 31, 32, 33]), (9, [0, 1, 5, 6, 7, 8, 26, 27, 31, 32]), (8, [0, 1, 5, 6, 7, 8, 26, 27]), (7, [0, 1, 5, 6, 7, 26, 27, 28]), (6, [0, 1, 5, 6, 7, 26, 27]), (5, [0, 1, 5, 6, 7]), (3, [0, 1, 5, 6, 15]), (2, [0, 1, 5, 6]), (1, [0, 1, 5]), (0, [0, 1])]
theorem cc59 : (Tryd.f59.body).bind (cC Tryd.prog 79 k59) = some c59 := by kernel_rfl
def rv59 : List RV := [.t 4]
theorem cr59 : cRVs Tryd.prog Tryd.f59.results.toList = some rv59 := by kernel_rfl
theorem f_ref02_power_l13_ok (a : (List Int)) (n : Int) (kv : Int) (out : (List Int)) (v27 : Int) (y_ : (List Int)) (R_ : St → Prop) (hR : (RetO Tryd.prog glP 4 1 (y_.map (eI .i64))) = R_) : ∀ (m_ : Nat) (v32 : Int) (next2 : (List Int)) (res_ : Int × (List Int)) (h : f_ref02_power_l13 a n kv out v27 m_ v32 next2 = some res_) (k_ : List It) (hx : ∀ s_ : Int × (List Int), res_ = s_ → W Tryd.prog glP 79 k_ ⟨lkT [(0, .b (.s (.d (.sl (a.map (eI .i64)))))), (1, .b (.s (.d (.int .i64 n)))), (5, .b (.s (.own 12 out.length))), (6, .b (.s (.d (.int .i64 kv)))), (7, .b (.s (.own 24 s_.2.length))), (8, .b (.s (.d (.int .i64 v27)))), (26, .b (.s (.d (.int .i64 (out.length : Int))))), (27, .b (.s (.d (.int .i64 v27)))), (31, .b (.s (.d (.int .i64 (a.length : Int))))), (32, .b (.s (.d (.int .i64 s_.1))))], lkG [(12, ⟨1, er (eI .i64) out, false⟩), (24, ⟨1, er (eI .i64) s_.2, false⟩)]⟩ R_), W Tryd.prog glP 79 (.c c59l13 :: .lp c59l13 :: .blk 4 :: k_) ⟨lkT [(0, .b (.s (.d (.sl (a.map (eI .i64)))))), (1, .b (.s (.d (.int .i64 n)))), (5, .b (.s (.own 12 out.length))), (6, .b (.s (.d (.int .i64 kv)))), (7, .b (.s (.own 24 next2.length))), (8, .b (.s (.d (.int .i64 v27)))), (26, .b (.s (.d (.int .i64 (out.length : Int))))), (27, .b (.s (.d (.int .i64 v27)))), (31, .b (.s (.d (.int .i64 (a.length : Int))))), (32, .b (.s (.d (.int .i64 v32))))], lkG [(12, ⟨1, er (eI .i64) out, false⟩), (24, ⟨1, er (eI .i64) next2, false⟩)]⟩ R_ := by
  intro m_; induction m_ with
  | zero => intro v32 next2 res_ h; rw [f_ref02_power_l13.eq_1] at h; cases h
  | succ m_ ih =>
    intro v32 next2 res_ h k_ hx; rw [f_ref02_power_l13.eq_2] at h; refine W.cdef c59l13.eq_1 ?_
    refine .seq ?_
    refine Rw.walk ?_
    simp only [wz, wd, ws, Nat.reduceAdd, Nat.reduceSub, Nat.reduceMul, Nat.reduceLeDiff, Nat.reduceEqDiff, Nat.reduceLT, Nat.reduceBEq, reduceIte, reduceCtorEq, Int.reduceToNat, Nat.reduceShiftRight, Nat.reduceAnd, Nat.reduceBneDiff, Nat.reduceBNe, c59r10, semI.eq_10, semI.eq_11, semI.eq_3, semI.eq_5, semI.eq_7]
    refine .seq ?_
    refine .cond (p := (decide (v32 < (a.length : Int)))) (by first | rfl | simp only [wz, wd, ws, Nat.reduceAdd, Nat.reduceSub, Nat.reduceMul, Nat.reduceLeDiff, Nat.reduceEqDiff, Nat.reduceLT, Nat.reduceBEq, reduceIte, reduceCtorEq, Int.reduceToNat, Nat.reduceShiftRight, Nat.reduceAnd, Nat.reduceBneDiff, Nat.reduceBNe]) (fun h1 => ?_) (fun h1 => ?_)
    · rw [ite_t h1] at h
      refine .skip ?_
      refine .seq ?_
      refine .blk ?_
      refine .seq ?_
      refine Rw.walk ?_
      simp only [wz, wd, ws, Nat.reduceAdd, Nat.reduceSub, Nat.reduceMul, Nat.reduceLeDiff, Nat.reduceEqDiff, Nat.reduceLT, Nat.reduceBEq, reduceIte, reduceCtorEq, Int.reduceToNat, Nat.reduceShiftRight, Nat.reduceAnd, Nat.reduceBneDiff, Nat.reduceBNe, c59r11, semI.eq_10, semI.eq_11, semI.eq_3, semI.eq_5, semI.eq_7]
      refine RwD.walk ?_
      simp only [wz, wd, ws, Nat.reduceAdd, Nat.reduceSub, Nat.reduceMul, Nat.reduceLeDiff, Nat.reduceEqDiff, Nat.reduceLT, Nat.reduceBEq, reduceIte, reduceCtorEq, Int.reduceToNat, Nat.reduceShiftRight, Nat.reduceAnd, Nat.reduceBneDiff, Nat.reduceBNe, c59r12, semI.eq_3, semI.eq_5, semI.eq_7]
      obtain ⟨x, e2, h⟩ := Option.bind_eq_some_iff.1 h
      refine GoD1.of (sem_iadrO (l := next2) e2 (by rfl) (by rfl) (by rfl)) ?_
      simp only [wz, wd, ws, Nat.reduceAdd, Nat.reduceSub, Nat.reduceMul, Nat.reduceLeDiff, Nat.reduceEqDiff, Nat.reduceLT, Nat.reduceBEq, reduceIte, reduceCtorEq, Int.reduceToNat, Nat.reduceShiftRight, Nat.reduceAnd, Nat.reduceBneDiff, Nat.reduceBNe, c59r12, semI.eq_3, semI.eq_5, semI.eq_7, er_get e2]
      refine GoD1.of (semI.eq_10 ..) ?_
      simp only [wz, wd, ws, Nat.reduceAdd, Nat.reduceSub, Nat.reduceMul, Nat.reduceLeDiff, Nat.reduceEqDiff, Nat.reduceLT, Nat.reduceBEq, reduceIte, reduceCtorEq, Int.reduceToNat, Nat.reduceShiftRight, Nat.reduceAnd, Nat.reduceBneDiff, Nat.reduceBNe, c59r12, semI.eq_3, semI.eq_5, semI.eq_7, er_get e2]
      obtain ⟨x2, e3, h⟩ := Option.bind_eq_some_iff.1 h
      refine GoD1.of (sem_iadrO (l := out) e3 (by rfl) (by rfl) (by rfl)) ?_
      simp only [wz, wd, ws, Nat.reduceAdd, Nat.reduceSub, Nat.reduceMul, Nat.reduceLeDiff, Nat.reduceEqDiff, Nat.reduceLT, Nat.reduceBEq, reduceIte, reduceCtorEq, Int.reduceToNat, Nat.reduceShiftRight, Nat.reduceAnd, Nat.reduceBneDiff, Nat.reduceBNe, c59r12, semI.eq_3, semI.eq_5, semI.eq_7, er_get e2, er_get e3]
      refine GoD1.of (semI.eq_10 ..) ?_
      simp only [wz, wd, ws, Nat.reduceAdd, Nat.reduceSub, Nat.reduceMul, Nat.reduceLeDiff, Nat.reduceEqDiff, Nat.reduceLT, Nat.reduceBEq, reduceIte, reduceCtorEq, Int.reduceToNat, Nat.reduceShiftRight, Nat.reduceAnd, Nat.reduceBneDiff, Nat.reduceBNe, c59r12, semI.eq_3, semI.eq_5, semI.eq_7, er_get e2, er_get e3]
      obtain ⟨x3, e4, h⟩ := Option.bind_eq_some_iff.1 h
      refine GoD1.of (sem_iadr (eI_len _) e4 (by rfl) (by rfl)) ?_
      simp only [wz, wd, ws, Nat.reduceAdd, Nat.reduceSub, Nat.reduceMul, Nat.reduceLeDiff, Nat.reduceEqDiff, Nat.reduceLT, Nat.reduceBEq, reduceIte, reduceCtorEq, Int.reduceToNat, Nat.reduceShiftRight, Nat.reduceAnd, Nat.reduceBneDiff, Nat.reduceBNe, c59r12, semI.eq_3, semI.eq_5, semI.eq_7, er_get e2, er_get e3]
      refine GoD1.of (semI.eq_10 ..) ?_
      simp only [wz, wd, ws, Nat.reduceAdd, Nat.reduceSub, Nat.reduceMul, Nat.reduceLeDiff, Nat.reduceEqDiff, Nat.reduceLT, Nat.reduceBEq, reduceIte, reduceCtorEq, Int.reduceToNat, Nat.reduceShiftRight, Nat.reduceAnd, Nat.reduceBneDiff, Nat.reduceBNe, c59r12, semI.eq_3, semI.eq_5, semI.eq_7, er_get e2, er_get e3]
      obtain ⟨x4, e5, h⟩ := Option.bind_eq_some_iff.1 h
      refine GoD1.of (sem_iadrO (l := next2) e5 (by rfl) (by rfl) (by rfl)) ?_
      simp only [wz, wd, ws, Nat.reduceAdd, Nat.reduceSub, Nat.reduceMul, Nat.reduceLeDiff, Nat.reduceEqDiff, Nat.reduceLT, Nat.reduceBEq, reduceIte, reduceCtorEq, Int.reduceToNat, Nat.reduceShiftRight, Nat.reduceAnd, Nat.reduceBneDiff, Nat.reduceBNe, c59r12, semI.eq_3, semI.eq_5, semI.eq_7, er_get e2, er_get e3, er_get e5]
      refine GoD1.of (sem_store (enc := (eI .i64)) (l := next2) (a := x4) (a' := (IntKind.i64.wrap (x + (IntKind.i64.wrap (x2 * x3))))) (v := .b (.s (.d (.int .i64 (IntKind.i64.wrap (x + (IntKind.i64.wrap (x2 * x3)))))))) (by rfl) (by rfl) (er_get e5) (by rfl) (by trivial) (by rfl) (Nat.le_of_ble_eq_true (by rfl)) (by rfl)) ?_
      simp only [wz, wd, ws, Nat.reduceAdd, Nat.reduceSub, Nat.reduceMul, Nat.reduceLeDiff, Nat.reduceEqDiff, Nat.reduceLT, Nat.reduceBEq, reduceIte, reduceCtorEq, Int.reduceToNat, Nat.reduceShiftRight, Nat.reduceAnd, Nat.reduceBneDiff, Nat.reduceBNe, c59r12, semI.eq_3, semI.eq_5, semI.eq_7, er_get e2, er_get e3, er_get e5]
      refine .eblk ?_
      refine Rw.walk ?_
      simp only [wz, wd, ws, Nat.reduceAdd, Nat.reduceSub, Nat.reduceMul, Nat.reduceLeDiff, Nat.reduceEqDiff, Nat.reduceLT, Nat.reduceBEq, reduceIte, reduceCtorEq, Int.reduceToNat, Nat.reduceShiftRight, Nat.reduceAnd, Nat.reduceBneDiff, Nat.reduceBNe, c59r13, semI.eq_10, semI.eq_11, semI.eq_3, semI.eq_5, semI.eq_7, er_get e2, er_get e3, er_get e5]
      refine .lp ?_
      refine .weak (Imp.co [] _ _ ?_ ?_ ?_ ?_ ?_) (ih (IntKind.i64.wrap (v32 + 1)) (next2.set (IntKind.i64.wrap (v27 + v32)).toNat (IntKind.i64.wrap (x + (IntKind.i64.wrap (x2 * x3))))) _ h k_ hx) <;> simp only [wz, wd, ws, Nat.reduceAdd, Nat.reduceSub, Nat.reduceMul, Nat.reduceLeDiff, Nat.reduceEqDiff, Nat.reduceLT, Nat.reduceBEq, reduceIte, reduceCtorEq, Int.reduceToNat, Nat.reduceShiftRight, Nat.reduceAnd, Nat.reduceBneDiff, Nat.reduceBNe, wi, er_nil]
    · rw [ite_f h1] at h
      refine .exit rfl ?_
      obtain rfl := Option.some.inj h
      refine .weak (Imp.co [] _ _ ?_ ?_ ?_ ?_ ?_) (hx _ rfl) <;> simp only [wz, wd, ws, Nat.reduceAdd, Nat.reduceSub, Nat.reduceMul, Nat.reduceLeDiff, Nat.reduceEqDiff, Nat.reduceLT, Nat.reduceBEq, reduceIte, reduceCtorEq, Int.reduceToNat, Nat.reduceShiftRight, Nat.reduceAnd, Nat.reduceBneDiff, Nat.reduceBNe, wi, er_nil]
theorem f_ref02_power_l15_ok (a : (List Int)) (n : Int) (kv : Int) (out : (List Int)) (y_ : (List Int)) (R_ : St → Prop) (hR : (RetO Tryd.prog glP 4 1 (y_.map (eI .i64))) = R_) : ∀ (m_ : Nat) (v27 : Int) (next : (List Int)) (res_ : Int × (List Int)) (h : f_ref02_power_l15 a n kv out m_ v27 next = some res_) (k_ : List It) (hx : ∀ s_ : Int × (List Int), res_ = s_ → W Tryd.prog glP 79 k_ ⟨lkT [(0, .b (.s (.d (.sl (a.map (eI .i64)))))), (1, .b (.s (.d (.int .i64 n)))), (5, .b (.s (.own 12 out.length))), (6, .b (.s (.d (.int .i64 kv)))), (7, .b (.s (.own 24 s_.2.length))), (26, .b (.s (.d (.int .i64 (out.length : Int))))), (27, .b (.s (.d (.int .i64 s_.1))))], lkG [(12, ⟨1, er (eI .i64) out, false⟩), (24, ⟨1, er (eI .i64) s_.2, false⟩)]⟩ R_), W Tryd.prog glP 79 (.c c59l15 :: .lp c59l15 :: .blk 2 :: k_) ⟨lkT [(0, .b (.s (.d (.sl (a.map (eI .i64)))))), (1, .b (.s (.d (.int .i64 n)))), (5, .b (.s (.own 12 out.length))), (6, .b (.s (.d (.int .i64 kv)))), (7, .b (.s (.own 24 next.length))), (26, .b (.s (.d (.int .i64 (out.length : Int))))), (27, .b (.s (.d (.int .i64 v27))))], lkG [(12, ⟨1, er (eI .i64) out, false⟩), (24, ⟨1, er (eI .i64) next, false⟩)]⟩ R_ := by
  intro m_; induction m_ with
  | zero => intro v27 next res_ h; rw [f_ref02_power_l15.eq_1] at h; cases h
  | succ m_ ih =>
    intro v27 next res_ h k_ hx; rw [f_ref02_power_l15.eq_2] at h; refine W.cdef c59l15.eq_1 ?_
    refine .seq ?_
    refine Rw.walk ?_
    simp only [wz, wd, ws, Nat.reduceAdd, Nat.reduceSub, Nat.reduceMul, Nat.reduceLeDiff, Nat.reduceEqDiff, Nat.reduceLT, Nat.reduceBEq, reduceIte, reduceCtorEq, Int.reduceToNat, Nat.reduceShiftRight, Nat.reduceAnd, Nat.reduceBneDiff, Nat.reduceBNe, c59r7, semI.eq_10, semI.eq_11, semI.eq_3, semI.eq_5, semI.eq_7]
    refine .seq ?_
    refine .cond (p := (decide (v27 < (out.length : Int)))) (by first | rfl | simp only [wz, wd, ws, Nat.reduceAdd, Nat.reduceSub, Nat.reduceMul, Nat.reduceLeDiff, Nat.reduceEqDiff, Nat.reduceLT, Nat.reduceBEq, reduceIte, reduceCtorEq, Int.reduceToNat, Nat.reduceShiftRight, Nat.reduceAnd, Nat.reduceBneDiff, Nat.reduceBNe]) (fun h1 => ?_) (fun h1 => ?_)
    · rw [ite_t h1] at h
      refine .skip ?_
      refine .seq ?_
      refine .blk ?_
      refine .seq ?_
      refine Rw.walk ?_
      simp only [wz, wd, ws, Nat.reduceAdd, Nat.reduceSub, Nat.reduceMul, Nat.reduceLeDiff, Nat.reduceEqDiff, Nat.reduceLT, Nat.reduceBEq, reduceIte, reduceCtorEq, Int.reduceToNat, Nat.reduceShiftRight, Nat.reduceAnd, Nat.reduceBneDiff, Nat.reduceBNe, c59r8, semI.eq_10, semI.eq_11, semI.eq_3, semI.eq_5, semI.eq_7]
      refine .seq ?_
      refine Rw.walk ?_
      simp only [wz, wd, ws, Nat.reduceAdd, Nat.reduceSub, Nat.reduceMul, Nat.reduceLeDiff, Nat.reduceEqDiff, Nat.reduceLT, Nat.reduceBEq, reduceIte, reduceCtorEq, Int.reduceToNat, Nat.reduceShiftRight, Nat.reduceAnd, Nat.reduceBneDiff, Nat.reduceBNe, c59r9, semI.eq_10, semI.eq_11, semI.eq_3, semI.eq_5, semI.eq_7]
      refine .blk ?_
      obtain ⟨s, hf, h⟩ := Option.bind_eq_some_iff.1 h
      refine .loop (.weak (Imp.co [] _ _ ?c1 ?c2 ?c3 ?c4 ?c5) (f_ref02_power_l13_ok a n kv out v27 _ _ hR _ _ _ _ hf _ ?_))
      case c1 | c2 | c3 | c4 | c5 => simp only [wz, wd, ws, Nat.reduceAdd, Nat.reduceSub, Nat.reduceMul, Nat.reduceLeDiff, Nat.reduceEqDiff, Nat.reduceLT, Nat.reduceBEq, reduceIte, reduceCtorEq, Int.reduceToNat, Nat.reduceShiftRight, Nat.reduceAnd, Nat.reduceBneDiff, Nat.reduceBNe, wi, er_nil]
      · intro s_ hs; subst hs
        refine .eblk ?_
        refine Rw.walk ?_
        simp only [wz, wd, ws, Nat.reduceAdd, Nat.reduceSub, Nat.reduceMul, Nat.reduceLeDiff, Nat.reduceEqDiff, Nat.reduceLT, Nat.reduceBEq, reduceIte, reduceCtorEq, Int.reduceToNat, Nat.reduceShiftRight, Nat.reduceAnd, Nat.reduceBneDiff, Nat.reduceBNe, c59r14, semI.eq_10, semI.eq_11, semI.eq_3, semI.eq_5, semI.eq_7]
        refine .lp ?_
        refine .weak (Imp.co [] _ _ ?_ ?_ ?_ ?_ ?_) (ih (IntKind.i64.wrap (v27 + 1)) s.2 _ h k_ hx) <;> simp only [wz, wd, ws, Nat.reduceAdd, Nat.reduceSub, Nat.reduceMul, Nat.reduceLeDiff, Nat.reduceEqDiff, Nat.reduceLT, Nat.reduceBEq, reduceIte, reduceCtorEq, Int.reduceToNat, Nat.reduceShiftRight, Nat.reduceAnd, Nat.reduceBneDiff, Nat.reduceBNe, wi, er_nil]
    · rw [ite_f h1] at h
      refine .exit rfl ?_
      obtain rfl := Option.some.inj h
      refine .weak (Imp.co [] _ _ ?_ ?_ ?_ ?_ ?_) (hx _ rfl) <;> simp only [wz, wd, ws, Nat.reduceAdd, Nat.reduceSub, Nat.reduceMul, Nat.reduceLeDiff, Nat.reduceEqDiff, Nat.reduceLT, Nat.reduceBEq, reduceIte, reduceCtorEq, Int.reduceToNat, Nat.reduceShiftRight, Nat.reduceAnd, Nat.reduceBneDiff, Nat.reduceBNe, wi, er_nil]
theorem f_ref02_power_l24_ok (a : (List Int)) (n : Int) (kv : Int) (s : Int × (List Int)) (y_ : (List Int)) (R_ : St → Prop) (hR : (RetO Tryd.prog glP 4 1 (y_.map (eI .i64))) = R_) : ∀ (m_ : Nat) (rest : Int) (v60 : Int) (next : (List Int)) (res_ : Int × Int × (List Int)) (h : f_ref02_power_l24 a n kv s m_ rest v60 next = some res_) (k_ : List It) (hx : ∀ s_ : Int × Int × (List Int), res_ = s_ → W Tryd.prog glP 79 k_ ⟨lkT [(0, .b (.s (.d (.sl (a.map (eI .i64)))))), (1, .b (.s (.d (.int .i64 n)))), (6, .b (.s (.d (.int .i64 kv)))), (7, .b (.s (.own 24 s_.2.2.length))), (10, .b (.s (.d (.int .i64 s_.1)))), (59, .b (.s (.d (.int .i64 (s.2.length : Int))))), (60, .b (.s (.d (.int .i64 s_.2.1))))], lkG [(24, ⟨1, er (eI .i64) s_.2.2, false⟩)]⟩ R_), W Tryd.prog glP 79 (.c c59l24 :: .lp c59l24 :: .blk 6 :: k_) ⟨lkT [(0, .b (.s (.d (.sl (a.map (eI .i64)))))), (1, .b (.s (.d (.int .i64 n)))), (6, .b (.s (.d (.int .i64 kv)))), (7, .b (.s (.own 24 next.length))), (10, .b (.s (.d (.int .i64 rest)))), (59, .b (.s (.d (.int .i64 (s.2.length : Int))))), (60, .b (.s (.d (.int .i64 v60))))], lkG [(24, ⟨1, er (eI .i64) next, false⟩)]⟩ R_ := by
  intro m_; induction m_ with
  | zero => intro rest v60 next res_ h; rw [f_ref02_power_l24.eq_1] at h; cases h
  | succ m_ ih =>
    intro rest v60 next res_ h k_ hx; rw [f_ref02_power_l24.eq_2] at h; refine W.cdef c59l24.eq_1 ?_
    refine .seq ?_
    refine Rw.walk ?_
    simp only [wz, wd, ws, Nat.reduceAdd, Nat.reduceSub, Nat.reduceMul, Nat.reduceLeDiff, Nat.reduceEqDiff, Nat.reduceLT, Nat.reduceBEq, reduceIte, reduceCtorEq, Int.reduceToNat, Nat.reduceShiftRight, Nat.reduceAnd, Nat.reduceBneDiff, Nat.reduceBNe, c59r17, semI.eq_10, semI.eq_11, semI.eq_3, semI.eq_5, semI.eq_7]
    refine .seq ?_
    refine .cond (p := (decide (v60 < (s.2.length : Int)))) (by first | rfl | simp only [wz, wd, ws, Nat.reduceAdd, Nat.reduceSub, Nat.reduceMul, Nat.reduceLeDiff, Nat.reduceEqDiff, Nat.reduceLT, Nat.reduceBEq, reduceIte, reduceCtorEq, Int.reduceToNat, Nat.reduceShiftRight, Nat.reduceAnd, Nat.reduceBneDiff, Nat.reduceBNe]) (fun h1 => ?_) (fun h1 => ?_)
    · rw [ite_t h1] at h
      refine .skip ?_
      refine .seq ?_
      refine .blk ?_
      refine .seq ?_
      refine Rw.walk ?_
      simp only [wz, wd, ws, Nat.reduceAdd, Nat.reduceSub, Nat.reduceMul, Nat.reduceLeDiff, Nat.reduceEqDiff, Nat.reduceLT, Nat.reduceBEq, reduceIte, reduceCtorEq, Int.reduceToNat, Nat.reduceShiftRight, Nat.reduceAnd, Nat.reduceBneDiff, Nat.reduceBNe, c59r18, semI.eq_10, semI.eq_11, semI.eq_3, semI.eq_5, semI.eq_7]
      refine .seq ?_
      refine Rw.walk ?_
      simp only [wz, wd, ws, Nat.reduceAdd, Nat.reduceSub, Nat.reduceMul, Nat.reduceLeDiff, Nat.reduceEqDiff, Nat.reduceLT, Nat.reduceBEq, reduceIte, reduceCtorEq, Int.reduceToNat, Nat.reduceShiftRight, Nat.reduceAnd, Nat.reduceBneDiff, Nat.reduceBNe, c59r19, semI.eq_10, semI.eq_11, semI.eq_3, semI.eq_5, semI.eq_7]
      obtain ⟨x, e6, h⟩ := Option.bind_eq_some_iff.1 h
      refine Go1.of (sem_iadrO (l := next) e6 (by rfl) (by rfl) (by rfl)) ?_
      simp only [wz, wd, ws, Nat.reduceAdd, Nat.reduceSub, Nat.reduceMul, Nat.reduceLeDiff, Nat.reduceEqDiff, Nat.reduceLT, Nat.reduceBEq, reduceIte, reduceCtorEq, Int.reduceToNat, Nat.reduceShiftRight, Nat.reduceAnd, Nat.reduceBneDiff, Nat.reduceBNe, c59r19, semI.eq_10, semI.eq_11, semI.eq_3, semI.eq_5, semI.eq_7, er_get e6]
      refine .seq ?_
      refine Rw.walk ?_
      simp only [wz, wd, ws, Nat.reduceAdd, Nat.reduceSub, Nat.reduceMul, Nat.reduceLeDiff, Nat.reduceEqDiff, Nat.reduceLT, Nat.reduceBEq, reduceIte, reduceCtorEq, Int.reduceToNat, Nat.reduceShiftRight, Nat.reduceAnd, Nat.reduceBneDiff, Nat.reduceBNe, c59r20, semI.eq_3, semI.eq_5, semI.eq_7, er_get e6]
      repeat (refine And.intro ?_ ?_; · first | omega | (intro q; simp only [wz, wd, ws, Nat.reduceAdd, Nat.reduceSub, Nat.reduceMul, Nat.reduceLeDiff, Nat.reduceEqDiff, Nat.reduceLT, Nat.reduceBEq, reduceIte, reduceCtorEq, Int.reduceToNat, Nat.reduceShiftRight, Nat.reduceAnd, Nat.reduceBneDiff, Nat.reduceBNe, q]; done))
      obtain ⟨x2, e7, h⟩ := Option.bind_eq_some_iff.1 h
      refine Go1.of (sem_iadrO (l := next) e7 (by rfl) (by rfl) (by rfl)) ?_
      simp only [wz, wd, ws, Nat.reduceAdd, Nat.reduceSub, Nat.reduceMul, Nat.reduceLeDiff, Nat.reduceEqDiff, Nat.reduceLT, Nat.reduceBEq, reduceIte, reduceCtorEq, Int.reduceToNat, Nat.reduceShiftRight, Nat.reduceAnd, Nat.reduceBneDiff, Nat.reduceBNe, c59r20, semI.eq_3, semI.eq_5, semI.eq_7, er_get e6, er_get e7]
      refine Go1.of (sem_store (enc := (eI .i64)) (l := next) (a := x2) (a' := ((IntKind.i64.wrap (rest + x)).tmod 65536)) (v := .b (.s (.d (.int .i64 ((IntKind.i64.wrap (rest + x)).tmod 65536))))) (by rfl) (by rfl) (er_get e7) (by rfl) (by trivial) (by rfl) (Nat.le_of_ble_eq_true (by rfl)) (by rfl)) ?_
      simp only [wz, wd, ws, Nat.reduceAdd, Nat.reduceSub, Nat.reduceMul, Nat.reduceLeDiff, Nat.reduceEqDiff, Nat.reduceLT, Nat.reduceBEq, reduceIte, reduceCtorEq, Int.reduceToNat, Nat.reduceShiftRight, Nat.reduceAnd, Nat.reduceBneDiff, Nat.reduceBNe, c59r20, semI.eq_3, semI.eq_5, semI.eq_7, er_get e6, er_get e7]
      refine Rw.walk ?_
      simp only [wz, wd, ws, Nat.reduceAdd, Nat.reduceSub, Nat.reduceMul, Nat.reduceLeDiff, Nat.reduceEqDiff, Nat.reduceLT, Nat.reduceBEq, reduceIte, reduceCtorEq, Int.reduceToNat, Nat.reduceShiftRight, Nat.reduceAnd, Nat.reduceBneDiff, Nat.reduceBNe, c59r21, semI.eq_10, semI.eq_11, semI.eq_3, semI.eq_5, semI.eq_7, er_get e6, er_get e7]
      repeat (refine And.intro ?_ ?_; · first | omega | (intro q; simp only [wz, wd, ws, Nat.reduceAdd, Nat.reduceSub, Nat.reduceMul, Nat.reduceLeDiff, Nat.reduceEqDiff, Nat.reduceLT, Nat.reduceBEq, reduceIte, reduceCtorEq, Int.reduceToNat, Nat.reduceShiftRight, Nat.reduceAnd, Nat.reduceBneDiff, Nat.reduceBNe, q]; done))
      refine .eblk ?_
      refine Rw.walk ?_
      simp only [wz, wd, ws, Nat.reduceAdd, Nat.reduceSub, Nat.reduceMul, Nat.reduceLeDiff, Nat.reduceEqDiff, Nat.reduceLT, Nat.reduceBEq, reduceIte, reduceCtorEq, Int.reduceToNat, Nat.reduceShiftRight, Nat.reduceAnd, Nat.reduceBneDiff, Nat.reduceBNe, c59r22, semI.eq_10, semI.eq_11, semI.eq_3, semI.eq_5, semI.eq_7, er_get e6, er_get e7]
      refine .lp ?_
      refine .weak (Imp.co [] _ _ ?_ ?_ ?_ ?_ ?_) (ih (IntKind.i64.wrap ((IntKind.i64.wrap (rest + x)).tdiv 65536)) (IntKind.i64.wrap (v60 + 1)) (next.set v60.toNat ((IntKind.i64.wrap (rest + x)).tmod 65536)) _ h k_ hx) <;> simp only [wz, wd, ws, Nat.reduceAdd, Nat.reduceSub, Nat.reduceMul, Nat.reduceLeDiff, Nat.reduceEqDiff, Nat.reduceLT, Nat.reduceBEq, reduceIte, reduceCtorEq, Int.reduceToNat, Nat.reduceShiftRight, Nat.reduceAnd, Nat.reduceBneDiff, Nat.reduceBNe, wi, er_nil]
    · rw [ite_f h1] at h
      refine .exit rfl ?_
      obtain rfl := Option.some.inj h
      refine .weak (Imp.co [] _ _ ?_ ?_ ?_ ?_ ?_) (hx _ rfl) <;> simp only [wz, wd, ws, Nat.reduceAdd, Nat.reduceSub, Nat.reduceMul, Nat.reduceLeDiff, Nat.reduceEqDiff, Nat.reduceLT, Nat.reduceBEq, reduceIte, reduceCtorEq, Int.reduceToNat, Nat.reduceShiftRight, Nat.reduceAnd, Nat.reduceBneDiff, Nat.reduceBNe, wi, er_nil]
theorem f_ref02_power_l27_ok (a : (List Int)) (n : Int) (y_ : (List Int)) (R_ : St → Prop) (hR : (RetO Tryd.prog glP 4 1 (y_.map (eI .i64))) = R_) : ∀ (m_ : Nat) (kv : Int) (out : (List Int)) (res_ : Int × (List Int)) (h : f_ref02_power_l27 a n m_ kv out = some res_) (k_ : List It) (hx : ∀ s_ : Int × (List Int), res_ = s_ → W Tryd.prog glP 79 k_ ⟨lkT [(0, .b (.s (.d (.sl (a.map (eI .i64)))))), (1, .b (.s (.d (.int .i64 n)))), (5, .b (.s (.own 12 s_.2.length))), (6, .b (.s (.d (.int .i64 s_.1))))], lkG [(12, ⟨1, er (eI .i64) s_.2, false⟩)]⟩ R_), W Tryd.prog glP 79 (.c c59l27 :: .lp c59l27 :: .blk 0 :: k_) ⟨lkT [(0, .b (.s (.d (.sl (a.map (eI .i64)))))), (1, .b (.s (.d (.int .i64 n)))), (5, .b (.s (.own 12 out.length))), (6, .b (.s (.d (.int .i64 kv))))], lkG [(12, ⟨1, er (eI .i64) out, false⟩)]⟩ R_ := by
  intro m_; induction m_ with
  | zero => intro kv out res_ h; rw [f_ref02_power_l27.eq_1] at h; cases h
  | succ m_ ih =>
    intro kv out res_ h k_ hx; rw [f_ref02_power_l27.eq_2] at h; refine W.cdef c59l27.eq_1 ?_
    refine .seq ?_
    refine .seq ?_
    refine Rw.walk ?_
    simp only [wz, wd, ws, Nat.reduceAdd, Nat.reduceSub, Nat.reduceMul, Nat.reduceLeDiff, Nat.reduceEqDiff, Nat.reduceLT, Nat.reduceBEq, reduceIte, reduceCtorEq, Int.reduceToNat, Nat.reduceShiftRight, Nat.reduceAnd, Nat.reduceBneDiff, Nat.reduceBNe, c59r3, semI.eq_10, semI.eq_11, semI.eq_3, semI.eq_5, semI.eq_7]
    refine .cond (p := (decide (kv < n))) (by first | rfl | simp only [wz, wd, ws, Nat.reduceAdd, Nat.reduceSub, Nat.reduceMul, Nat.reduceLeDiff, Nat.reduceEqDiff, Nat.reduceLT, Nat.reduceBEq, reduceIte, reduceCtorEq, Int.reduceToNat, Nat.reduceShiftRight, Nat.reduceAnd, Nat.reduceBneDiff, Nat.reduceBNe]) (fun h1 => ?_) (fun h1 => ?_)
    · rw [ite_t h1] at h
      refine .skip ?_
      refine .seq ?_
      refine .blk ?_
      refine .seq ?_
      refine Rw.walk ?_
      simp only [wz, wd, ws, Nat.reduceAdd, Nat.reduceSub, Nat.reduceMul, Nat.reduceLeDiff, Nat.reduceEqDiff, Nat.reduceLT, Nat.reduceBEq, reduceIte, reduceCtorEq, Int.reduceToNat, Nat.reduceShiftRight, Nat.reduceAnd, Nat.reduceBneDiff, Nat.reduceBNe, c59r5, semI.eq_10, semI.eq_11, semI.eq_3, semI.eq_5, semI.eq_7]
      obtain ⟨g1, h⟩ := gd_iff.1 h
      repeat (refine And.intro ?_ ?_; · first | omega | (intro q; simp only [wz, wd, ws, Nat.reduceAdd, Nat.reduceSub, Nat.reduceMul, Nat.reduceLeDiff, Nat.reduceEqDiff, Nat.reduceLT, Nat.reduceBEq, reduceIte, reduceCtorEq, Int.reduceToNat, Nat.reduceShiftRight, Nat.reduceAnd, Nat.reduceBneDiff, Nat.reduceBNe, q]; done))
      refine Go1.of (sem_mksl (enc := (eI .i64)) (z1 := 0) (p := (IntKind.i64.wrap ((IntKind.i64.wrap ((out.length : Int) + (a.length : Int))) + 1))) (q := (IntKind.i64.wrap ((IntKind.i64.wrap ((out.length : Int) + (a.length : Int))) + 1))) (by rfl) (by rfl) (by rfl) (by rfl) (by rfl)) ?_
      simp only [wz, wd, ws, Nat.reduceAdd, Nat.reduceSub, Nat.reduceMul, Nat.reduceLeDiff, Nat.reduceEqDiff, Nat.reduceLT, Nat.reduceBEq, reduceIte, reduceCtorEq, Int.reduceToNat, Nat.reduceShiftRight, Nat.reduceAnd, Nat.reduceBneDiff, Nat.reduceBNe, c59r5, semI.eq_10, semI.eq_11, semI.eq_3, semI.eq_5, semI.eq_7]
      repeat (refine And.intro ?_ ?_; · first | omega | (intro q; simp only [wz, wd, ws, Nat.reduceAdd, Nat.reduceSub, Nat.reduceMul, Nat.reduceLeDiff, Nat.reduceEqDiff, Nat.reduceLT, Nat.reduceBEq, reduceIte, reduceCtorEq, Int.reduceToNat, Nat.reduceShiftRight, Nat.reduceAnd, Nat.reduceBneDiff, Nat.reduceBNe, q]; done))
      refine .seq ?_
      refine .seq ?_
      refine Rw.walk ?_
      simp only [wz, wd, ws, Nat.reduceAdd, Nat.reduceSub, Nat.reduceMul, Nat.reduceLeDiff, Nat.reduceEqDiff, Nat.reduceLT, Nat.reduceBEq, reduceIte, reduceCtorEq, Int.reduceToNat, Nat.reduceShiftRight, Nat.reduceAnd, Nat.reduceBneDiff, Nat.reduceBNe, c59r6, semI.eq_10, semI.eq_11, semI.eq_3, semI.eq_5, semI.eq_7]
      refine .blk ?_
      obtain ⟨s, hf, h⟩ := Option.bind_eq_some_iff.1 h
      refine .loop (.weak (Imp.co [] _ _ ?c1 ?c2 ?c3 ?c4 ?c5) (f_ref02_power_l15_ok a n kv out _ _ hR _ _ _ _ hf _ ?_))
      case c1 | c2 | c3 | c4 | c5 => simp only [wz, wd, ws, Nat.reduceAdd, Nat.reduceSub, Nat.reduceMul, Nat.reduceLeDiff, Nat.reduceEqDiff, Nat.reduceLT, Nat.reduceBEq, reduceIte, reduceCtorEq, Int.reduceToNat, Nat.reduceShiftRight, Nat.reduceAnd, Nat.reduceBneDiff, Nat.reduceBNe, wi, er_nil]
      · intro s_ hs; subst hs
        refine .seq ?_
        refine Rw.walk ?_
        simp only [wz, wd, ws, Nat.reduceAdd, Nat.reduceSub, Nat.reduceMul, Nat.reduceLeDiff, Nat.reduceEqDiff, Nat.reduceLT, Nat.reduceBEq, reduceIte, reduceCtorEq, Int.reduceToNat, Nat.reduceShiftRight, Nat.reduceAnd, Nat.reduceBneDiff, Nat.reduceBNe, c59r15, semI.eq_10, semI.eq_11, semI.eq_3, semI.eq_5, semI.eq_7]
        refine .seq ?_
        refine .seq ?_
        refine Rw.walk ?_
        simp only [wz, wd, ws, Nat.reduceAdd, Nat.reduceSub, Nat.reduceMul, Nat.reduceLeDiff, Nat.reduceEqDiff, Nat.reduceLT, Nat.reduceBEq, reduceIte, reduceCtorEq, Int.reduceToNat, Nat.reduceShiftRight, Nat.reduceAnd, Nat.reduceBneDiff, Nat.reduceBNe, c59r16, semI.eq_10, semI.eq_11, semI.eq_3, semI.eq_5, semI.eq_7]
        refine .blk ?_
        obtain ⟨s2, hf, h⟩ := Option.bind_eq_some_iff.1 h
        refine .loop (.weak (Imp.co [] _ _ ?c1 ?c2 ?c3 ?c4 ?c5) (f_ref02_power_l24_ok a n kv s _ _ hR _ _ _ _ _ hf _ ?_))
        case c1 | c2 | c3 | c4 | c5 => simp only [wz, wd, ws, Nat.reduceAdd, Nat.reduceSub, Nat.reduceMul, Nat.reduceLeDiff, Nat.reduceEqDiff, Nat.reduceLT, Nat.reduceBEq, reduceIte, reduceCtorEq, Int.reduceToNat, Nat.reduceShiftRight, Nat.reduceAnd, Nat.reduceBneDiff, Nat.reduceBNe, wi, er_nil]
        · intro s2_ hs; subst hs
          refine Rw.walk ?_
          simp only [wz, wd, ws, Nat.reduceAdd, Nat.reduceSub, Nat.reduceMul, Nat.reduceLeDiff, Nat.reduceEqDiff, Nat.reduceLT, Nat.reduceBEq, reduceIte, reduceCtorEq, Int.reduceToNat, Nat.reduceShiftRight, Nat.reduceAnd, Nat.reduceBneDiff, Nat.reduceBNe, c59r23, semI.eq_10, semI.eq_11, semI.eq_3, semI.eq_5, semI.eq_7]
          refine .eblk ?_
          refine Rw.walk ?_
          simp only [wz, wd, ws, Nat.reduceAdd, Nat.reduceSub, Nat.reduceMul, Nat.reduceLeDiff, Nat.reduceEqDiff, Nat.reduceLT, Nat.reduceBEq, reduceIte, reduceCtorEq, Int.reduceToNat, Nat.reduceShiftRight, Nat.reduceAnd, Nat.reduceBneDiff, Nat.reduceBNe, c59r4, semI.eq_10, semI.eq_11, semI.eq_3, semI.eq_5, semI.eq_7]
          refine .lp ?_
          refine .weak (Imp.co [] [(5, .b (.s (.own 24 s2.2.2.length))), (0, .b (.s (.d (.sl (a.map (eI .i64)))))), (1, .b (.s (.d (.int .i64 n)))), (6, .b (.s (.d (.int .i64 (IntKind.i64.wrap (kv + 1))))))] [(24, ⟨1, er (eI .i64) s2.2.2, false⟩)] ?c1 ?c2 ?c3 ?c4 ?c5) ?c6
          case c1 | c2 | c3 | c4 | c5 => simp only [wz, wd, ws, Nat.reduceAdd, Nat.reduceSub, Nat.reduceMul, Nat.reduceLeDiff, Nat.reduceEqDiff, Nat.reduceLT, Nat.reduceBEq, reduceIte, reduceCtorEq, Int.reduceToNat, Nat.reduceShiftRight, Nat.reduceAnd, Nat.reduceBneDiff, Nat.reduceBNe, wi, er_nil]
          case c6 =>
            refine .weak (Imp.ren 5 12 24 _ _ _ _ rfl rfl (by simp only [wz, wd, ws, Nat.reduceAdd, Nat.reduceSub, Nat.reduceMul, Nat.reduceLeDiff, Nat.reduceEqDiff, Nat.reduceLT, Nat.reduceBEq, reduceIte, reduceCtorEq, Int.reduceToNat, Nat.reduceShiftRight, Nat.reduceAnd, Nat.reduceBneDiff, Nat.reduceBNe, wi]) (by simp only [wz, wd, ws, Nat.reduceAdd, Nat.reduceSub, Nat.reduceMul, Nat.reduceLeDiff, Nat.reduceEqDiff, Nat.reduceLT, Nat.reduceBEq, reduceIte, reduceCtorEq, Int.reduceToNat, Nat.reduceShiftRight, Nat.reduceAnd, Nat.reduceBneDiff, Nat.reduceBNe, wi]) (by simp only [wz, wd, ws, Nat.reduceAdd, Nat.reduceSub, Nat.reduceMul, Nat.reduceLeDiff, Nat.reduceEqDiff, Nat.reduceLT, Nat.reduceBEq, reduceIte, reduceCtorEq, Int.reduceToNat, Nat.reduceShiftRight, Nat.reduceAnd, Nat.reduceBneDiff, Nat.reduceBNe, wi])) ?_
            refine .weak (Imp.co [] _ _ ?_ ?_ ?_ ?_ ?_) (ih (IntKind.i64.wrap (kv + 1)) s2.2.2 _ h k_ hx) <;> simp only [wz, wd, ws, Nat.reduceAdd, Nat.reduceSub, Nat.reduceMul, Nat.reduceLeDiff, Nat.reduceEqDiff, Nat.reduceLT, Nat.reduceBEq, reduceIte, reduceCtorEq, Int.reduceToNat, Nat.reduceShiftRight, Nat.reduceAnd, Nat.reduceBneDiff, Nat.reduceBNe, wi, er_nil]
    · rw [ite_f h1] at h
      refine .exit rfl ?_
      obtain rfl := Option.some.inj h
      refine .weak (Imp.co [] _ _ ?_ ?_ ?_ ?_ ?_) (hx _ rfl) <;> simp only [wz, wd, ws, Nat.reduceAdd, Nat.reduceSub, Nat.reduceMul, Nat.reduceLeDiff, Nat.reduceEqDiff, Nat.reduceLT, Nat.reduceBEq, reduceIte, reduceCtorEq, Int.reduceToNat, Nat.reduceShiftRight, Nat.reduceAnd, Nat.reduceBneDiff, Nat.reduceBNe, wi, er_nil]
theorem f_ref02_power_ok (a : (List Int)) (n : Int) (y_ : (List Int)) (h : f_ref02_power a n = some y_) : FunO Tryd.prog glP 59 [.b (.s (.d (.sl (a.map (eI .i64))))), .b (.s (.d (.int .i64 n)))] 1 (y_.map (eI .i64)) := by
  refine funO_walk Tryd.func59 Tryd.ntmps59 cc59 cr59 (by kernel_rfl) (by simp only [List.length_cons, List.length_nil]; decide) ?_
  generalize hR : RetO _ _ _ _ _ = R_
  simp only [wz, wd, ws, Nat.reduceAdd, Nat.reduceSub, Nat.reduceMul, Nat.reduceLeDiff, Nat.reduceEqDiff, Nat.reduceLT, Nat.reduceBEq, reduceIte, reduceCtorEq, Int.reduceToNat, Nat.reduceShiftRight, Nat.reduceAnd, Nat.reduceBneDiff, Nat.reduceBNe]
  unfold f_ref02_power at h; unfold c59
  refine .seq ?_
  refine Rw.walk ?_
  simp only [wz, wd, ws, Nat.reduceAdd, Nat.reduceSub, Nat.reduceMul, Nat.reduceLeDiff, Nat.reduceEqDiff, Nat.reduceLT, Nat.reduceBEq, reduceIte, reduceCtorEq, Int.reduceToNat, Nat.reduceShiftRight, Nat.reduceAnd, Nat.reduceBneDiff, Nat.reduceBNe, c59r0, semI.eq_10, semI.eq_11, semI.eq_3, semI.eq_5, semI.eq_7]
  refine .seq ?_
  refine Rw.walk ?_
  simp only [wz, wd, ws, Nat.reduceAdd, Nat.reduceSub, Nat.reduceMul, Nat.reduceLeDiff, Nat.reduceEqDiff, Nat.reduceLT, Nat.reduceBEq, reduceIte, reduceCtorEq, Int.reduceToNat, Nat.reduceShiftRight, Nat.reduceAnd, Nat.reduceBneDiff, Nat.reduceBNe, c59r1, semI.eq_10, semI.eq_11, semI.eq_3, semI.eq_5, semI.eq_7]
  refine Go1.of (sem_bsl (enc := (eI .i64)) (m := ([1] : List Int)) (eI_len _) (by rfl) (by rfl) (by rfl) ⟨trivial, trivial⟩) ?_
  simp only [wz, wd, ws, Nat.reduceAdd, Nat.reduceSub, Nat.reduceMul, Nat.reduceLeDiff, Nat.reduceEqDiff, Nat.reduceLT, Nat.reduceBEq, reduceIte, reduceCtorEq, Int.reduceToNat, Nat.reduceShiftRight, Nat.reduceAnd, Nat.reduceBneDiff, Nat.reduceBNe, c59r1, semI.eq_10, semI.eq_11, semI.eq_3, semI.eq_5, semI.eq_7]
  refine .seq ?_
  refine .seq ?_
  refine Rw.walk ?_
  simp only [wz, wd, ws, Nat.reduceAdd, Nat.reduceSub, Nat.reduceMul, Nat.reduceLeDiff, Nat.reduceEqDiff, Nat.reduceLT, Nat.reduceBEq, reduceIte, reduceCtorEq, Int.reduceToNat, Nat.reduceShiftRight, Nat.reduceAnd, Nat.reduceBneDiff, Nat.reduceBNe, c59r2, semI.eq_10, semI.eq_11, semI.eq_3, semI.eq_5, semI.eq_7]
  refine .blk ?_
  obtain ⟨s, hf, h⟩ := Option.bind_eq_some_iff.1 h
  refine .loop (.weak (Imp.co [] _ _ ?c1 ?c2 ?c3 ?c4 ?c5) (f_ref02_power_l27_ok a n _ _ hR _ _ _ _ hf _ ?_))
  case c1 | c2 | c3 | c4 | c5 => simp only [wz, wd, ws, Nat.reduceAdd, Nat.reduceSub, Nat.reduceMul, Nat.reduceLeDiff, Nat.reduceEqDiff, Nat.reduceLT, Nat.reduceBEq, reduceIte, reduceCtorEq, Int.reduceToNat, Nat.reduceShiftRight, Nat.reduceAnd, Nat.reduceBneDiff, Nat.reduceBNe, wi, er_nil]
  · intro s_ hs; subst hs
    refine .seq ?_
    refine Rw.walk ?_
    simp only [wz, wd, ws, Nat.reduceAdd, Nat.reduceSub, Nat.reduceMul, Nat.reduceLeDiff, Nat.reduceEqDiff, Nat.reduceLT, Nat.reduceBEq, reduceIte, reduceCtorEq, Int.reduceToNat, Nat.reduceShiftRight, Nat.reduceAnd, Nat.reduceBneDiff, Nat.reduceBNe, c59r24, semI.eq_10, semI.eq_11, semI.eq_3, semI.eq_5, semI.eq_7]
    obtain rfl := Option.some.inj h
    refine .ret ?_
    rw [← hR]
    refine ⟨12, ?_, ?_⟩ <;> simp only [wz, wd, ws, Nat.reduceAdd, Nat.reduceSub, Nat.reduceMul, Nat.reduceLeDiff, Nat.reduceEqDiff, Nat.reduceLT, Nat.reduceBEq, reduceIte, reduceCtorEq, Int.reduceToNat, Nat.reduceShiftRight, Nat.reduceAnd, Nat.reduceBneDiff, Nat.reduceBNe, er, List.length_map]
-- 58 consignor/consignorref02.above
def c58r0 : List Opn := [
  ⟨(some 6), none, .mv (.c (.s (.d (.bool false))))⟩]
def c58r1 : List Opn := [
  ⟨(some 9), none, .mv (.t 0)⟩, 
  ⟨(some 10), none, .len (.sl 0) (.t 9)⟩, 
  ⟨(some 11), none, .bin .sub (.t 10) (.c (.s (.d (.int .i64 1))))⟩, 
  ⟨(some 7), none, .mv (.t 11)⟩]
def c58r2 : List Opn := [
  ⟨(some 12), none, .mv (.t 7)⟩, 
  ⟨(some 13), none, .bin .geq (.t 12) (.c (.s (.d (.int .i64 0))))⟩]
def c58r4 : List Opn := [
  ⟨(some 8), none, .mv (.c (.s (.d (.int .i64 0))))⟩]
def c58r5 : List Opn := [
  ⟨(some 16), none, .mv (.t 7)⟩, 
  ⟨(some 17), none, .mv (.t 2)⟩, 
  ⟨(some 18), none, .bin .eql (.t 16) (.t 17)⟩]
def c58r6 : List Opn := [
  ⟨(some 19), none, .mv (.t 1)⟩, 
  ⟨(some 8), none, .mv (.t 19)⟩]
def c58r7 : List Opn := [
  ⟨(some 20), none, .mv (.t 0)⟩, 
  ⟨(some 21), none, .mv (.t 7)⟩, 
  ⟨(some 22), none, .iadr (.sl 1) (.t 20) (.t 21)⟩, 
  ⟨(some 23), none, .load false 1 (.t 22)⟩, 
  ⟨(some 24), none, .mv (.t 8)⟩, 
  ⟨(some 25), none, .bin .neq (.t 23) (.t 24)⟩]
def c58r8 : List Opn := [
  ⟨(some 26), none, .mv (.t 0)⟩, 
  ⟨(some 27), none, .mv (.t 7)⟩, 
  ⟨(some 28), none, .iadr (.sl 1) (.t 26) (.t 27)⟩, 
  ⟨(some 29), none, .load false 1 (.t 28)⟩, 
  ⟨(some 30), none, .mv (.t 8)⟩, 
  ⟨(some 31), none, .bin .gtr (.t 29) (.t 30)⟩, 
  ⟨(some 6), none, .mv (.t 31)⟩]
def c58r3 : List Opn := [
  ⟨(some 14), none, .mv (.t 7)⟩, 
  ⟨(some 15), none, .bin .sub (.t 14) (.c (.s (.d (.int .i64 1))))⟩, 
  ⟨(some 7), none, .mv (.t 15)⟩]
def c58l9 : C := .seq (.seq (.reg c58r2 none [0, 1, 2, 7, 13]) (.cond (.t 13) (.skip) (.exit 0))) (.seq (.blk 1 (.seq (.reg c58r4 none [0, 1, 2, 7, 8]) (.seq (.seq (.reg c58r5 none [0, 1, 2, 7, 8, 18]) (.cond (.t 18) (.reg c58r6 none [0, 1, 2, 7, 8]) (.skip))) (.seq (.reg c58r7 none [0, 1, 2, 7, 8, 25]) (.cond (.t 25) (.seq (.reg c58r8 none [6]) (.ret)) (.skip)))))) (.reg c58r3 none [0, 1, 2, 7]))
def c58r9 : List Opn := [
  ⟨(some 6), none, .mv (.c (.s (.d (.bool false))))⟩]
def c58 : C := .seq (.reg c58r0 none [0, 1, 2]) (.seq (.seq (.reg c58r1 none [0, 1, 2, 7]) (.blk 0 (.loop c58l9))) (.seq (.reg c58r9 none [6]) (.ret)))
def k58 : List (Nat × List Nat) := [(9, [6]), (3, [0, 1, 2, 7]), (8, [6]), (7, [0, 1, 2, 7, 8, 25]), (6, [0, 1, 2, 7, 8]), (5, [0, 1, 2, 7, 8, 18]), (4, [0, 1, 2, 7, 8]), (2, [0, 1, 2, 7, 13]), (1, [0, 1, 2, 7]), (0, [0, 1, 2])]
theorem cc58 : (Tryd.f58.body).bind (cC Tryd.prog 32 k58) = some c58 := by kernel_rfl
def rv58 : List RV := [.t 6]
theorem cr58 : cRVs Tryd.prog Tryd.f58.results.toList = some rv58 := by kernel_rfl
theorem f_ref02_above_l9_ok (a : (List Int)) (p : Int) (n : Int) (y_ : Bool) (R_ : St → Prop) (hR : (Ret Tryd.prog glP [] rv58 (.b (.s (.d (.bool y_))))) = R_) : ∀ (m_ : Nat) (i : Int) (res_ : (Int) ⊕ (Bool)) (h : f_ref02_above_l9 a p n m_ i = some res_) (k_ : List It) (hx : ∀ s_ : Int, res_ = .inl s_ → W Tryd.prog glP 32 k_ ⟨lkT [(0, .b (.s (.d (.sl (a.map (eI .i64)))))), (1, .b (.s (.d (.int .i64 p)))), (2, .b (.s (.d (.int .i64 n)))), (7, .b (.s (.d (.int .i64 s_))))], lkG []⟩ R_) (hr : ∀ z_ : Bool, res_ = .inr z_ → z_ = y_), W Tryd.prog glP 32 (.c c58l9 :: .lp c58l9 :: .blk 0 :: k_) ⟨lkT [(0, .b (.s (.d (.sl (a.map (eI .i64)))))), (1, .b (.s (.d (.int .i64 p)))), (2, .b (.s (.d (.int .i64 n)))), (7, .b (.s (.d (.int .i64 i))))], lkG []⟩ R_ := by
  intro m_; induction m_ with
  | zero => intro i res_ h; rw [f_ref02_above_l9.eq_1] at h; cases h
  | succ m_ ih =>
    intro i res_ h k_ hx hr; rw [f_ref02_above_l9.eq_2] at h; refine W.cdef c58l9.eq_1 ?_
    refine .seq ?_
    refine .seq ?_
    refine Rw.walk ?_
    simp only [wz, wd, ws, Nat.reduceAdd, Nat.reduceSub, Nat.reduceMul, Nat.reduceLeDiff, Nat.reduceEqDiff, Nat.reduceLT, Nat.reduceBEq, reduceIte, reduceCtorEq, Int.reduceToNat, Nat.reduceShiftRight, Nat.reduceAnd, Nat.reduceBneDiff, Nat.reduceBNe, c58r2, semI.eq_10, semI.eq_11, semI.eq_3, semI.eq_5, semI.eq_7]
    refine .cond (p := (decide (i ≥ 0))) (by first | rfl | simp only [wz, wd, ws, Nat.reduceAdd, Nat.reduceSub, Nat.reduceMul, Nat.reduceLeDiff, Nat.reduceEqDiff, Nat.reduceLT, Nat.reduceBEq, reduceIte, reduceCtorEq, Int.reduceToNat, Nat.reduceShiftRight, Nat.reduceAnd, Nat.reduceBneDiff, Nat.reduceBNe]) (fun h1 => ?_) (fun h1 => ?_)
    · rw [ite_t h1] at h
      refine .skip ?_
      refine .seq ?_
      refine .blk ?_
      refine .seq ?_
      refine Rw.walk ?_
      simp only [wz, wd, ws, Nat.reduceAdd, Nat.reduceSub, Nat.reduceMul, Nat.reduceLeDiff, Nat.reduceEqDiff, Nat.reduceLT, Nat.reduceBEq, reduceIte, reduceCtorEq, Int.reduceToNat, Nat.reduceShiftRight, Nat.reduceAnd, Nat.reduceBneDiff, Nat.reduceBNe, c58r4, semI.eq_10, semI.eq_11, semI.eq_3, semI.eq_5, semI.eq_7]
      refine .seq ?_
      obtain ⟨s, hf, h⟩ := Option.bind_eq_some_iff.1 h
      refine W.cut1 ⟨lkT [(0, .b (.s (.d (.sl (a.map (eI .i64)))))), (1, .b (.s (.d (.int .i64 p)))), (2, .b (.s (.d (.int .i64 n)))), (7, .b (.s (.d (.int .i64 i)))), (8, .b (.s (.d (.int .i64 s))))], lkG []⟩ ?_ (fun tail => ?_)
      · skip
        refine .seq ?_
        refine Rw.walk ?_
        simp only [wz, wd, ws, Nat.reduceAdd, Nat.reduceSub, Nat.reduceMul, Nat.reduceLeDiff, Nat.reduceEqDiff, Nat.reduceLT, Nat.reduceBEq, reduceIte, reduceCtorEq, Int.reduceToNat, Nat.reduceShiftRight, Nat.reduceAnd, Nat.reduceBneDiff, Nat.reduceBNe, c58r7, semI.eq_10, semI.eq_11, semI.eq_3, semI.eq_5, semI.eq_7]
        obtain ⟨x, e1, h⟩ := Option.bind_eq_some_iff.1 h
        refine Go1.of (sem_iadr (eI_len _) e1 (by rfl) (by rfl)) ?_
        simp only [wz, wd, ws, Nat.reduceAdd, Nat.reduceSub, Nat.reduceMul, Nat.reduceLeDiff, Nat.reduceEqDiff, Nat.reduceLT, Nat.reduceBEq, reduceIte, reduceCtorEq, Int.reduceToNat, Nat.reduceShiftRight, Nat.reduceAnd, Nat.reduceBneDiff, Nat.reduceBNe, c58r7, semI.eq_10, semI.eq_11, semI.eq_3, semI.eq_5, semI.eq_7]
        refine .cond (p := (x != s)) (by first | rfl | simp only [wz, wd, ws, Nat.reduceAdd, Nat.reduceSub, Nat.reduceMul, Nat.reduceLeDiff, Nat.reduceEqDiff, Nat.reduceLT, Nat.reduceBEq, reduceIte, reduceCtorEq, Int.reduceToNat, Nat.reduceShiftRight, Nat.reduceAnd, Nat.reduceBneDiff, Nat.reduceBNe]) (fun h1 => ?_) (fun h1 => ?_)
        · rw [ite_t h1] at h
          refine .seq ?_
          refine Rw.walk ?_
          simp only [wz, wd, ws, Nat.reduceAdd, Nat.reduceSub, Nat.reduceMul, Nat.reduceLeDiff, Nat.reduceEqDiff, Nat.reduceLT, Nat.reduceBEq, reduceIte, reduceCtorEq, Int.reduceToNat, Nat.reduceShiftRight, Nat.reduceAnd, Nat.reduceBneDiff, Nat.reduceBNe, c58r8, semI.eq_10, semI.eq_11, semI.eq_3, semI.eq_5, semI.eq_7]
          obtain ⟨x2, e2, h⟩ := Option.bind_eq_some_iff.1 h
          refine Go1.of (sem_iadr (eI_len _) e2 (by rfl) (by rfl)) ?_
          simp only [wz, wd, ws, Nat.reduceAdd, Nat.reduceSub, Nat.reduceMul, Nat.reduceLeDiff, Nat.reduceEqDiff, Nat.reduceLT, Nat.reduceBEq, reduceIte, reduceCtorEq, Int.reduceToNat, Nat.reduceShiftRight, Nat.reduceAnd, Nat.reduceBneDiff, Nat.reduceBNe, c58r8, semI.eq_10, semI.eq_11, semI.eq_3, semI.eq_5, semI.eq_7]
          obtain rfl := Option.some.inj h; obtain rfl := hr _ rfl
          refine .ret ?_
          rw [← hR]
          simp only [wz, wd, ws, Nat.reduceAdd, Nat.reduceSub, Nat.reduceMul, Nat.reduceLeDiff, Nat.reduceEqDiff, Nat.reduceLT, Nat.reduceBEq, reduceIte, reduceCtorEq, Int.reduceToNat, Nat.reduceShiftRight, Nat.reduceAnd, Nat.reduceBneDiff, Nat.reduceBNe, rv58]
        · rw [ite_f h1] at h
          refine .skip ?_
          refine .eblk ?_
          refine Rw.walk ?_
          simp only [wz, wd, ws, Nat.reduceAdd, Nat.reduceSub, Nat.reduceMul, Nat.reduceLeDiff, Nat.reduceEqDiff, Nat.reduceLT, Nat.reduceBEq, reduceIte, reduceCtorEq, Int.reduceToNat, Nat.reduceShiftRight, Nat.reduceAnd, Nat.reduceBneDiff, Nat.reduceBNe, c58r3, semI.eq_10, semI.eq_11, semI.eq_3, semI.eq_5, semI.eq_7]
          refine .lp ?_
          refine .weak (Imp.co [] _ _ ?_ ?_ ?_ ?_ ?_) (ih (IntKind.i64.wrap (i - 1)) _ h k_ hx hr) <;> simp only [wz, wd, ws, Nat.reduceAdd, Nat.reduceSub, Nat.reduceMul, Nat.reduceLeDiff, Nat.reduceEqDiff, Nat.reduceLT, Nat.reduceBEq, reduceIte, reduceCtorEq, Int.reduceToNat, Nat.reduceShiftRight, Nat.reduceAnd, Nat.reduceBneDiff, Nat.reduceBNe, wi, er_nil]
      replace h := hf
      refine .seq ?_
      refine Rw.walk ?_
      simp only [wz, wd, ws, Nat.reduceAdd, Nat.reduceSub, Nat.reduceMul, Nat.reduceLeDiff, Nat.reduceEqDiff, Nat.reduceLT, Nat.reduceBEq, reduceIte, reduceCtorEq, Int.reduceToNat, Nat.reduceShiftRight, Nat.reduceAnd, Nat.reduceBneDiff, Nat.reduceBNe, c58r5, semI.eq_10, semI.eq_11, semI.eq_3, semI.eq_5, semI.eq_7]
      refine .cond (p := (i == n)) (by first | rfl | simp only [wz, wd, ws, Nat.reduceAdd, Nat.reduceSub, Nat.reduceMul, Nat.reduceLeDiff, Nat.reduceEqDiff, Nat.reduceLT, Nat.reduceBEq, reduceIte, reduceCtorEq, Int.reduceToNat, Nat.reduceShiftRight, Nat.reduceAnd, Nat.reduceBneDiff, Nat.reduceBNe]) (fun h1 => ?_) (fun h1 => ?_)
      · rw [ite_t h1] at h
        refine Rw.walk ?_
        simp only [wz, wd, ws, Nat.reduceAdd, Nat.reduceSub, Nat.reduceMul, Nat.reduceLeDiff, Nat.reduceEqDiff, Nat.reduceLT, Nat.reduceBEq, reduceIte, reduceCtorEq, Int.reduceToNat, Nat.reduceShiftRight, Nat.reduceAnd, Nat.reduceBneDiff, Nat.reduceBNe, c58r6, semI.eq_10, semI.eq_11, semI.eq_3, semI.eq_5, semI.eq_7]
        obtain rfl := Option.some.inj h
        refine .weak (Imp.co [] _ _ ?_ ?_ ?_ ?_ ?_) (tail) <;> simp only [wz, wd, ws, Nat.reduceAdd, Nat.reduceSub, Nat.reduceMul, Nat.reduceLeDiff, Nat.reduceEqDiff, Nat.reduceLT, Nat.reduceBEq, reduceIte, reduceCtorEq, Int.reduceToNat, Nat.reduceShiftRight, Nat.reduceAnd, Nat.reduceBneDiff, Nat.reduceBNe, wi, er_nil]
      · rw [ite_f h1] at h
        refine .skip ?_
        obtain rfl := Option.some.inj h
        refine .weak (Imp.co [] _ _ ?_ ?_ ?_ ?_ ?_) (tail) <;> simp only [wz, wd, ws, Nat.reduceAdd, Nat.reduceSub, Nat.reduceMul, Nat.reduceLeDiff, Nat.reduceEqDiff, Nat.reduceLT, Nat.reduceBEq, reduceIte, reduceCtorEq, Int.reduceToNat, Nat.reduceShiftRight, Nat.reduceAnd, Nat.reduceBneDiff, Nat.reduceBNe, wi, er_nil]
    · rw [ite_f h1] at h
      refine .exit rfl ?_
      obtain rfl := Option.some.inj h
      refine .weak (Imp.co [] _ _ ?_ ?_ ?_ ?_ ?_) (hx _ rfl) <;> simp only [wz, wd, ws, Nat.reduceAdd, Nat.reduceSub, Nat.reduceMul, Nat.reduceLeDiff, Nat.reduceEqDiff, Nat.reduceLT, Nat.reduceBEq, reduceIte, reduceCtorEq, Int.reduceToNat, Nat.reduceShiftRight, Nat.reduceAnd, Nat.reduceBneDiff, Nat.reduceBNe, wi, er_nil]
theorem f_ref02_above_ok (a : (List Int)) (p : Int) (n : Int) (y_ : Bool) (h : f_ref02_above a p n = some y_) : Fun Tryd.prog glP 58 [.b (.s (.d (.sl (a.map (eI .i64))))), .b (.s (.d (.int .i64 p))), .b (.s (.d (.int .i64 n)))] (.b (.s (.d (.bool y_)))) := by
  refine fun_walk [] Tryd.func58 Tryd.ntmps58 cc58 cr58 (by kernel_rfl) (by simp only [List.length_cons, List.length_nil]; decide) ?_
  generalize hR : Ret _ _ _ _ _ = R_
  simp only [wz, wd, ws, Nat.reduceAdd, Nat.reduceSub, Nat.reduceMul, Nat.reduceLeDiff, Nat.reduceEqDiff, Nat.reduceLT, Nat.reduceBEq, reduceIte, reduceCtorEq, Int.reduceToNat, Nat.reduceShiftRight, Nat.reduceAnd, Nat.reduceBneDiff, Nat.reduceBNe]
  unfold f_ref02_above at h; unfold c58
  refine .seq ?_
  refine Rw.walk ?_
  simp only [wz, wd, ws, Nat.reduceAdd, Nat.reduceSub, Nat.reduceMul, Nat.reduceLeDiff, Nat.reduceEqDiff, Nat.reduceLT, Nat.reduceBEq, reduceIte, reduceCtorEq, Int.reduceToNat, Nat.reduceShiftRight, Nat.reduceAnd, Nat.reduceBneDiff, Nat.reduceBNe, c58r0, semI.eq_10, semI.eq_11, semI.eq_3, semI.eq_5, semI.eq_7]
  refine .seq ?_
  refine .seq ?_
  refine Rw.walk ?_
  simp only [wz, wd, ws, Nat.reduceAdd, Nat.reduceSub, Nat.reduceMul, Nat.reduceLeDiff, Nat.reduceEqDiff, Nat.reduceLT, Nat.reduceBEq, reduceIte, reduceCtorEq, Int.reduceToNat, Nat.reduceShiftRight, Nat.reduceAnd, Nat.reduceBneDiff, Nat.reduceBNe, c58r1, semI.eq_10, semI.eq_11, semI.eq_3, semI.eq_5, semI.eq_7]
  refine .blk ?_
  obtain ⟨s, hf, h⟩ := Option.bind_eq_some_iff.1 h
  refine .loop (.weak (Imp.co [] _ _ ?c1 ?c2 ?c3 ?c4 ?c5) (f_ref02_above_l9_ok a p n _ _ hR _ _ _ hf _ ?_ ?_))
  case c1 | c2 | c3 | c4 | c5 => simp only [wz, wd, ws, Nat.reduceAdd, Nat.reduceSub, Nat.reduceMul, Nat.reduceLeDiff, Nat.reduceEqDiff, Nat.reduceLT, Nat.reduceBEq, reduceIte, reduceCtorEq, Int.reduceToNat, Nat.reduceShiftRight, Nat.reduceAnd, Nat.reduceBneDiff, Nat.reduceBNe, wi, er_nil]
  · intro s2 hs; subst hs; dsimp only at h
    refine .seq ?_
    refine Rw.walk ?_
    simp only [wz, wd, ws, Nat.reduceAdd, Nat.reduceSub, Nat.reduceMul, Nat.reduceLeDiff, Nat.reduceEqDiff, Nat.reduceLT, Nat.reduceBEq, reduceIte, reduceCtorEq, Int.reduceToNat, Nat.reduceShiftRight, Nat.reduceAnd, Nat.reduceBneDiff, Nat.reduceBNe, c58r9, semI.eq_10, semI.eq_11, semI.eq_3, semI.eq_5, semI.eq_7]
    obtain rfl := Option.some.inj h
    refine .ret ?_
    rw [← hR]
    simp only [wz, wd, ws, Nat.reduceAdd, Nat.reduceSub, Nat.reduceMul, Nat.reduceLeDiff, Nat.reduceEqDiff, Nat.reduceLT, Nat.reduceBEq, reduceIte, reduceCtorEq, Int.reduceToNat, Nat.reduceShiftRight, Nat.reduceAnd, Nat.reduceBneDiff, Nat.reduceBNe, rv58]
  · intro z hz; subst hz; dsimp only at h
    exact Option.some.inj h
-- 42 consignor/consignorref02.root
def c42r0 : List Opn := [
  ⟨(some 4), none, .mv (.c (.s (.d (.int .u32 0))))⟩]
def c42r1 : List Opn := [
  ⟨(some 10), none, .bsl 1 [(.c (.s (.d (.int .i64 0)))), (.c (.s (.d (.int .i64 0)))), (.c (.s (.d (.int .i64 0))))]⟩, 
  ⟨(some 5), none, .mv (.t 10)⟩]
def c42r2 : List Opn := [
  ⟨(some 6), none, .mv (.c (.s (.d (.int .i64 36))))⟩]
def c42r3 : List Opn := [
  ⟨(some 11), none, .mv (.t 6)⟩, 
  ⟨(some 12), none, .bin .geq (.t 11) (.c (.s (.d (.int .i64 0))))⟩]
def c42r5 : List Opn := [
  ⟨(some 15), none, .mv (.t 6)⟩, 
  ⟨(some 16), none, .bin .quo (.t 15) (.c (.s (.d (.int .i64 16))))⟩, 
  ⟨(some 7), none, .mv (.t 16)⟩]
def c42r6 : List Opn := [
  ⟨(some 8), none, .mv (.c (.s (.d (.int .i64 1))))⟩]
def c42r7 : List Opn := [
  ⟨(some 9), none, .mv (.c (.s (.d (.int .i64 0))))⟩]
def c42r8 : List Opn := [
  ⟨(some 17), none, .mv (.t 9)⟩, 
  ⟨(some 18), none, .mv (.t 6)⟩, 
  ⟨(some 19), none, .bin .rem (.t 18) (.c (.s (.d (.int .i64 16))))⟩, 
  ⟨(some 20), none, .bin .lss (.t 17) (.t 19)⟩]
def c42r10 : List Opn := [
  ⟨(some 23), none, .mv (.t 8)⟩, 
  ⟨(some 24), none, .bin .mul (.c (.s (.d (.int .i64 2)))) (.t 23)⟩, 
  ⟨(some 8), none, .mv (.t 24)⟩]
def c42r9 : List Opn := [
  ⟨(some 21), none, .mv (.t 9)⟩, 
  ⟨(some 22), none, .bin .add (.t 21) (.c (.s (.d (.int .i64 1))))⟩, 
  ⟨(some 9), none, .mv (.t 22)⟩]
def c42l10 : C := .seq (.seq (.reg c42r8 none [0, 1, 5, 6, 7, 8, 9, 20]) (.cond (.t 20) (.skip) (.exit 2))) (.seq (.blk 3 (.reg c42r10 none [0, 1, 5, 6, 7, 8, 9])) (.reg c42r9 none [0, 1, 5, 6, 7, 8, 9]))
def c42r11 : List Opn := [
  ⟨(some 25), none, .mv (.t 5)⟩, 
  ⟨(some 26), none, .mv (.t 7)⟩, 
  ⟨(some 27), none, .mv (.t 5)⟩, 
  ⟨(some 28), none, .mv (.t 7)⟩, 
  ⟨(some 29), none, .iadr (.sl 1) (.t 27) (.t 28)⟩, 
  ⟨(some 30), none, .load false 1 (.t 29)⟩, 
  ⟨(some 31), none, .mv (.t 8)⟩, 
  ⟨(some 32), none, .bin .add (.t 30) (.t 31)⟩, 
  ⟨(some 33), none, .iadr (.sl 1) (.t 25) (.t 26)⟩, 
  ⟨none, none, .store 1 (.t 33) (.t 32)⟩]
def c42r12 : List Opn := [
  ⟨(some 34), none, .mv (.t 5)⟩, 
  ⟨(some 35), none, .mv (.t 1)⟩, 
  ⟨(some 36), none, .call (.fn 59) [(.t 34), (.t 35)]⟩, 
  ⟨(some 37), none, .mv (.t 0)⟩, 
  ⟨(some 38), none, .mv (.t 1)⟩, 
  ⟨(some 39), none, .bin .mul (.c (.s (.d (.int .i64 2)))) (.t 38)⟩, 
  ⟨(some 40), none, .call (.fn 58) [(.t 36), (.t 37), (.t 39)]⟩]
def c42r13 : List Opn := [
  ⟨(some 41), none, .mv (.t 5)⟩, 
  ⟨(some 42), none, .mv (.t 7)⟩, 
  ⟨(some 43), none, .mv (.t 5)⟩, 
  ⟨(some 44), none, .mv (.t 7)⟩, 
  ⟨(some 45), none, .iadr (.sl 1) (.t 43) (.t 44)⟩, 
  ⟨(some 46), none, .load false 1 (.t 45)⟩, 
  ⟨(some 47), none, .mv (.t 8)⟩, 
  ⟨(some 48), none, .bin .sub (.t 46) (.t 47)⟩, 
  ⟨(some 49), none, .iadr (.sl 1) (.t 41) (.t 42)⟩, 
  ⟨none, none, .store 1 (.t 49) (.t 48)⟩]
def c42r4 : List Opn := [
  ⟨(some 13), none, .mv (.t 6)⟩, 
  ⟨(some 14), none, .bin .sub (.t 13) (.c (.s (.d (.int .i64 1))))⟩, 
  ⟨(some 6), none, .mv (.t 14)⟩]
def c42l15 : C := .seq (.seq (.reg c42r3 none [0, 1, 5, 6, 12]) (.cond (.t 12) (.skip) (.exit 0))) (.seq (.blk 1 (.seq (.reg c42r5 none [0, 1, 5, 6, 7]) (.seq (.reg c42r6 none [0, 1, 5, 6, 7, 8]) (.seq (.seq (.reg c42r7 none [0, 1, 5, 6, 7, 8, 9]) (.blk 2 (.loop c42l10))) (.seq (.reg c42r11 none [0, 1, 5, 6, 7, 8]) (.seq (.reg c42r12 none [0, 1, 5, 6, 7, 8, 40]) (.cond (.t 40) (.reg c42r13 none [0, 1, 5, 6]) (.skip)))))))) (.reg c42r4 none [0, 1, 5, 6]))
def c42r14 : List Opn := [
  ⟨(some 50), none, .mv (.t 5)⟩, 
  ⟨(some 51), none, .iadr (.sl 1) (.t 50) (.c (.s (.d (.int .i64 1))))⟩, 
  ⟨(some 52), none, .load false 1 (.t 51)⟩, 
  ⟨(some 53), none, .bin .mul (.c (.s (.d (.int .i64 65536)))) (.t 52)⟩, 
  ⟨(some 54), none, .mv (.t 5)⟩, 
  ⟨(some 55), none, .iadr (.sl 1) (.t 54) (.c (.s (.d (.int .i64 0))))⟩, 
  ⟨(some 56), none, .load false 1 (.t 55)⟩, 
  ⟨(some 57), none, .bin .add (.t 53) (.t 56)⟩, 
  ⟨(some 58), none, .cv (.toInt .u32) (.t 57)⟩, 
  ⟨(some 4), none, .mv (.t 58)⟩]
def c42 : C := .seq (.reg c42r0 none [0, 1]) (.seq (.reg c42r1 none [0, 1, 5]) (.seq (.seq (.reg c42r2 none [0, 1, 5, 6]) (.blk 0 (.loop c42l15))) (.seq (.reg c42r14 (some [0, 1, 3, 7, 0, 16, 48, 127, 255, 511]) [4]) (.ret))))
def k42 : List (Nat × List Nat) := [(14, [4]), (4, [0, 1, 5, 6]), (13, [0, 1, 5, 6]), (12, [0, 1, 5, 6, 7, 8, 40]), (11, [0, 1, 5, 6, 7, 8]), (9, [0, 1, 5, 6, 7, 8, 9]), (10, [0, 1, 5, 6, 7, 8, 9]), (8, [0, 1, 5, 6, 7, 8, 9, 20]), (7, [0, 1, 5, 6, 7, 8, 9]), (6, [0, 1, 5, 6, 7, 8]), (5, [0, 1, 5, 6, 7]), (3, [0, 1, 5, 6, 12]), (2, [0, 1, 5, 6]), (1, [0, 1, 5]), (0, [0, 1])]
theorem cc42 : (Tryd.f42.body).bind (cC Tryd.prog 59 k42) = some c42 := by kernel_rfl
def rv42 : List RV := [.t 4]
theorem cr42 : cRVs Tryd.prog Tryd.f42.results.toList = some rv42 := by kernel_rfl
theorem f_ref02_root_l10_ok (p : Int) (n : Int) (bit : Int) (a : (List Int)) (y_ : Int) (R_ : St → Prop) (hR : (Ret Tryd.prog glP [] rv42 (.b (.s (.d (.int .u32 y_))))) = R_) : ∀ (m_ : Nat) (add : Int) (i : Int) (res_ : Int × Int) (h : f_ref02_root_l10 p n bit a m_ add i = some res_) (k_ : List It) (hx : ∀ s_ : Int × Int, res_ = s_ → W Tryd.prog glP 59 k_ ⟨lkT [(0, .b (.s (.d (.int .i64 p)))), (1, .b (.s (.d (.int .i64 n)))), (5, .b (.s (.own 10 a.length))), (6, .b (.s (.d (.int .i64 bit)))), (7, .b (.s (.d (.int .i64 (IntKind.i64.wrap (bit.tdiv 16)))))), (8, .b (.s (.d (.int .i64 s_.1)))), (9, .b (.s (.d (.int .i64 s_.2))))], lkG [(10, ⟨1, er (eI .i64) a, false⟩)]⟩ R_), W Tryd.prog glP 59 (.c c42l10 :: .lp c42l10 :: .blk 2 :: k_) ⟨lkT [(0, .b (.s (.d (.int .i64 p)))), (1, .b (.s (.d (.int .i64 n)))), (5, .b (.s (.own 10 a.length))), (6, .b (.s (.d (.int .i64 bit)))), (7, .b (.s (.d (.int .i64 (IntKind.i64.wrap (bit.tdiv 16)))))), (8, .b (.s (.d (.int .i64 add)))), (9, .b (.s (.d (.int .i64 i))))], lkG [(10, ⟨1, er (eI .i64) a, false⟩)]⟩ R_ := by
  intro m_; induction m_ with
  | zero => intro add i res_ h; rw [f_ref02_root_l10.eq_1] at h; cases h
  | succ m_ ih =>
    intro add i res_ h k_ hx; rw [f_ref02_root_l10.eq_2] at h; refine W.cdef c42l10.eq_1 ?_
    refine .seq ?_
    refine .seq ?_
    refine Rw.walk ?_
    simp only [wz, wd, ws, Nat.reduceAdd, Nat.reduceSub, Nat.reduceMul, Nat.reduceLeDiff, Nat.reduceEqDiff, Nat.reduceLT, Nat.reduceBEq, reduceIte, reduceCtorEq, Int.reduceToNat, Nat.reduceShiftRight, Nat.reduceAnd, Nat.reduceBneDiff, Nat.reduceBNe, c42r8, semI.eq_10, semI.eq_11, semI.eq_3, semI.eq_5, semI.eq_7]
    repeat (refine And.intro ?_ ?_; · first | omega | (intro q; simp only [wz, wd, ws, Nat.reduceAdd, Nat.reduceSub, Nat.reduceMul, Nat.reduceLeDiff, Nat.reduceEqDiff, Nat.reduceLT, Nat.reduceBEq, reduceIte, reduceCtorEq, Int.reduceToNat, Nat.reduceShiftRight, Nat.reduceAnd, Nat.reduceBneDiff, Nat.reduceBNe, q]; done))
    refine .cond (p := (decide (i < (bit.tmod 16)))) (by first | rfl | simp only [wz, wd, ws, Nat.reduceAdd, Nat.reduceSub, Nat.reduceMul, Nat.reduceLeDiff, Nat.reduceEqDiff, Nat.reduceLT, Nat.reduceBEq, reduceIte, reduceCtorEq, Int.reduceToNat, Nat.reduceShiftRight, Nat.reduceAnd, Nat.reduceBneDiff, Nat.reduceBNe]) (fun h1 => ?_) (fun h1 => ?_)
    · rw [ite_t h1] at h
      refine .skip ?_
      refine .seq ?_
      refine .blk ?_
      refine Rw.walk ?_
      simp only [wz, wd, ws, Nat.reduceAdd, Nat.reduceSub, Nat.reduceMul, Nat.reduceLeDiff, Nat.reduceEqDiff, Nat.reduceLT, Nat.reduceBEq, reduceIte, reduceCtorEq, Int.reduceToNat, Nat.reduceShiftRight, Nat.reduceAnd, Nat.reduceBneDiff, Nat.reduceBNe, c42r10, semI.eq_10, semI.eq_11, semI.eq_3, semI.eq_5, semI.eq_7]
      refine .eblk ?_
      refine Rw.walk ?_
      simp only [wz, wd, ws, Nat.reduceAdd, Nat.reduceSub, Nat.reduceMul, Nat.reduceLeDiff, Nat.reduceEqDiff, Nat.reduceLT, Nat.reduceBEq, reduceIte, reduceCtorEq, Int.reduceToNat, Nat.reduceShiftRight, Nat.reduceAnd, Nat.reduceBneDiff, Nat.reduceBNe, c42r9, semI.eq_10, semI.eq_11, semI.eq_3, semI.eq_5, semI.eq_7]
      refine .lp ?_
      refine .weak (Imp.co [] _ _ ?_ ?_ ?_ ?_ ?_) (ih (IntKind.i64.wrap (2 * add)) (IntKind.i64.wrap (i + 1)) _ h k_ hx) <;> simp only [wz, wd, ws, Nat.reduceAdd, Nat.reduceSub, Nat.reduceMul, Nat.reduceLeDiff, Nat.reduceEqDiff, Nat.reduceLT, Nat.reduceBEq, reduceIte, reduceCtorEq, Int.reduceToNat, Nat.reduceShiftRight, Nat.reduceAnd, Nat.reduceBneDiff, Nat.reduceBNe, wi, er_nil]
    · rw [ite_f h1] at h
      refine .exit rfl ?_
      obtain rfl := Option.some.inj h
      refine .weak (Imp.co [] _ _ ?_ ?_ ?_ ?_ ?_) (hx _ rfl) <;> simp only [wz, wd, ws, Nat.reduceAdd, Nat.reduceSub, Nat.reduceMul, Nat.reduceLeDiff, Nat.reduceEqDiff, Nat.reduceLT, Nat.reduceBEq, reduceIte, reduceCtorEq, Int.reduceToNat, Nat.reduceShiftRight, Nat.reduceAnd, Nat.reduceBneDiff, Nat.reduceBNe, wi, er_nil]
theorem f_ref02_root_l15_ok (p : Int) (n : Int) (y_ : Int) (R_ : St → Prop) (hR : (Ret Tryd.prog glP [] rv42 (.b (.s (.d (.int .u32 y_))))) = R_) : ∀ (m_ : Nat) (bit : Int) (a : (List Int)) (res_ : Int × (List Int)) (h : f_ref02_root_l15 p n m_ bit a = some res_) (k_ : List It) (hx : ∀ s_ : Int × (List Int), res_ = s_ → W Tryd.prog glP 59 k_ ⟨lkT [(0, .b (.s (.d (.int .i64 p)))), (1, .b (.s (.d (.int .i64 n)))), (5, .b (.s (.own 10 s_.2.length))), (6, .b (.s (.d (.int .i64 s_.1))))], lkG [(10, ⟨1, er (eI .i64) s_.2, false⟩)]⟩ R_), W Tryd.prog glP 59 (.c c42l15 :: .lp c42l15 :: .blk 0 :: k_) ⟨lkT [(0, .b (.s (.d (.int .i64 p)))), (1, .b (.s (.d (.int .i64 n)))), (5, .b (.s (.own 10 a.length))), (6, .b (.s (.d (.int .i64 bit))))], lkG [(10, ⟨1, er (eI .i64) a, false⟩)]⟩ R_ := by
  intro m_; induction m_ with
  | zero => intro bit a res_ h; rw [f_ref02_root_l15.eq_1] at h; cases h
  | succ m_ ih =>
    intro bit a res_ h k_ hx; rw [f_ref02_root_l15.eq_2] at h; refine W.cdef c42l15.eq_1 ?_
    refine .seq ?_
    refine .seq ?_
    refine Rw.walk ?_
    simp only [wz, wd, ws, Nat.reduceAdd, Nat.reduceSub, Nat.reduceMul, Nat.reduceLeDiff, Nat.reduceEqDiff, Nat.reduceLT, Nat.reduceBEq, reduceIte, reduceCtorEq, Int.reduceToNat, Nat.reduceShiftRight, Nat.reduceAnd, Nat.reduceBneDiff, Nat.reduceBNe, c42r3, semI.eq_10, semI.eq_11, semI.eq_3, semI.eq_5, semI.eq_7]
    refine .cond (p := (decide (bit ≥ 0))) (by first | rfl | simp only [wz, wd, ws, Nat.reduceAdd, Nat.reduceSub, Nat.reduceMul, Nat.reduceLeDiff, Nat.reduceEqDiff, Nat.reduceLT, Nat.reduceBEq, reduceIte, reduceCtorEq, Int.reduceToNat, Nat.reduceShiftRight, Nat.reduceAnd, Nat.reduceBneDiff, Nat.reduceBNe]) (fun h1 => ?_) (fun h1 => ?_)
    · rw [ite_t h1] at h
      refine .skip ?_
      refine .seq ?_
      refine .blk ?_
      refine .seq ?_
      refine Rw.walk ?_
      simp only [wz, wd, ws, Nat.reduceAdd, Nat.reduceSub, Nat.reduceMul, Nat.reduceLeDiff, Nat.reduceEqDiff, Nat.reduceLT, Nat.reduceBEq, reduceIte, reduceCtorEq, Int.reduceToNat, Nat.reduceShiftRight, Nat.reduceAnd, Nat.reduceBneDiff, Nat.reduceBNe, c42r5, semI.eq_10, semI.eq_11, semI.eq_3, semI.eq_5, semI.eq_7]
      repeat (refine And.intro ?_ ?_; · first | omega | (intro q; simp only [wz, wd, ws, Nat.reduceAdd, Nat.reduceSub, Nat.reduceMul, Nat.reduceLeDiff, Nat.reduceEqDiff, Nat.reduceLT, Nat.reduceBEq, reduceIte, reduceCtorEq, Int.reduceToNat, Nat.reduceShiftRight, Nat.reduceAnd, Nat.reduceBneDiff, Nat.reduceBNe, q]; done))
      refine .seq ?_
      refine Rw.walk ?_
      simp only [wz, wd, ws, Nat.reduceAdd, Nat.reduceSub, Nat.reduceMul, Nat.reduceLeDiff, Nat.reduceEqDiff, Nat.reduceLT, Nat.reduceBEq, reduceIte, reduceCtorEq, Int.reduceToNat, Nat.reduceShiftRight, Nat.reduceAnd, Nat.reduceBneDiff, Nat.reduceBNe, c42r6, semI.eq_10, semI.eq_11, semI.eq_3, semI.eq_5, semI.eq_7]
      refine .seq ?_
      refine .seq ?_
      refine Rw.walk ?_
      simp only [wz, wd, ws, Nat.reduceAdd, Nat.reduceSub, Nat.reduceMul, Nat.reduceLeDiff, Nat.reduceEqDiff, Nat.reduceLT, Nat.reduceBEq, reduceIte, reduceCtorEq, Int.reduceToNat, Nat.reduceShiftRight, Nat.reduceAnd, Nat.reduceBneDiff, Nat.reduceBNe, c42r7, semI.eq_10, semI.eq_11, semI.eq_3, semI.eq_5, semI.eq_7]
      refine .blk ?_
      obtain ⟨s, hf, h⟩ := Option.bind_eq_some_iff.1 h
      refine .loop (.weak (Imp.co [] _ _ ?c1 ?c2 ?c3 ?c4 ?c5) (f_ref02_root_l10_ok p n bit a _ _ hR _ _ _ _ hf _ ?_))
      case c1 | c2 | c3 | c4 | c5 => simp only [wz, wd, ws, Nat.reduceAdd, Nat.reduceSub, Nat.reduceMul, Nat.reduceLeDiff, Nat.reduceEqDiff, Nat.reduceLT, Nat.reduceBEq, reduceIte, reduceCtorEq, Int.reduceToNat, Nat.reduceShiftRight, Nat.reduceAnd, Nat.reduceBneDiff, Nat.reduceBNe, wi, er_nil]
      · intro s_ hs; subst hs
        refine .seq ?_
        refine Rw.walk ?_
        simp only [wz, wd, ws, Nat.reduceAdd, Nat.reduceSub, Nat.reduceMul, Nat.reduceLeDiff, Nat.reduceEqDiff, Nat.reduceLT, Nat.reduceBEq, reduceIte, reduceCtorEq, Int.reduceToNat, Nat.reduceShiftRight, Nat.reduceAnd, Nat.reduceBneDiff, Nat.reduceBNe, c42r11, semI.eq_3, semI.eq_5, semI.eq_7]
        obtain ⟨x, e1, h⟩ := Option.bind_eq_some_iff.1 h
        refine Go1.of (sem_iadrO (l := a) e1 (by rfl) (by rfl) (by rfl)) ?_
        simp only [wz, wd, ws, Nat.reduceAdd, Nat.reduceSub, Nat.reduceMul, Nat.reduceLeDiff, Nat.reduceEqDiff, Nat.reduceLT, Nat.reduceBEq, reduceIte, reduceCtorEq, Int.reduceToNat, Nat.reduceShiftRight, Nat.reduceAnd, Nat.reduceBneDiff, Nat.reduceBNe, c42r11, semI.eq_3, semI.eq_5, semI.eq_7, er_get e1]
        refine Go1.of (semI.eq_10 ..) ?_
        simp only [wz, wd, ws, Nat.reduceAdd, Nat.reduceSub, Nat.reduceMul, Nat.reduceLeDiff, Nat.reduceEqDiff, Nat.reduceLT, Nat.reduceBEq, reduceIte, reduceCtorEq, Int.reduceToNat, Nat.reduceShiftRight, Nat.reduceAnd, Nat.reduceBneDiff, Nat.reduceBNe, c42r11, semI.eq_3, semI.eq_5, semI.eq_7, er_get e1]
        obtain ⟨x2, e2, h⟩ := Option.bind_eq_some_iff.1 h
        refine Go1.of (sem_iadrO (l := a) e2 (by rfl) (by rfl) (by rfl)) ?_
        simp only [wz, wd, ws, Nat.reduceAdd, Nat.reduceSub, Nat.reduceMul, Nat.reduceLeDiff, Nat.reduceEqDiff, Nat.reduceLT, Nat.reduceBEq, reduceIte, reduceCtorEq, Int.reduceToNat, Nat.reduceShiftRight, Nat.reduceAnd, Nat.reduceBneDiff, Nat.reduceBNe, c42r11, semI.eq_3, semI.eq_5, semI.eq_7, er_get e1, er_get e2]
        refine Go1.of (sem_store (enc := (eI .i64)) (l := a) (a := x2) (a' := (IntKind.i64.wrap (x + s.1))) (v := .b (.s (.d (.int .i64 (IntKind.i64.wrap (x + s.1)))))) (by rfl) (by rfl) (er_get e2) (by rfl) (by trivial) (by rfl) (Nat.le_of_ble_eq_true (by rfl)) (by rfl)) ?_
        simp only [wz, wd, ws, Nat.reduceAdd, Nat.reduceSub, Nat.reduceMul, Nat.reduceLeDiff, Nat.reduceEqDiff, Nat.reduceLT, Nat.reduceBEq, reduceIte, reduceCtorEq, Int.reduceToNat, Nat.reduceShiftRight, Nat.reduceAnd, Nat.reduceBneDiff, Nat.reduceBNe, c42r11, semI.eq_3, semI.eq_5, semI.eq_7, er_get e1, er_get e2]
        refine .seq ?_
        refine Rw.walk ?_
        simp only [wz, wd, ws, Nat.reduceAdd, Nat.reduceSub, Nat.reduceMul, Nat.reduceLeDiff, Nat.reduceEqDiff, Nat.reduceLT, Nat.reduceBEq, reduceIte, reduceCtorEq, Int.reduceToNat, Nat.reduceShiftRight, Nat.reduceAnd, Nat.reduceBneDiff, Nat.reduceBNe, c42r12, semI.eq_10, semI.eq_11, semI.eq_3, semI.eq_5, semI.eq_7, er_get e1, er_get e2]
        obtain ⟨t, e3, h⟩ := Option.bind_eq_some_iff.1 h
        refine call_funO' [10] ⟨trivial, trivial, trivial, trivial⟩ rfl ?_ (f_ref02_power_ok _ _ _ e3) rfl (.inr (by first | exact er_flat | exact er_flatB | exact er_flatS | simp [flatS])) ?_
        · simp only [wz, wd, ws, Nat.reduceAdd, Nat.reduceSub, Nat.reduceMul, Nat.reduceLeDiff, Nat.reduceEqDiff, Nat.reduceLT, Nat.reduceBEq, reduceIte, reduceCtorEq, Int.reduceToNat, Nat.reduceShiftRight, Nat.reduceAnd, Nat.reduceBneDiff, Nat.reduceBNe, er_get e1, er_get e2]
        simp only [wz, wd, ws, Nat.reduceAdd, Nat.reduceSub, Nat.reduceMul, Nat.reduceLeDiff, Nat.reduceEqDiff, Nat.reduceLT, Nat.reduceBEq, reduceIte, reduceCtorEq, Int.reduceToNat, Nat.reduceShiftRight, Nat.reduceAnd, Nat.reduceBneDiff, Nat.reduceBNe, c42r12, semI.eq_10, semI.eq_11, semI.eq_3, semI.eq_5, semI.eq_7, er_get e1, er_get e2]
        obtain ⟨t2, e4, h⟩ := Option.bind_eq_some_iff.1 h
        refine call_fun [36] false ⟨trivial, trivial, trivial, trivial, trivial⟩ rfl ?_ (f_ref02_above_ok _ _ _ _ e4) (fun _ => rfl) (fun i hi e he => coF_get (l := [36]) (by simp only [wz, wd, ws, Nat.reduceAdd, Nat.reduceSub, Nat.reduceMul, Nat.reduceLeDiff, Nat.reduceEqDiff, Nat.reduceLT, Nat.reduceBEq, reduceIte, reduceCtorEq, Int.reduceToNat, Nat.reduceShiftRight, Nat.reduceAnd, Nat.reduceBneDiff, Nat.reduceBNe, wi]) i e hi he) ?_
        · simp only [wz, wd, ws, Nat.reduceAdd, Nat.reduceSub, Nat.reduceMul, Nat.reduceLeDiff, Nat.reduceEqDiff, Nat.reduceLT, Nat.reduceBEq, reduceIte, reduceCtorEq, Int.reduceToNat, Nat.reduceShiftRight, Nat.reduceAnd, Nat.reduceBneDiff, Nat.reduceBNe, er_get e1, er_get e2]
        simp only [wz, wd, ws, Nat.reduceAdd, Nat.reduceSub, Nat.reduceMul, Nat.reduceLeDiff, Nat.reduceEqDiff, Nat.reduceLT, Nat.reduceBEq, reduceIte, reduceCtorEq, Int.reduceToNat, Nat.reduceShiftRight, Nat.reduceAnd, Nat.reduceBneDiff, Nat.reduceBNe, c42r12, semI.eq_10, semI.eq_11, semI.eq_3, semI.eq_5, semI.eq_7, er_get e1, er_get e2]
        refine .cond (p := t2) (by first | rfl | simp only [wz, wd, ws, Nat.reduceAdd, Nat.reduceSub, Nat.reduceMul, Nat.reduceLeDiff, Nat.reduceEqDiff, Nat.reduceLT, Nat.reduceBEq, reduceIte, reduceCtorEq, Int.reduceToNat, Nat.reduceShiftRight, Nat.reduceAnd, Nat.reduceBneDiff, Nat.reduceBNe]) (fun h1 => ?_) (fun h1 => ?_)
        · rw [ite_t h1] at h
          refine Rw.walk ?_
          simp only [wz, wd, ws, Nat.reduceAdd, Nat.reduceSub, Nat.reduceMul, Nat.reduceLeDiff, Nat.reduceEqDiff, Nat.reduceLT, Nat.reduceBEq, reduceIte, reduceCtorEq, Int.reduceToNat, Nat.reduceShiftRight, Nat.reduceAnd, Nat.reduceBneDiff, Nat.reduceBNe, c42r13, semI.eq_3, semI.eq_5, semI.eq_7, er_get e1, er_get e2]
          obtain ⟨x3, e5, h⟩ := Option.bind_eq_some_iff.1 h
          refine Go1.of (sem_iadrO (l := (a.set (IntKind.i64.wrap (bit.tdiv 16)).toNat (IntKind.i64.wrap (x + s.1)))) e5 (by first | rfl | (simp only [List.length_map, List.length_replicate, List.length_set]; rfl)) (by first | rfl | (simp only [List.length_map, List.length_replicate, List.length_set]; rfl)) (by first | rfl | (simp only [List.length_map, List.length_replicate, List.length_set]; rfl))) ?_
          simp only [wz, wd, ws, Nat.reduceAdd, Nat.reduceSub, Nat.reduceMul, Nat.reduceLeDiff, Nat.reduceEqDiff, Nat.reduceLT, Nat.reduceBEq, reduceIte, reduceCtorEq, Int.reduceToNat, Nat.reduceShiftRight, Nat.reduceAnd, Nat.reduceBneDiff, Nat.reduceBNe, c42r13, semI.eq_3, semI.eq_5, semI.eq_7, er_get e1, er_get e2, er_get e5]
          refine Go1.of (semI.eq_10 ..) ?_
          simp only [wz, wd, ws, Nat.reduceAdd, Nat.reduceSub, Nat.reduceMul, Nat.reduceLeDiff, Nat.reduceEqDiff, Nat.reduceLT, Nat.reduceBEq, reduceIte, reduceCtorEq, Int.reduceToNat, Nat.reduceShiftRight, Nat.reduceAnd, Nat.reduceBneDiff, Nat.reduceBNe, c42r13, semI.eq_3, semI.eq_5, semI.eq_7, er_get e1, er_get e2, er_get e5]
          obtain ⟨x4, e6, h⟩ := Option.bind_eq_some_iff.1 h
          refine Go1.of (sem_iadrO (l := (a.set (IntKind.i64.wrap (bit.tdiv 16)).toNat (IntKind.i64.wrap (x + s.1)))) e6 (by first | rfl | (simp only [List.length_map, List.length_replicate, List.length_set]; rfl)) (by first | rfl | (simp only [List.length_map, List.length_replicate, List.length_set]; rfl)) (by first | rfl | (simp only [List.length_map, List.length_replicate, List.length_set]; rfl))) ?_
          simp only [wz, wd, ws, Nat.reduceAdd, Nat.reduceSub, Nat.reduceMul, Nat.reduceLeDiff, Nat.reduceEqDiff, Nat.reduceLT, Nat.reduceBEq, reduceIte, reduceCtorEq, Int.reduceToNat, Nat.reduceShiftRight, Nat.reduceAnd, Nat.reduceBneDiff, Nat.reduceBNe, c42r13, semI.eq_3, semI.eq_5, semI.eq_7, er_get e1, er_get e2, er_get e5, er_get e6]
          refine Go1.of (sem_store (enc := (eI .i64)) (l := (a.set (IntKind.i64.wrap (bit.tdiv 16)).toNat (IntKind.i64.wrap (x + s.1)))) (a := x4) (a' := (IntKind.i64.wrap (x3 - s.1))) (v := .b (.s (.d (.int .i64 (IntKind.i64.wrap (x3 - s.1)))))) (by first | rfl | (simp only [List.length_map, List.length_replicate, List.length_set]; rfl)) (by first | rfl | (simp only [List.length_map, List.length_replicate, List.length_set]; rfl)) (er_get e6) (by first | rfl | (simp only [List.length_map, List.length_replicate, List.length_set]; rfl)) (by trivial) (by first | rfl | (simp only [List.length_map, List.length_replicate, List.length_set]; rfl)) (Nat.le_of_ble_eq_true (by first | rfl | (simp only [List.length_map, List.length_replicate, List.length_set]; rfl))) (by first | rfl | (simp only [List.length_map, List.length_replicate, List.length_set]; rfl))) ?_
          simp only [wz, wd, ws, Nat.reduceAdd, Nat.reduceSub, Nat.reduceMul, Nat.reduceLeDiff, Nat.reduceEqDiff, Nat.reduceLT, Nat.reduceBEq, reduceIte, reduceCtorEq, Int.reduceToNat, Nat.reduceShiftRight, Nat.reduceAnd, Nat.reduceBneDiff, Nat.reduceBNe, c42r13, semI.eq_3, semI.eq_5, semI.eq_7, er_get e1, er_get e2, er_get e5, er_get e6]
          refine .eblk ?_
          refine Rw.walk ?_
          simp only [wz, wd, ws, Nat.reduceAdd, Nat.reduceSub, Nat.reduceMul, Nat.reduceLeDiff, Nat.reduceEqDiff, Nat.reduceLT, Nat.reduceBEq, reduceIte, reduceCtorEq, Int.reduceToNat, Nat.reduceShiftRight, Nat.reduceAnd, Nat.reduceBneDiff, Nat.reduceBNe, c42r4, semI.eq_10, semI.eq_11, semI.eq_3, semI.eq_5, semI.eq_7, er_get e1, er_get e2, er_get e5, er_get e6]
          refine .lp ?_
          refine .weak (Imp.co [] _ _ ?_ ?_ ?_ ?_ ?_) (ih (IntKind.i64.wrap (bit - 1)) ((a.set (IntKind.i64.wrap (bit.tdiv 16)).toNat (IntKind.i64.wrap (x + s.1))).set (IntKind.i64.wrap (bit.tdiv 16)).toNat (IntKind.i64.wrap (x3 - s.1))) _ h k_ hx) <;> simp only [wz, wd, ws, Nat.reduceAdd, Nat.reduceSub, Nat.reduceMul, Nat.reduceLeDiff, Nat.reduceEqDiff, Nat.reduceLT, Nat.reduceBEq, reduceIte, reduceCtorEq, Int.reduceToNat, Nat.reduceShiftRight, Nat.reduceAnd, Nat.reduceBneDiff, Nat.reduceBNe, wi, er_nil]
        · rw [ite_f h1] at h
          refine .skip ?_
          refine .eblk ?_
          refine Rw.walk ?_
          simp only [wz, wd, ws, Nat.reduceAdd, Nat.reduceSub, Nat.reduceMul, Nat.reduceLeDiff, Nat.reduceEqDiff, Nat.reduceLT, Nat.reduceBEq, reduceIte, reduceCtorEq, Int.reduceToNat, Nat.reduceShiftRight, Nat.reduceAnd, Nat.reduceBneDiff, Nat.reduceBNe, c42r4, semI.eq_10, semI.eq_11, semI.eq_3, semI.eq_5, semI.eq_7, er_get e1, er_get e2]
          refine .lp ?_
          refine .weak (Imp.co [] _ _ ?_ ?_ ?_ ?_ ?_) (ih (IntKind.i64.wrap (bit - 1)) (a.set (IntKind.i64.wrap (bit.tdiv 16)).toNat (IntKind.i64.wrap (x + s.1))) _ h k_ hx) <;> simp only [wz, wd, ws, Nat.reduceAdd, Nat.reduceSub, Nat.reduceMul, Nat.reduceLeDiff, Nat.reduceEqDiff, Nat.reduceLT, Nat.reduceBEq, reduceIte, reduceCtorEq, Int.reduceToNat, Nat.reduceShiftRight, Nat.reduceAnd, Nat.reduceBneDiff, Nat.reduceBNe, wi, er_nil]
    · rw [ite_f h1] at h
      refine .exit rfl ?_
      obtain rfl := Option.some.inj h
      refine .weak (Imp.co [] _ _ ?_ ?_ ?_ ?_ ?_) (hx _ rfl) <;> simp only [wz, wd, ws, Nat.reduceAdd, Nat.reduceSub, Nat.reduceMul, Nat.reduceLeDiff, Nat.reduceEqDiff, Nat.reduceLT, Nat.reduceBEq, reduceIte, reduceCtorEq, Int.reduceToNat, Nat.reduceShiftRight, Nat.reduceAnd, Nat.reduceBneDiff, Nat.reduceBNe, wi, er_nil]
theorem f_ref02_root_ok (p : Int) (n : Int) (y_ : Int) (h : f_ref02_root p n = some y_) : Fun Tryd.prog glP 42 [.b (.s (.d (.int .i64 p))), .b (.s (.d (.int .i64 n)))] (.b (.s (.d (.int .u32 y_)))) := by
  refine fun_walk [] Tryd.func42 Tryd.ntmps42 cc42 cr42 (by kernel_rfl) (by simp only [List.length_cons, List.length_nil]; decide) ?_
  generalize hR : Ret _ _ _ _ _ = R_
  simp only [wz, wd, ws, Nat.reduceAdd, Nat.reduceSub, Nat.reduceMul, Nat.reduceLeDiff, Nat.reduceEqDiff, Nat.reduceLT, Nat.reduceBEq, reduceIte, reduceCtorEq, Int.reduceToNat, Nat.reduceShiftRight, Nat.reduceAnd, Nat.reduceBneDiff, Nat.reduceBNe]
  unfold f_ref02_root at h; unfold c42
  refine .seq ?_
  refine Rw.walk ?_
  simp only [wz, wd, ws, Nat.reduceAdd, Nat.reduceSub, Nat.reduceMul, Nat.reduceLeDiff, Nat.reduceEqDiff, Nat.reduceLT, Nat.reduceBEq, reduceIte, reduceCtorEq, Int.reduceToNat, Nat.reduceShiftRight, Nat.reduceAnd, Nat.reduceBneDiff, Nat.reduceBNe, c42r0, semI.eq_10, semI.eq_11, semI.eq_3, semI.eq_5, semI.eq_7]
  refine .seq ?_
  refine Rw.walk ?_
  simp only [wz, wd, ws, Nat.reduceAdd, Nat.reduceSub, Nat.reduceMul, Nat.reduceLeDiff, Nat.reduceEqDiff, Nat.reduceLT, Nat.reduceBEq, reduceIte, reduceCtorEq, Int.reduceToNat, Nat.reduceShiftRight, Nat.reduceAnd, Nat.reduceBneDiff, Nat.reduceBNe, c42r1, semI.eq_10, semI.eq_11, semI.eq_3, semI.eq_5, semI.eq_7]
  refine Go1.of (sem_bsl (enc := (eI .i64)) (m := ([0, 0, 0] : List Int)) (eI_len _) (by rfl) (by rfl) (by rfl) ⟨trivial, trivial, trivial, trivial⟩) ?_
  simp only [wz, wd, ws, Nat.reduceAdd, Nat.reduceSub, Nat.reduceMul, Nat.reduceLeDiff, Nat.reduceEqDiff, Nat.reduceLT, Nat.reduceBEq, reduceIte, reduceCtorEq, Int.reduceToNat, Nat.reduceShiftRight, Nat.reduceAnd, Nat.reduceBneDiff, Nat.reduceBNe, c42r1, semI.eq_10, semI.eq_11, semI.eq_3, semI.eq_5, semI.eq_7]
  refine .seq ?_
  refine .seq ?_
  refine Rw.walk ?_
  simp only [wz, wd, ws, Nat.reduceAdd, Nat.reduceSub, Nat.reduceMul, Nat.reduceLeDiff, Nat.reduceEqDiff, Nat.reduceLT, Nat.reduceBEq, reduceIte, reduceCtorEq, Int.reduceToNat, Nat.reduceShiftRight, Nat.reduceAnd, Nat.reduceBneDiff, Nat.reduceBNe, c42r2, semI.eq_10, semI.eq_11, semI.eq_3, semI.eq_5, semI.eq_7]
  refine .blk ?_
  obtain ⟨s, hf, h⟩ := Option.bind_eq_some_iff.1 h
  refine .loop (.weak (Imp.co [] _ _ ?c1 ?c2 ?c3 ?c4 ?c5) (f_ref02_root_l15_ok p n _ _ hR _ _ _ _ hf _ ?_))
  case c1 | c2 | c3 | c4 | c5 => simp only [wz, wd, ws, Nat.reduceAdd, Nat.reduceSub, Nat.reduceMul, Nat.reduceLeDiff, Nat.reduceEqDiff, Nat.reduceLT, Nat.reduceBEq, reduceIte, reduceCtorEq, Int.reduceToNat, Nat.reduceShiftRight, Nat.reduceAnd, Nat.reduceBneDiff, Nat.reduceBNe, wi, er_nil]
  · intro s_ hs; subst hs
    refine .seq ?_
    refine RwD.walk ?_
    simp only [wz, wd, ws, Nat.reduceAdd, Nat.reduceSub, Nat.reduceMul, Nat.reduceLeDiff, Nat.reduceEqDiff, Nat.reduceLT, Nat.reduceBEq, reduceIte, reduceCtorEq, Int.reduceToNat, Nat.reduceShiftRight, Nat.reduceAnd, Nat.reduceBneDiff, Nat.reduceBNe, c42r14, semI.eq_10, semI.eq_11, semI.eq_3, semI.eq_5, semI.eq_7]
    obtain ⟨x, e7, h⟩ := Option.bind_eq_some_iff.1 h
    refine GoD1.of (sem_iadrO (l := s.2) e7 (by rfl) (by rfl) (by rfl)) ?_
    simp only [wz, wd, ws, Nat.reduceAdd, Nat.reduceSub, Nat.reduceMul, Nat.reduceLeDiff, Nat.reduceEqDiff, Nat.reduceLT, Nat.reduceBEq, reduceIte, reduceCtorEq, Int.reduceToNat, Nat.reduceShiftRight, Nat.reduceAnd, Nat.reduceBneDiff, Nat.reduceBNe, c42r14, semI.eq_10, semI.eq_11, semI.eq_3, semI.eq_5, semI.eq_7, er_getN (i := 1) e7]
    obtain ⟨x2, e8, h⟩ := Option.bind_eq_some_iff.1 h
    refine GoD1.of (sem_iadrO (l := s.2) e8 (by rfl) (by rfl) (by rfl)) ?_
    simp only [wz, wd, ws, Nat.reduceAdd, Nat.reduceSub, Nat.reduceMul, Nat.reduceLeDiff, Nat.reduceEqDiff, Nat.reduceLT, Nat.reduceBEq, reduceIte, reduceCtorEq, Int.reduceToNat, Nat.reduceShiftRight, Nat.reduceAnd, Nat.reduceBneDiff, Nat.reduceBNe, c42r14, semI.eq_10, semI.eq_11, semI.eq_3, semI.eq_5, semI.eq_7, er_getN (i := 1) e7, er_getN (i := 0) e8]
    obtain rfl := Option.some.inj h
    refine .ret ?_
    rw [← hR]
    simp only [wz, wd, ws, Nat.reduceAdd, Nat.reduceSub, Nat.reduceMul, Nat.reduceLeDiff, Nat.reduceEqDiff, Nat.reduceLT, Nat.reduceBEq, reduceIte, reduceCtorEq, Int.reduceToNat, Nat.reduceShiftRight, Nat.reduceAnd, Nat.reduceBneDiff, Nat.reduceBNe, rv42, er_getN (i := 1) e7, er_getN (i := 0) e8]
-- 18 consignor/consignorref02.Roots
def c18r0 : List Opn := [
  ⟨(some 0), none, .mv (.c (.s .nils))⟩]
def c18r1 : List Opn := [
  ⟨(some 4), none, .bsl 1 []⟩, 
  ⟨(some 1), none, .mv (.t 4)⟩]
def c18r2 : List Opn := [
  ⟨(some 5), none, .call (.fn 41) [(.c (.s (.d (.int .i64 64))))]⟩, 
  ⟨(some 6), none, .len (.sl 0) (.t 5)⟩, 
  ⟨(some 7), none, .mv (.c (.s (.d (.int .i64 0))))⟩]
def c18r3 : List Opn := [
  ⟨(some 8), none, .bin .lss (.t 7) (.t 6)⟩]
def c18r4 : List Opn := [
  ⟨(some 9), none, .iadr (.sl 1) (.t 5) (.t 7)⟩, 
  ⟨(some 10), none, .load false 1 (.t 9)⟩, 
  ⟨(some 3), none, .mv (.t 10)⟩]
def c18r5 : List Opn := [
  ⟨(some 11), none, .mv (.t 1)⟩, 
  ⟨(some 12), none, .mv (.t 3)⟩, 
  ⟨(some 13), none, .call (.fn 42) [(.t 12), (.c (.s (.d (.int .i64 3))))]⟩, 
  ⟨(some 14), none, .bsl 1 [(.t 13)]⟩, 
  ⟨(some 15), none, .app 1 4 false (.t 11) (.t 14)⟩, 
  ⟨(some 1), none, .mv (.t 15)⟩]
def c18r6 : List Opn := [
  ⟨(some 16), none, .bin .add (.t 7) (.c (.s (.d (.int .i64 1))))⟩, 
  ⟨(some 7), none, .mv (.t 16)⟩]
def c18l7 : C := .seq (.reg c18r3 none [1, 5, 6, 7, 8]) (.seq (.cond (.t 8) (.skip) (.exit 0)) (.seq (.blk 1 (.seq (.reg c18r4 none [1, 3, 5, 6, 7]) (.reg c18r5 none [1, 5, 6, 7]))) (.reg c18r6 none [1, 5, 6, 7])))
def c18r7 : List Opn := [
  ⟨(some 17), none, .mv (.t 1)⟩, 
  ⟨(some 0), none, .mv (.t 17)⟩]
def c18 : C := .seq (.reg c18r0 none []) (.seq (.reg c18r1 none [1]) (.seq (.seq (.reg c18r2 none [1, 5, 6, 7]) (.blk 0 (.loop c18l7))) (.seq (.reg c18r7 none [0]) (.ret))))
def k18 : List (Nat × List Nat) := [(7, [0]), (6, [1, 5, 6, 7]), (5, [1, 5, 6, 7]), (4, [1, 3, 5, 6, 7]), (3, [1, 5, 6, 7, 8]), (2, [1, 5, 6, 7]), (1, [1]), (0, [])]
theorem cc18 : (Tryd.f18.body).bind (cC Tryd.prog 18 k18) = some c18 := by kernel_rfl
def rv18 : List RV := [.t 0]
theorem cr18 : cRVs Tryd.prog Tryd.f18.results.toList = some rv18 := by kernel_rfl
theorem f_ref02_Roots_l7_ok (t : (List Int)) (y_ : (List Int)) (R_ : St → Prop) (hR : (RetO Tryd.prog glP 0 1 (y_.map (eI .u32))) = R_) : ∀ (m_ : Nat) (v7 : Int) (out : (List Int)) (res_ : Int × (List Int)) (h : f_ref02_Roots_l7 t m_ v7 out = some res_) (k_ : List It) (hx : ∀ s_ : Int × (List Int), res_ = s_ → W Tryd.prog glP 18 k_ ⟨lkT [(1, .b (.s (.own 4 s_.2.length))), (5, .b (.s (.own 5 t.length))), (6, .b (.s (.d (.int .i64 (t.length : Int))))), (7, .b (.s (.d (.int .i64 s_.1))))], lkG [(4, ⟨1, er (eI .u32) s_.2, false⟩), (5, ⟨1, er (eI .i64) t, false⟩)]⟩ R_), W Tryd.prog glP 18 (.c c18l7 :: .lp c18l7 :: .blk 0 :: k_) ⟨lkT [(1, .b (.s (.own 4 out.length))), (5, .b (.s (.own 5 t.length))), (6, .b (.s (.d (.int .i64 (t.length : Int))))), (7, .b (.s (.d (.int .i64 v7))))], lkG [(4, ⟨1, er (eI .u32) out, false⟩), (5, ⟨1, er (eI .i64) t, false⟩)]⟩ R_ := by
  intro m_; induction m_ with
  | zero => intro v7 out res_ h; rw [f_ref02_Roots_l7.eq_1] at h; cases h
  | succ m_ ih =>
    intro v7 out res_ h k_ hx; rw [f_ref02_Roots_l7.eq_2] at h; refine W.cdef c18l7.eq_1 ?_
    refine .seq ?_
    refine Rw.walk ?_
    simp only [wz, wd, ws, Nat.reduceAdd, Nat.reduceSub, Nat.reduceMul, Nat.reduceLeDiff, Nat.reduceEqDiff, Nat.reduceLT, Nat.reduceBEq, reduceIte, reduceCtorEq, Int.reduceToNat, Nat.reduceShiftRight, Nat.reduceAnd, Nat.reduceBneDiff, Nat.reduceBNe, c18r3, semI.eq_10, semI.eq_11, semI.eq_3, semI.eq_5, semI.eq_7]
    refine .seq ?_
    refine .cond (p := (decide (v7 < (t.length : Int)))) (by first | rfl | simp only [wz, wd, ws, Nat.reduceAdd, Nat.reduceSub, Nat.reduceMul, Nat.reduceLeDiff, Nat.reduceEqDiff, Nat.reduceLT, Nat.reduceBEq, reduceIte, reduceCtorEq, Int.reduceToNat, Nat.reduceShiftRight, Nat.reduceAnd, Nat.reduceBneDiff, Nat.reduceBNe]) (fun h1 => ?_) (fun h1 => ?_)
    · rw [ite_t h1] at h
      refine .skip ?_
      refine .seq ?_
      refine .blk ?_
      refine .seq ?_
      refine Rw.walk ?_
      simp only [wz, wd, ws, Nat.reduceAdd, Nat.reduceSub, Nat.reduceMul, Nat.reduceLeDiff, Nat.reduceEqDiff, Nat.reduceLT, Nat.reduceBEq, reduceIte, reduceCtorEq, Int.reduceToNat, Nat.reduceShiftRight, Nat.reduceAnd, Nat.reduceBneDiff, Nat.reduceBNe, c18r4, semI.eq_10, semI.eq_11, semI.eq_3, semI.eq_5, semI.eq_7]
      obtain ⟨x, e2, h⟩ := Option.bind_eq_some_iff.1 h
      refine Go1.of (sem_iadrO (l := t) e2 (by rfl) (by rfl) (by rfl)) ?_
      simp only [wz, wd, ws, Nat.reduceAdd, Nat.reduceSub, Nat.reduceMul, Nat.reduceLeDiff, Nat.reduceEqDiff, Nat.reduceLT, Nat.reduceBEq, reduceIte, reduceCtorEq, Int.reduceToNat, Nat.reduceShiftRight, Nat.reduceAnd, Nat.reduceBneDiff, Nat.reduceBNe, c18r4, semI.eq_10, semI.eq_11, semI.eq_3, semI.eq_5, semI.eq_7, er_get e2]
      refine Rw.walk ?_
      simp only [wz, wd, ws, Nat.reduceAdd, Nat.reduceSub, Nat.reduceMul, Nat.reduceLeDiff, Nat.reduceEqDiff, Nat.reduceLT, Nat.reduceBEq, reduceIte, reduceCtorEq, Int.reduceToNat, Nat.reduceShiftRight, Nat.reduceAnd, Nat.reduceBneDiff, Nat.reduceBNe, c18r5, semI.eq_10, semI.eq_11, semI.eq_3, semI.eq_5, semI.eq_7, er_get e2]
      obtain ⟨t2, e3, h⟩ := Option.bind_eq_some_iff.1 h
      refine call_fun [] false ⟨trivial, trivial, trivial, trivial⟩ rfl ?_ (f_ref02_root_ok _ _ _ e3) (fun _ => rfl) (fun i hi => by cases hi) ?_
      · simp only [wz, wd, ws, Nat.reduceAdd, Nat.reduceSub, Nat.reduceMul, Nat.reduceLeDiff, Nat.reduceEqDiff, Nat.reduceLT, Nat.reduceBEq, reduceIte, reduceCtorEq, Int.reduceToNat, Nat.reduceShiftRight, Nat.reduceAnd, Nat.reduceBneDiff, Nat.reduceBNe, er_get e2]
      simp only [wz, wd, ws, Nat.reduceAdd, Nat.reduceSub, Nat.reduceMul, Nat.reduceLeDiff, Nat.reduceEqDiff, Nat.reduceLT, Nat.reduceBEq, reduceIte, reduceCtorEq, Int.reduceToNat, Nat.reduceShiftRight, Nat.reduceAnd, Nat.reduceBneDiff, Nat.reduceBNe, c18r5, semI.eq_10, semI.eq_11, semI.eq_3, semI.eq_5, semI.eq_7, er_get e2]
      refine Go1.of (sem_bsl (enc := (eI .u32)) (m := ([t2] : List Int)) (eI_len _) (by rfl) (by rfl) (by rfl) ⟨trivial, trivial⟩) ?_
      simp only [wz, wd, ws, Nat.reduceAdd, Nat.reduceSub, Nat.reduceMul, Nat.reduceLeDiff, Nat.reduceEqDiff, Nat.reduceLT, Nat.reduceBEq, reduceIte, reduceCtorEq, Int.reduceToNat, Nat.reduceShiftRight, Nat.reduceAnd, Nat.reduceBneDiff, Nat.reduceBNe, c18r5, semI.eq_10, semI.eq_11, semI.eq_3, semI.eq_5, semI.eq_7, er_get e2]
      obtain ⟨g4, h⟩ := gd_iff.1 h
      refine Go1.of (sem_app (enc := (eI .u32)) (l := out) (m := ([t2] : List Int)) (eI_len _) (by rfl) (by rfl) (newV_own (m := ([t2] : List Int)) (by rfl) (by rfl))) ?_
      simp only [wz, wd, ws, Nat.reduceAdd, Nat.reduceSub, Nat.reduceMul, Nat.reduceLeDiff, Nat.reduceEqDiff, Nat.reduceLT, Nat.reduceBEq, reduceIte, reduceCtorEq, Int.reduceToNat, Nat.reduceShiftRight, Nat.reduceAnd, Nat.reduceBneDiff, Nat.reduceBNe, c18r5, semI.eq_10, semI.eq_11, semI.eq_3, semI.eq_5, semI.eq_7, er_get e2]
      repeat (refine And.intro ?_ ?_; · first | omega | (intro q; simp only [wz, wd, ws, Nat.reduceAdd, Nat.reduceSub, Nat.reduceMul, Nat.reduceLeDiff, Nat.reduceEqDiff, Nat.reduceLT, Nat.reduceBEq, reduceIte, reduceCtorEq, Int.reduceToNat, Nat.reduceShiftRight, Nat.reduceAnd, Nat.reduceBneDiff, Nat.reduceBNe, q]; done))
      refine .eblk ?_
      refine Rw.walk ?_
      simp only [wz, wd, ws, Nat.reduceAdd, Nat.reduceSub, Nat.reduceMul, Nat.reduceLeDiff, Nat.reduceEqDiff, Nat.reduceLT, Nat.reduceBEq, reduceIte, reduceCtorEq, Int.reduceToNat, Nat.reduceShiftRight, Nat.reduceAnd, Nat.reduceBneDiff, Nat.reduceBNe, c18r6, semI.eq_10, semI.eq_11, semI.eq_3, semI.eq_5, semI.eq_7, er_get e2]
      refine .lp ?_
      refine .weak (Imp.co [] _ _ ?_ ?_ ?_ ?_ ?_) (ih (IntKind.i64.wrap (v7 + 1)) (out ++ ([t2] : List Int)) _ h k_ hx) <;> simp only [wz, wd, ws, Nat.reduceAdd, Nat.reduceSub, Nat.reduceMul, Nat.reduceLeDiff, Nat.reduceEqDiff, Nat.reduceLT, Nat.reduceBEq, reduceIte, reduceCtorEq, Int.reduceToNat, Nat.reduceShiftRight, Nat.reduceAnd, Nat.reduceBneDiff, Nat.reduceBNe, wi, er_nil]
    · rw [ite_f h1] at h
      refine .exit rfl ?_
      obtain rfl := Option.some.inj h
      refine .weak (Imp.co [] _ _ ?_ ?_ ?_ ?_ ?_) (hx _ rfl) <;> simp only [wz, wd, ws, Nat.reduceAdd, Nat.reduceSub, Nat.reduceMul, Nat.reduceLeDiff, Nat.reduceEqDiff, Nat.reduceLT, Nat.reduceBEq, reduceIte, reduceCtorEq, Int.reduceToNat, Nat.reduceShiftRight, Nat.reduceAnd, Nat.reduceBneDiff, Nat.reduceBNe, wi, er_nil]
theorem f_ref02_Roots_ok (y_ : (List Int)) (h : f_ref02_Roots = some y_) : FunO Tryd.prog glP 18 [] 1 (y_.map (eI .u32)) := by
  refine funO_walk Tryd.func18 Tryd.ntmps18 cc18 cr18 (by kernel_rfl) (by simp only [List.length_cons, List.length_nil]; decide) ?_
  generalize hR : RetO _ _ _ _ _ = R_
  simp only [wz, wd, ws, Nat.reduceAdd, Nat.reduceSub, Nat.reduceMul, Nat.reduceLeDiff, Nat.reduceEqDiff, Nat.reduceLT, Nat.reduceBEq, reduceIte, reduceCtorEq, Int.reduceToNat, Nat.reduceShiftRight, Nat.reduceAnd, Nat.reduceBneDiff, Nat.reduceBNe]
  unfold f_ref02_Roots at h; unfold c18
  refine .seq ?_
  refine Rw.walk ?_
  simp only [wz, wd, ws, Nat.reduceAdd, Nat.reduceSub, Nat.reduceMul, Nat.reduceLeDiff, Nat.reduceEqDiff, Nat.reduceLT, Nat.reduceBEq, reduceIte, reduceCtorEq, Int.reduceToNat, Nat.reduceShiftRight, Nat.reduceAnd, Nat.reduceBneDiff, Nat.reduceBNe, c18r0, semI.eq_10, semI.eq_11, semI.eq_3, semI.eq_5, semI.eq_7]
  refine .seq ?_
  refine Rw.walk ?_
  simp only [wz, wd, ws, Nat.reduceAdd, Nat.reduceSub, Nat.reduceMul, Nat.reduceLeDiff, Nat.reduceEqDiff, Nat.reduceLT, Nat.reduceBEq, reduceIte, reduceCtorEq, Int.reduceToNat, Nat.reduceShiftRight, Nat.reduceAnd, Nat.reduceBneDiff, Nat.reduceBNe, c18r1, semI.eq_10, semI.eq_11, semI.eq_3, semI.eq_5, semI.eq_7]
  refine Go1.of (sem_bsl (enc := (eI .u32)) (m := ([] : List Int)) (eI_len _) (by rfl) (by rfl) (by rfl) trivial) ?_
  simp only [wz, wd, ws, Nat.reduceAdd, Nat.reduceSub, Nat.reduceMul, Nat.reduceLeDiff, Nat.reduceEqDiff, Nat.reduceLT, Nat.reduceBEq, reduceIte, reduceCtorEq, Int.reduceToNat, Nat.reduceShiftRight, Nat.reduceAnd, Nat.reduceBneDiff, Nat.reduceBNe, c18r1, semI.eq_10, semI.eq_11, semI.eq_3, semI.eq_5, semI.eq_7]
  refine .seq ?_
  refine .seq ?_
  refine Rw.walk ?_
  simp only [wz, wd, ws, Nat.reduceAdd, Nat.reduceSub, Nat.reduceMul, Nat.reduceLeDiff, Nat.reduceEqDiff, Nat.reduceLT, Nat.reduceBEq, reduceIte, reduceCtorEq, Int.reduceToNat, Nat.reduceShiftRight, Nat.reduceAnd, Nat.reduceBneDiff, Nat.reduceBNe, c18r2, semI.eq_10, semI.eq_11, semI.eq_3, semI.eq_5, semI.eq_7]
  obtain ⟨t, e1, h⟩ := Option.bind_eq_some_iff.1 h
  refine call_funO' [] ⟨trivial, trivial, trivial⟩ rfl ?_ (f_ref02_primes_ok _ _ e1) rfl (.inl rfl) ?_
  · simp only [wz, wd, ws, Nat.reduceAdd, Nat.reduceSub, Nat.reduceMul, Nat.reduceLeDiff, Nat.reduceEqDiff, Nat.reduceLT, Nat.reduceBEq, reduceIte, reduceCtorEq, Int.reduceToNat, Nat.reduceShiftRight, Nat.reduceAnd, Nat.reduceBneDiff, Nat.reduceBNe]
  simp only [wz, wd, ws, Nat.reduceAdd, Nat.reduceSub, Nat.reduceMul, Nat.reduceLeDiff, Nat.reduceEqDiff, Nat.reduceLT, Nat.reduceBEq, reduceIte, reduceCtorEq, Int.reduceToNat, Nat.reduceShiftRight, Nat.reduceAnd, Nat.reduceBneDiff, Nat.reduceBNe, c18r2, semI.eq_10, semI.eq_11, semI.eq_3, semI.eq_5, semI.eq_7]
  refine .blk ?_
  obtain ⟨s, hf, h⟩ := Option.bind_eq_some_iff.1 h
  refine .loop (.weak (Imp.co [] _ _ ?c1 ?c2 ?c3 ?c4 ?c5) (f_ref02_Roots_l7_ok t _ _ hR _ _ _ _ hf _ ?_))
  case c1 | c2 | c3 | c4 | c5 => simp only [wz, wd, ws, Nat.reduceAdd, Nat.reduceSub, Nat.reduceMul, Nat.reduceLeDiff, Nat.reduceEqDiff, Nat.reduceLT, Nat.reduceBEq, reduceIte, reduceCtorEq, Int.reduceToNat, Nat.reduceShiftRight, Nat.reduceAnd, Nat.reduceBneDiff, Nat.reduceBNe, wi, er_nil]
  · intro s_ hs; subst hs
    refine .seq ?_
    refine Rw.walk ?_
    simp only [wz, wd, ws, Nat.reduceAdd, Nat.reduceSub, Nat.reduceMul, Nat.reduceLeDiff, Nat.reduceEqDiff, Nat.reduceLT, Nat.reduceBEq, reduceIte, reduceCtorEq, Int.reduceToNat, Nat.reduceShiftRight, Nat.reduceAnd, Nat.reduceBneDiff, Nat.reduceBNe, c18r7, semI.eq_10, semI.eq_11, semI.eq_3, semI.eq_5, semI.eq_7]
    obtain rfl := Option.some.inj h
    refine .ret ?_
    rw [← hR]
    refine ⟨4, ?_, ?_⟩ <;> simp only [wz, wd, ws, Nat.reduceAdd, Nat.reduceSub, Nat.reduceMul, Nat.reduceLeDiff, Nat.reduceEqDiff, Nat.reduceLT, Nat.reduceBEq, reduceIte, reduceCtorEq, Int.reduceToNat, Nat.reduceShiftRight, Nat.reduceAnd, Nat.reduceBneDiff, Nat.reduceBNe, er, List.length_map]
end Go.Proofs.YtjhgkcbhllomaaaDoor.V
end

section
/- Go functions compute what Lean functions do. -/
namespace Go.Proofs.YtjhgkcbhllomaaaDoor.V
open Go Go.RowKit
set_option linter.unusedVariables false
set_option linter.unusedSimpArgs false
set_option maxHeartbeats 1000000
-- 16 consignor/consignorref02.Same
def c16r0 : List Opn := [
  ⟨(some 4), none, .mv (.c (.s (.d (.bool false))))⟩]
def c16r1 : List Opn := [
  ⟨(some 6), none, .mv (.t 0)⟩, 
  ⟨(some 7), none, .len (.sl 0) (.t 6)⟩, 
  ⟨(some 8), none, .mv (.t 1)⟩, 
  ⟨(some 9), none, .len (.sl 0) (.t 8)⟩, 
  ⟨(some 10), none, .bin .neq (.t 7) (.t 9)⟩]
def c16r2 : List Opn := [
  ⟨(some 4), none, .mv (.c (.s (.d (.bool false))))⟩]
def c16r3 : List Opn := [
  ⟨(some 11), none, .mv (.t 0)⟩, 
  ⟨(some 12), none, .len (.sl 0) (.t 11)⟩, 
  ⟨(some 13), none, .mv (.c (.s (.d (.int .i64 0))))⟩]
def c16r4 : List Opn := [
  ⟨(some 14), none, .bin .lss (.t 13) (.t 12)⟩]
def c16r5 : List Opn := [
  ⟨(some 15), none, .mv (.t 13)⟩, 
  ⟨(some 5), none, .mv (.t 15)⟩]
def c16r6 : List Opn := [
  ⟨(some 16), none, .mv (.t 0)⟩, 
  ⟨(some 17), none, .mv (.t 5)⟩, 
  ⟨(some 18), none, .iadr (.sl 1) (.t 16) (.t 17)⟩, 
  ⟨(some 19), none, .load false 1 (.t 18)⟩, 
  ⟨(some 20), none, .mv (.t 1)⟩, 
  ⟨(some 21), none, .mv (.t 5)⟩, 
  ⟨(some 22), none, .iadr (.sl 1) (.t 20) (.t 21)⟩, 
  ⟨(some 23), none, .load false 1 (.t 22)⟩, 
  ⟨(some 24), none, .bin .neq (.t 19) (.t 23)⟩]
def c16r7 : List Opn := [
  ⟨(some 4), none, .mv (.c (.s (.d (.bool false))))⟩]
def c16r8 : List Opn := [
  ⟨(some 25), none, .bin .add (.t 13) (.c (.s (.d (.int .i64 1))))⟩, 
  ⟨(some 13), none, .mv (.t 25)⟩]
def c16l9 : C := .seq (.reg c16r4 none [0, 1, 12, 13, 14]) (.seq (.cond (.t 14) (.skip) (.exit 0)) (.seq (.blk 1 (.seq (.reg c16r5 none [0, 1, 5, 12, 13]) (.seq (.reg c16r6 (some [0, 0, 3, 7, 0, 0, 48, 112, 255]) [0, 1, 12, 13, 24]) (.cond (.t 24) (.seq (.reg c16r7 none [4]) (.ret)) (.skip))))) (.reg c16r8 none [0, 1, 12, 13])))
def c16r9 : List Opn := [
  ⟨(some 4), none, .mv (.c (.s (.d (.bool true))))⟩]
def c16 : C := .seq (.reg c16r0 none [0, 1]) (.seq (.seq (.reg c16r1 none [0, 1, 10]) (.cond (.t 10) (.seq (.reg c16r2 none [4]) (.ret)) (.skip))) (.seq (.seq (.reg c16r3 none [0, 1, 12, 13]) (.blk 0 (.loop c16l9))) (.seq (.reg c16r9 none [4]) (.ret))))
def k16 : List (Nat × List Nat) := [(9, [4]), (8, [0, 1, 12, 13]), (7, [4]), (6, [0, 1, 12, 13, 24]), (5, [0, 1, 5, 12, 13]), (4, [0, 1, 12, 13, 14]), (3, [0, 1, 12, 13]), (2, [4]), (1, [0, 1, 10]), (0, [0, 1])]
theorem cc16 : (Tryd.f16.body).bind (cC Tryd.prog 26 k16) = some c16 := by kernel_rfl
def rv16 : List RV := [.t 4]
theorem cr16 : cRVs Tryd.prog Tryd.f16.results.toList = some rv16 := by kernel_rfl
theorem f_ref02_Same_l9_ok (a : (List Int)) (b : (List Int)) (y_ : Bool) (R_ : St → Prop) (hR : (Ret Tryd.prog glP [] rv16 (.b (.s (.d (.bool y_))))) = R_) : ∀ (m_ : Nat) (v13 : Int) (res_ : (Int) ⊕ (Bool)) (h : f_ref02_Same_l9 a b m_ v13 = some res_) (k_ : List It) (hx : ∀ s_ : Int, res_ = .inl s_ → W Tryd.prog glP 26 k_ ⟨lkT [(0, .b (.s (.d (.sl (a.map (eI .u32)))))), (1, .b (.s (.d (.sl (b.map (eI .u32)))))), (12, .b (.s (.d (.int .i64 (a.length : Int))))), (13, .b (.s (.d (.int .i64 s_))))], lkG []⟩ R_) (hr : ∀ z_ : Bool, res_ = .inr z_ → z_ = y_), W Tryd.prog glP 26 (.c c16l9 :: .lp c16l9 :: .blk 0 :: k_) ⟨lkT [(0, .b (.s (.d (.sl (a.map (eI .u32)))))), (1, .b (.s (.d (.sl (b.map (eI .u32)))))), (12, .b (.s (.d (.int .i64 (a.length : Int))))), (13, .b (.s (.d (.int .i64 v13))))], lkG []⟩ R_ := by
  intro m_; induction m_ with
  | zero => intro v13 res_ h; rw [f_ref02_Same_l9.eq_1] at h; cases h
  | succ m_ ih =>
    intro v13 res_ h k_ hx hr; rw [f_ref02_Same_l9.eq_2] at h; refine W.cdef c16l9.eq_1 ?_
    refine .seq ?_
    refine Rw.walk ?_
    simp only [wz, wd, ws, Nat.reduceAdd, Nat.reduceSub, Nat.reduceMul, Nat.reduceLeDiff, Nat.reduceEqDiff, Nat.reduceLT, Nat.reduceBEq, reduceIte, reduceCtorEq, Int.reduceToNat, Nat.reduceShiftRight, Nat.reduceAnd, Nat.reduceBneDiff, Nat.reduceBNe, c16r4, semI.eq_10, semI.eq_11, semI.eq_3, semI.eq_5, semI.eq_7]
    refine .seq ?_
    refine .cond (p := (decide (v13 < (a.length : Int)))) (by first | rfl | simp only [wz, wd, ws, Nat.reduceAdd, Nat.reduceSub, Nat.reduceMul, Nat.reduceLeDiff, Nat.reduceEqDiff, Nat.reduceLT, Nat.reduceBEq, reduceIte, reduceCtorEq, Int.reduceToNat, Nat.reduceShiftRight, Nat.reduceAnd, Nat.reduceBneDiff, Nat.reduceBNe]) (fun h1 => ?_) (fun h1 => ?_)
    · rw [ite_t h1] at h
      refine .skip ?_
      refine .seq ?_
      refine .blk ?_
      refine .seq ?_
      refine Rw.walk ?_
      simp only [wz, wd, ws, Nat.reduceAdd, Nat.reduceSub, Nat.reduceMul, Nat.reduceLeDiff, Nat.reduceEqDiff, Nat.reduceLT, Nat.reduceBEq, reduceIte, reduceCtorEq, Int.reduceToNat, Nat.reduceShiftRight, Nat.reduceAnd, Nat.reduceBneDiff, Nat.reduceBNe, c16r5, semI.eq_10, semI.eq_11, semI.eq_3, semI.eq_5, semI.eq_7]
      refine .seq ?_
      refine RwD.walk ?_
      simp only [wz, wd, ws, Nat.reduceAdd, Nat.reduceSub, Nat.reduceMul, Nat.reduceLeDiff, Nat.reduceEqDiff, Nat.reduceLT, Nat.reduceBEq, reduceIte, reduceCtorEq, Int.reduceToNat, Nat.reduceShiftRight, Nat.reduceAnd, Nat.reduceBneDiff, Nat.reduceBNe, c16r6, semI.eq_10, semI.eq_11, semI.eq_3, semI.eq_5, semI.eq_7]
      obtain ⟨x, e1, h⟩ := Option.bind_eq_some_iff.1 h
      refine GoD1.of (sem_iadr (eI_len _) e1 (by rfl) (by rfl)) ?_
      simp only [wz, wd, ws, Nat.reduceAdd, Nat.reduceSub, Nat.reduceMul, Nat.reduceLeDiff, Nat.reduceEqDiff, Nat.reduceLT, Nat.reduceBEq, reduceIte, reduceCtorEq, Int.reduceToNat, Nat.reduceShiftRight, Nat.reduceAnd, Nat.reduceBneDiff, Nat.reduceBNe, c16r6, semI.eq_10, semI.eq_11, semI.eq_3, semI.eq_5, semI.eq_7]
      obtain ⟨x2, e2, h⟩ := Option.bind_eq_some_iff.1 h
      refine GoD1.of (sem_iadr (eI_len _) e2 (by rfl) (by rfl)) ?_
      simp only [wz, wd, ws, Nat.reduceAdd, Nat.reduceSub, Nat.reduceMul, Nat.reduceLeDiff, Nat.reduceEqDiff, Nat.reduceLT, Nat.reduceBEq, reduceIte, reduceCtorEq, Int.reduceToNat, Nat.reduceShiftRight, Nat.reduceAnd, Nat.reduceBneDiff, Nat.reduceBNe, c16r6, semI.eq_10, semI.eq_11, semI.eq_3, semI.eq_5, semI.eq_7]
      refine .cond (p := (x != x2)) (by first | rfl | simp only [wz, wd, ws, Nat.reduceAdd, Nat.reduceSub, Nat.reduceMul, Nat.reduceLeDiff, Nat.reduceEqDiff, Nat.reduceLT, Nat.reduceBEq, reduceIte, reduceCtorEq, Int.reduceToNat, Nat.reduceShiftRight, Nat.reduceAnd, Nat.reduceBneDiff, Nat.reduceBNe]) (fun h1 => ?_) (fun h1 => ?_)
      · rw [ite_t h1] at h
        refine .seq ?_
        refine Rw.walk ?_
        simp only [wz, wd, ws, Nat.reduceAdd, Nat.reduceSub, Nat.reduceMul, Nat.reduceLeDiff, Nat.reduceEqDiff, Nat.reduceLT, Nat.reduceBEq, reduceIte, reduceCtorEq, Int.reduceToNat, Nat.reduceShiftRight, Nat.reduceAnd, Nat.reduceBneDiff, Nat.reduceBNe, c16r7, semI.eq_10, semI.eq_11, semI.eq_3, semI.eq_5, semI.eq_7]
        obtain rfl := Option.some.inj h; obtain rfl := hr _ rfl
        refine .ret ?_
        rw [← hR]
        simp only [wz, wd, ws, Nat.reduceAdd, Nat.reduceSub, Nat.reduceMul, Nat.reduceLeDiff, Nat.reduceEqDiff, Nat.reduceLT, Nat.reduceBEq, reduceIte, reduceCtorEq, Int.reduceToNat, Nat.reduceShiftRight, Nat.reduceAnd, Nat.reduceBneDiff, Nat.reduceBNe, rv16]
      · rw [ite_f h1] at h
        refine .skip ?_
        refine .eblk ?_
        refine Rw.walk ?_
        simp only [wz, wd, ws, Nat.reduceAdd, Nat.reduceSub, Nat.reduceMul, Nat.reduceLeDiff, Nat.reduceEqDiff, Nat.reduceLT, Nat.reduceBEq, reduceIte, reduceCtorEq, Int.reduceToNat, Nat.reduceShiftRight, Nat.reduceAnd, Nat.reduceBneDiff, Nat.reduceBNe, c16r8, semI.eq_10, semI.eq_11, semI.eq_3, semI.eq_5, semI.eq_7]
        refine .lp ?_
        refine .weak (Imp.co [] _ _ ?_ ?_ ?_ ?_ ?_) (ih (IntKind.i64.wrap (v13 + 1)) _ h k_ hx hr) <;> simp only [wz, wd, ws, Nat.reduceAdd, Nat.reduceSub, Nat.reduceMul, Nat.reduceLeDiff, Nat.reduceEqDiff, Nat.reduceLT, Nat.reduceBEq, reduceIte, reduceCtorEq, Int.reduceToNat, Nat.reduceShiftRight, Nat.reduceAnd, Nat.reduceBneDiff, Nat.reduceBNe, wi, er_nil]
    · rw [ite_f h1] at h
      refine .exit rfl ?_
      obtain rfl := Option.some.inj h
      refine .weak (Imp.co [] _ _ ?_ ?_ ?_ ?_ ?_) (hx _ rfl) <;> simp only [wz, wd, ws, Nat.reduceAdd, Nat.reduceSub, Nat.reduceMul, Nat.reduceLeDiff, Nat.reduceEqDiff, Nat.reduceLT, Nat.reduceBEq, reduceIte, reduceCtorEq, Int.reduceToNat, Nat.reduceShiftRight, Nat.reduceAnd, Nat.reduceBneDiff, Nat.reduceBNe, wi, er_nil]
theorem f_ref02_Same_ok (a : (List Int)) (b : (List Int)) (y_ : Bool) (h : f_ref02_Same a b = some y_) : Fun Tryd.prog glP 16 [.b (.s (.d (.sl (a.map (eI .u32))))), .b (.s (.d (.sl (b.map (eI .u32)))))] (.b (.s (.d (.bool y_)))) := by
  refine fun_walk [] Tryd.func16 Tryd.ntmps16 cc16 cr16 (by kernel_rfl) (by simp only [List.length_cons, List.length_nil]; decide) ?_
  generalize hR : Ret _ _ _ _ _ = R_
  simp only [wz, wd, ws, Nat.reduceAdd, Nat.reduceSub, Nat.reduceMul, Nat.reduceLeDiff, Nat.reduceEqDiff, Nat.reduceLT, Nat.reduceBEq, reduceIte, reduceCtorEq, Int.reduceToNat, Nat.reduceShiftRight, Nat.reduceAnd, Nat.reduceBneDiff, Nat.reduceBNe]
  unfold f_ref02_Same at h; unfold c16
  refine .seq ?_
  refine Rw.walk ?_
  simp only [wz, wd, ws, Nat.reduceAdd, Nat.reduceSub, Nat.reduceMul, Nat.reduceLeDiff, Nat.reduceEqDiff, Nat.reduceLT, Nat.reduceBEq, reduceIte, reduceCtorEq, Int.reduceToNat, Nat.reduceShiftRight, Nat.reduceAnd, Nat.reduceBneDiff, Nat.reduceBNe, c16r0, semI.eq_10, semI.eq_11, semI.eq_3, semI.eq_5, semI.eq_7]
  refine .seq ?_
  refine .seq ?_
  refine Rw.walk ?_
  simp only [wz, wd, ws, Nat.reduceAdd, Nat.reduceSub, Nat.reduceMul, Nat.reduceLeDiff, Nat.reduceEqDiff, Nat.reduceLT, Nat.reduceBEq, reduceIte, reduceCtorEq, Int.reduceToNat, Nat.reduceShiftRight, Nat.reduceAnd, Nat.reduceBneDiff, Nat.reduceBNe, c16r1, semI.eq_10, semI.eq_11, semI.eq_3, semI.eq_5, semI.eq_7]
  refine .cond (p := ((a.length : Int) != (b.length : Int))) (by first | rfl | simp only [wz, wd, ws, Nat.reduceAdd, Nat.reduceSub, Nat.reduceMul, Nat.reduceLeDiff, Nat.reduceEqDiff, Nat.reduceLT, Nat.reduceBEq, reduceIte, reduceCtorEq, Int.reduceToNat, Nat.reduceShiftRight, Nat.reduceAnd, Nat.reduceBneDiff, Nat.reduceBNe]) (fun h1 => ?_) (fun h1 => ?_)
  · rw [ite_t h1] at h
    refine .seq ?_
    refine Rw.walk ?_
    simp only [wz, wd, ws, Nat.reduceAdd, Nat.reduceSub, Nat.reduceMul, Nat.reduceLeDiff, Nat.reduceEqDiff, Nat.reduceLT, Nat.reduceBEq, reduceIte, reduceCtorEq, Int.reduceToNat, Nat.reduceShiftRight, Nat.reduceAnd, Nat.reduceBneDiff, Nat.reduceBNe, c16r2, semI.eq_10, semI.eq_11, semI.eq_3, semI.eq_5, semI.eq_7]
    obtain rfl := Option.some.inj h
    refine .ret ?_
    rw [← hR]
    simp only [wz, wd, ws, Nat.reduceAdd, Nat.reduceSub, Nat.reduceMul, Nat.reduceLeDiff, Nat.reduceEqDiff, Nat.reduceLT, Nat.reduceBEq, reduceIte, reduceCtorEq, Int.reduceToNat, Nat.reduceShiftRight, Nat.reduceAnd, Nat.reduceBneDiff, Nat.reduceBNe, rv16]
  · rw [ite_f h1] at h
    refine .skip ?_
    refine .seq ?_
    refine .seq ?_
    refine Rw.walk ?_
    simp only [wz, wd, ws, Nat.reduceAdd, Nat.reduceSub, Nat.reduceMul, Nat.reduceLeDiff, Nat.reduceEqDiff, Nat.reduceLT, Nat.reduceBEq, reduceIte, reduceCtorEq, Int.reduceToNat, Nat.reduceShiftRight, Nat.reduceAnd, Nat.reduceBneDiff, Nat.reduceBNe, c16r3, semI.eq_10, semI.eq_11, semI.eq_3, semI.eq_5, semI.eq_7]
    refine .blk ?_
    obtain ⟨s, hf, h⟩ := Option.bind_eq_some_iff.1 h
    refine .loop (.weak (Imp.co [] _ _ ?c1 ?c2 ?c3 ?c4 ?c5) (f_ref02_Same_l9_ok a b _ _ hR _ _ _ hf _ ?_ ?_))
    case c1 | c2 | c3 | c4 | c5 => simp only [wz, wd, ws, Nat.reduceAdd, Nat.reduceSub, Nat.reduceMul, Nat.reduceLeDiff, Nat.reduceEqDiff, Nat.reduceLT, Nat.reduceBEq, reduceIte, reduceCtorEq, Int.reduceToNat, Nat.reduceShiftRight, Nat.reduceAnd, Nat.reduceBneDiff, Nat.reduceBNe, wi, er_nil]
    · intro s2 hs; subst hs; dsimp only at h
      refine .seq ?_
      refine Rw.walk ?_
      simp only [wz, wd, ws, Nat.reduceAdd, Nat.reduceSub, Nat.reduceMul, Nat.reduceLeDiff, Nat.reduceEqDiff, Nat.reduceLT, Nat.reduceBEq, reduceIte, reduceCtorEq, Int.reduceToNat, Nat.reduceShiftRight, Nat.reduceAnd, Nat.reduceBneDiff, Nat.reduceBNe, c16r9, semI.eq_10, semI.eq_11, semI.eq_3, semI.eq_5, semI.eq_7]
      obtain rfl := Option.some.inj h
      refine .ret ?_
      rw [← hR]
      simp only [wz, wd, ws, Nat.reduceAdd, Nat.reduceSub, Nat.reduceMul, Nat.reduceLeDiff, Nat.reduceEqDiff, Nat.reduceLT, Nat.reduceBEq, reduceIte, reduceCtorEq, Int.reduceToNat, Nat.reduceShiftRight, Nat.reduceAnd, Nat.reduceBneDiff, Nat.reduceBNe, rv16]
    · intro z hz; subst hz; dsimp only at h
      exact Option.some.inj h
-- 20 consignor/consignorref02.Begins
def c20r0 : List Opn := [
  ⟨(some 0), none, .mv (.c (.s .nils))⟩]
def c20r1 : List Opn := [
  ⟨(some 4), none, .bsl 1 []⟩, 
  ⟨(some 1), none, .mv (.t 4)⟩]
def c20r2 : List Opn := [
  ⟨(some 5), none, .call (.fn 41) [(.c (.s (.d (.int .i64 8))))]⟩, 
  ⟨(some 6), none, .len (.sl 0) (.t 5)⟩, 
  ⟨(some 7), none, .mv (.c (.s (.d (.int .i64 0))))⟩]
def c20r3 : List Opn := [
  ⟨(some 8), none, .bin .lss (.t 7) (.t 6)⟩]
def c20r4 : List Opn := [
  ⟨(some 9), none, .iadr (.sl 1) (.t 5) (.t 7)⟩, 
  ⟨(some 10), none, .load false 1 (.t 9)⟩, 
  ⟨(some 3), none, .mv (.t 10)⟩]
def c20r5 : List Opn := [
  ⟨(some 11), none, .mv (.t 1)⟩, 
  ⟨(some 12), none, .mv (.t 3)⟩, 
  ⟨(some 13), none, .call (.fn 42) [(.t 12), (.c (.s (.d (.int .i64 2))))]⟩, 
  ⟨(some 14), none, .bsl 1 [(.t 13)]⟩, 
  ⟨(some 15), none, .app 1 4 false (.t 11) (.t 14)⟩, 
  ⟨(some 1), none, .mv (.t 15)⟩]
def c20r6 : List Opn := [
  ⟨(some 16), none, .bin .add (.t 7) (.c (.s (.d (.int .i64 1))))⟩, 
  ⟨(some 7), none, .mv (.t 16)⟩]
def c20l7 : C := .seq (.reg c20r3 none [1, 5, 6, 7, 8]) (.seq (.cond (.t 8) (.skip) (.exit 0)) (.seq (.blk 1 (.seq (.reg c20r4 none [1, 3, 5, 6, 7]) (.reg c20r5 none [1, 5, 6, 7]))) (.reg c20r6 none [1, 5, 6, 7])))
def c20r7 : List Opn := [
  ⟨(some 17), none, .mv (.t 1)⟩, 
  ⟨(some 0), none, .mv (.t 17)⟩]
def c20 : C := .seq (.reg c20r0 none []) (.seq (.reg c20r1 none [1]) (.seq (.seq (.reg c20r2 none [1, 5, 6, 7]) (.blk 0 (.loop c20l7))) (.seq (.reg c20r7 none [0]) (.ret))))
def k20 : List (Nat × List Nat) := [(7, [0]), (6, [1, 5, 6, 7]), (5, [1, 5, 6, 7]), (4, [1, 3, 5, 6, 7]), (3, [1, 5, 6, 7, 8]), (2, [1, 5, 6, 7]), (1, [1]), (0, [])]
theorem cc20 : (Tryd.f20.body).bind (cC Tryd.prog 18 k20) = some c20 := by kernel_rfl
def rv20 : List RV := [.t 0]
theorem cr20 : cRVs Tryd.prog Tryd.f20.results.toList = some rv20 := by kernel_rfl
theorem f_ref02_Begins_l7_ok (t : (List Int)) (y_ : (List Int)) (R_ : St → Prop) (hR : (RetO Tryd.prog glP 0 1 (y_.map (eI .u32))) = R_) : ∀ (m_ : Nat) (v7 : Int) (out : (List Int)) (res_ : Int × (List Int)) (h : f_ref02_Begins_l7 t m_ v7 out = some res_) (k_ : List It) (hx : ∀ s_ : Int × (List Int), res_ = s_ → W Tryd.prog glP 18 k_ ⟨lkT [(1, .b (.s (.own 4 s_.2.length))), (5, .b (.s (.own 5 t.length))), (6, .b (.s (.d (.int .i64 (t.length : Int))))), (7, .b (.s (.d (.int .i64 s_.1))))], lkG [(4, ⟨1, er (eI .u32) s_.2, false⟩), (5, ⟨1, er (eI .i64) t, false⟩)]⟩ R_), W Tryd.prog glP 18 (.c c20l7 :: .lp c20l7 :: .blk 0 :: k_) ⟨lkT [(1, .b (.s (.own 4 out.length))), (5, .b (.s (.own 5 t.length))), (6, .b (.s (.d (.int .i64 (t.length : Int))))), (7, .b (.s (.d (.int .i64 v7))))], lkG [(4, ⟨1, er (eI .u32) out, false⟩), (5, ⟨1, er (eI .i64) t, false⟩)]⟩ R_ := by
  intro m_; induction m_ with
  | zero => intro v7 out res_ h; rw [f_ref02_Begins_l7.eq_1] at h; cases h
  | succ m_ ih =>
    intro v7 out res_ h k_ hx; rw [f_ref02_Begins_l7.eq_2] at h; refine W.cdef c20l7.eq_1 ?_
    refine .seq ?_
    refine Rw.walk ?_
    simp only [wz, wd, ws, Nat.reduceAdd, Nat.reduceSub, Nat.reduceMul, Nat.reduceLeDiff, Nat.reduceEqDiff, Nat.reduceLT, Nat.reduceBEq, reduceIte, reduceCtorEq, Int.reduceToNat, Nat.reduceShiftRight, Nat.reduceAnd, Nat.reduceBneDiff, Nat.reduceBNe, c20r3, semI.eq_10, semI.eq_11, semI.eq_3, semI.eq_5, semI.eq_7]
    refine .seq ?_
    refine .cond (p := (decide (v7 < (t.length : Int)))) (by first | rfl | simp only [wz, wd, ws, Nat.reduceAdd, Nat.reduceSub, Nat.reduceMul, Nat.reduceLeDiff, Nat.reduceEqDiff, Nat.reduceLT, Nat.reduceBEq, reduceIte, reduceCtorEq, Int.reduceToNat, Nat.reduceShiftRight, Nat.reduceAnd, Nat.reduceBneDiff, Nat.reduceBNe]) (fun h1 => ?_) (fun h1 => ?_)
    · rw [ite_t h1] at h
      refine .skip ?_
      refine .seq ?_
      refine .blk ?_
      refine .seq ?_
      refine Rw.walk ?_
      simp only [wz, wd, ws, Nat.reduceAdd, Nat.reduceSub, Nat.reduceMul, Nat.reduceLeDiff, Nat.reduceEqDiff, Nat.reduceLT, Nat.reduceBEq, reduceIte, reduceCtorEq, Int.reduceToNat, Nat.reduceShiftRight, Nat.reduceAnd, Nat.reduceBneDiff, Nat.reduceBNe, c20r4, semI.eq_10, semI.eq_11, semI.eq_3, semI.eq_5, semI.eq_7]
      obtain ⟨x, e2, h⟩ := Option.bind_eq_some_iff.1 h
      refine Go1.of (sem_iadrO (l := t) e2 (by rfl) (by rfl) (by rfl)) ?_
      simp only [wz, wd, ws, Nat.reduceAdd, Nat.reduceSub, Nat.reduceMul, Nat.reduceLeDiff, Nat.reduceEqDiff, Nat.reduceLT, Nat.reduceBEq, reduceIte, reduceCtorEq, Int.reduceToNat, Nat.reduceShiftRight, Nat.reduceAnd, Nat.reduceBneDiff, Nat.reduceBNe, c20r4, semI.eq_10, semI.eq_11, semI.eq_3, semI.eq_5, semI.eq_7, er_get e2]
      refine Rw.walk ?_
      simp only [wz, wd, ws, Nat.reduceAdd, Nat.reduceSub, Nat.reduceMul, Nat.reduceLeDiff, Nat.reduceEqDiff, Nat.reduceLT, Nat.reduceBEq, reduceIte, reduceCtorEq, Int.reduceToNat, Nat.reduceShiftRight, Nat.reduceAnd, Nat.reduceBneDiff, Nat.reduceBNe, c20r5, semI.eq_10, semI.eq_11, semI.eq_3, semI.eq_5, semI.eq_7, er_get e2]
      obtain ⟨t2, e3, h⟩ := Option.bind_eq_some_iff.1 h
      refine call_fun [] false ⟨trivial, trivial, trivial, trivial⟩ rfl ?_ (f_ref02_root_ok _ _ _ e3) (fun _ => rfl) (fun i hi => by cases hi) ?_
      · simp only [wz, wd, ws, Nat.reduceAdd, Nat.reduceSub, Nat.reduceMul, Nat.reduceLeDiff, Nat.reduceEqDiff, Nat.reduceLT, Nat.reduceBEq, reduceIte, reduceCtorEq, Int.reduceToNat, Nat.reduceShiftRight, Nat.reduceAnd, Nat.reduceBneDiff, Nat.reduceBNe, er_get e2]
      simp only [wz, wd, ws, Nat.reduceAdd, Nat.reduceSub, Nat.reduceMul, Nat.reduceLeDiff, Nat.reduceEqDiff, Nat.reduceLT, Nat.reduceBEq, reduceIte, reduceCtorEq, Int.reduceToNat, Nat.reduceShiftRight, Nat.reduceAnd, Nat.reduceBneDiff, Nat.reduceBNe, c20r5, semI.eq_10, semI.eq_11, semI.eq_3, semI.eq_5, semI.eq_7, er_get e2]
      refine Go1.of (sem_bsl (enc := (eI .u32)) (m := ([t2] : List Int)) (eI_len _) (by rfl) (by rfl) (by rfl) ⟨trivial, trivial⟩) ?_
      simp only [wz, wd, ws, Nat.reduceAdd, Nat.reduceSub, Nat.reduceMul, Nat.reduceLeDiff, Nat.reduceEqDiff, Nat.reduceLT, Nat.reduceBEq, reduceIte, reduceCtorEq, Int.reduceToNat, Nat.reduceShiftRight, Nat.reduceAnd, Nat.reduceBneDiff, Nat.reduceBNe, c20r5, semI.eq_10, semI.eq_11, semI.eq_3, semI.eq_5, semI.eq_7, er_get e2]
      obtain ⟨g4, h⟩ := gd_iff.1 h
      refine Go1.of (sem_app (enc := (eI .u32)) (l := out) (m := ([t2] : List Int)) (eI_len _) (by rfl) (by rfl) (newV_own (m := ([t2] : List Int)) (by rfl) (by rfl))) ?_
      simp only [wz, wd, ws, Nat.reduceAdd, Nat.reduceSub, Nat.reduceMul, Nat.reduceLeDiff, Nat.reduceEqDiff, Nat.reduceLT, Nat.reduceBEq, reduceIte, reduceCtorEq, Int.reduceToNat, Nat.reduceShiftRight, Nat.reduceAnd, Nat.reduceBneDiff, Nat.reduceBNe, c20r5, semI.eq_10, semI.eq_11, semI.eq_3, semI.eq_5, semI.eq_7, er_get e2]
      repeat (refine And.intro ?_ ?_; · first | omega | (intro q; simp only [wz, wd, ws, Nat.reduceAdd, Nat.reduceSub, Nat.reduceMul, Nat.reduceLeDiff, Nat.reduceEqDiff, Nat.reduceLT, Nat.reduceBEq, reduceIte, reduceCtorEq, Int.reduceToNat, Nat.reduceShiftRight, Nat.reduceAnd, Nat.reduceBneDiff, Nat.reduceBNe, q]; done))
      refine .eblk ?_
      refine Rw.walk ?_
      simp only [wz, wd, ws, Nat.reduceAdd, Nat.reduceSub, Nat.reduceMul, Nat.reduceLeDiff, Nat.reduceEqDiff, Nat.reduceLT, Nat.reduceBEq, reduceIte, reduceCtorEq, Int.reduceToNat, Nat.reduceShiftRight, Nat.reduceAnd, Nat.reduceBneDiff, Nat.reduceBNe, c20r6, semI.eq_10, semI.eq_11, semI.eq_3, semI.eq_5, semI.eq_7, er_get e2]
      refine .lp ?_
      refine .weak (Imp.co [] _ _ ?_ ?_ ?_ ?_ ?_) (ih (IntKind.i64.wrap (v7 + 1)) (out ++ ([t2] : List Int)) _ h k_ hx) <;> simp only [wz, wd, ws, Nat.reduceAdd, Nat.reduceSub, Nat.reduceMul, Nat.reduceLeDiff, Nat.reduceEqDiff, Nat.reduceLT, Nat.reduceBEq, reduceIte, reduceCtorEq, Int.reduceToNat, Nat.reduceShiftRight, Nat.reduceAnd, Nat.reduceBneDiff, Nat.reduceBNe, wi, er_nil]
    · rw [ite_f h1] at h
      refine .exit rfl ?_
      obtain rfl := Option.some.inj h
      refine .weak (Imp.co [] _ _ ?_ ?_ ?_ ?_ ?_) (hx _ rfl) <;> simp only [wz, wd, ws, Nat.reduceAdd, Nat.reduceSub, Nat.reduceMul, Nat.reduceLeDiff, Nat.reduceEqDiff, Nat.reduceLT, Nat.reduceBEq, reduceIte, reduceCtorEq, Int.reduceToNat, Nat.reduceShiftRight, Nat.reduceAnd, Nat.reduceBneDiff, Nat.reduceBNe, wi, er_nil]
theorem f_ref02_Begins_ok (y_ : (List Int)) (h : f_ref02_Begins = some y_) : FunO Tryd.prog glP 20 [] 1 (y_.map (eI .u32)) := by
  refine funO_walk Tryd.func20 Tryd.ntmps20 cc20 cr20 (by kernel_rfl) (by simp only [List.length_cons, List.length_nil]; decide) ?_
  generalize hR : RetO _ _ _ _ _ = R_
  simp only [wz, wd, ws, Nat.reduceAdd, Nat.reduceSub, Nat.reduceMul, Nat.reduceLeDiff, Nat.reduceEqDiff, Nat.reduceLT, Nat.reduceBEq, reduceIte, reduceCtorEq, Int.reduceToNat, Nat.reduceShiftRight, Nat.reduceAnd, Nat.reduceBneDiff, Nat.reduceBNe]
  unfold f_ref02_Begins at h; unfold c20
  refine .seq ?_
  refine Rw.walk ?_
  simp only [wz, wd, ws, Nat.reduceAdd, Nat.reduceSub, Nat.reduceMul, Nat.reduceLeDiff, Nat.reduceEqDiff, Nat.reduceLT, Nat.reduceBEq, reduceIte, reduceCtorEq, Int.reduceToNat, Nat.reduceShiftRight, Nat.reduceAnd, Nat.reduceBneDiff, Nat.reduceBNe, c20r0, semI.eq_10, semI.eq_11, semI.eq_3, semI.eq_5, semI.eq_7]
  refine .seq ?_
  refine Rw.walk ?_
  simp only [wz, wd, ws, Nat.reduceAdd, Nat.reduceSub, Nat.reduceMul, Nat.reduceLeDiff, Nat.reduceEqDiff, Nat.reduceLT, Nat.reduceBEq, reduceIte, reduceCtorEq, Int.reduceToNat, Nat.reduceShiftRight, Nat.reduceAnd, Nat.reduceBneDiff, Nat.reduceBNe, c20r1, semI.eq_10, semI.eq_11, semI.eq_3, semI.eq_5, semI.eq_7]
  refine Go1.of (sem_bsl (enc := (eI .u32)) (m := ([] : List Int)) (eI_len _) (by rfl) (by rfl) (by rfl) trivial) ?_
  simp only [wz, wd, ws, Nat.reduceAdd, Nat.reduceSub, Nat.reduceMul, Nat.reduceLeDiff, Nat.reduceEqDiff, Nat.reduceLT, Nat.reduceBEq, reduceIte, reduceCtorEq, Int.reduceToNat, Nat.reduceShiftRight, Nat.reduceAnd, Nat.reduceBneDiff, Nat.reduceBNe, c20r1, semI.eq_10, semI.eq_11, semI.eq_3, semI.eq_5, semI.eq_7]
  refine .seq ?_
  refine .seq ?_
  refine Rw.walk ?_
  simp only [wz, wd, ws, Nat.reduceAdd, Nat.reduceSub, Nat.reduceMul, Nat.reduceLeDiff, Nat.reduceEqDiff, Nat.reduceLT, Nat.reduceBEq, reduceIte, reduceCtorEq, Int.reduceToNat, Nat.reduceShiftRight, Nat.reduceAnd, Nat.reduceBneDiff, Nat.reduceBNe, c20r2, semI.eq_10, semI.eq_11, semI.eq_3, semI.eq_5, semI.eq_7]
  obtain ⟨t, e1, h⟩ := Option.bind_eq_some_iff.1 h
  refine call_funO' [] ⟨trivial, trivial, trivial⟩ rfl ?_ (f_ref02_primes_ok _ _ e1) rfl (.inl rfl) ?_
  · simp only [wz, wd, ws, Nat.reduceAdd, Nat.reduceSub, Nat.reduceMul, Nat.reduceLeDiff, Nat.reduceEqDiff, Nat.reduceLT, Nat.reduceBEq, reduceIte, reduceCtorEq, Int.reduceToNat, Nat.reduceShiftRight, Nat.reduceAnd, Nat.reduceBneDiff, Nat.reduceBNe]
  simp only [wz, wd, ws, Nat.reduceAdd, Nat.reduceSub, Nat.reduceMul, Nat.reduceLeDiff, Nat.reduceEqDiff, Nat.reduceLT, Nat.reduceBEq, reduceIte, reduceCtorEq, Int.reduceToNat, Nat.reduceShiftRight, Nat.reduceAnd, Nat.reduceBneDiff, Nat.reduceBNe, c20r2, semI.eq_10, semI.eq_11, semI.eq_3, semI.eq_5, semI.eq_7]
  refine .blk ?_
  obtain ⟨s, hf, h⟩ := Option.bind_eq_some_iff.1 h
  refine .loop (.weak (Imp.co [] _ _ ?c1 ?c2 ?c3 ?c4 ?c5) (f_ref02_Begins_l7_ok t _ _ hR _ _ _ _ hf _ ?_))
  case c1 | c2 | c3 | c4 | c5 => simp only [wz, wd, ws, Nat.reduceAdd, Nat.reduceSub, Nat.reduceMul, Nat.reduceLeDiff, Nat.reduceEqDiff, Nat.reduceLT, Nat.reduceBEq, reduceIte, reduceCtorEq, Int.reduceToNat, Nat.reduceShiftRight, Nat.reduceAnd, Nat.reduceBneDiff, Nat.reduceBNe, wi, er_nil]
  · intro s_ hs; subst hs
    refine .seq ?_
    refine Rw.walk ?_
    simp only [wz, wd, ws, Nat.reduceAdd, Nat.reduceSub, Nat.reduceMul, Nat.reduceLeDiff, Nat.reduceEqDiff, Nat.reduceLT, Nat.reduceBEq, reduceIte, reduceCtorEq, Int.reduceToNat, Nat.reduceShiftRight, Nat.reduceAnd, Nat.reduceBneDiff, Nat.reduceBNe, c20r7, semI.eq_10, semI.eq_11, semI.eq_3, semI.eq_5, semI.eq_7]
    obtain rfl := Option.some.inj h
    refine .ret ?_
    rw [← hR]
    refine ⟨4, ?_, ?_⟩ <;> simp only [wz, wd, ws, Nat.reduceAdd, Nat.reduceSub, Nat.reduceMul, Nat.reduceLeDiff, Nat.reduceEqDiff, Nat.reduceLT, Nat.reduceBEq, reduceIte, reduceCtorEq, Int.reduceToNat, Nat.reduceShiftRight, Nat.reduceAnd, Nat.reduceBneDiff, Nat.reduceBNe, er, List.length_map]
-- 3 consignor/consignorlaw02.DigestSums
def c3r0 : List Opn := [
  ⟨(some 2), none, .mv (.c (.s (.d (.bool false))))⟩]
def c3r1 : List Opn := [
  ⟨(some 3), none, .mv (.t 0)⟩, 
  ⟨(some 4), none, .call (.fn 10) [(.t 3)]⟩, 
  ⟨(some 0), none, .mv (.t 4)⟩]
def c3r2 : List Opn := [
  ⟨(some 5), none, .call (.fn 11) []⟩, 
  ⟨(some 6), none, .mv (.t 5)⟩, 
  ⟨(some 7), some (6, true), .mv (.t 0)⟩, 
  ⟨(some 8), some (6, true), .bsl 1 [(.t 7)]⟩, 
  ⟨(some 9), some (6, true), .call (.fn 12) [(.t 8)]⟩, 
  ⟨(some 10), some (6, true), .mv (.t 0)⟩, 
  ⟨(some 11), some (6, true), .call (.fn 13) [(.t 10)]⟩, 
  ⟨(some 12), some (6, true), .bin .eql (.t 9) (.t 11)⟩, 
  ⟨(some 13), none, .pick (.t 6) (.t 12) (.c (.s (.d (.bool false))))⟩, 
  ⟨(some 14), none, .mv (.t 13)⟩, 
  ⟨(some 15), some (14, true), .mv (.t 0)⟩, 
  ⟨(some 16), some (14, true), .call (.fn 14) [(.t 15)]⟩, 
  ⟨(some 17), some (14, true), .mv (.t 0)⟩, 
  ⟨(some 18), some (14, true), .call (.fn 15) [(.t 17)]⟩, 
  ⟨(some 19), some (14, true), .bin .eql (.t 16) (.t 18)⟩, 
  ⟨(some 20), none, .pick (.t 14) (.t 19) (.c (.s (.d (.bool false))))⟩, 
  ⟨(some 21), none, .mv (.t 20)⟩, 
  ⟨(some 22), some (21, true), .call (.fn 17) []⟩, 
  ⟨(some 23), some (21, true), .call (.fn 18) []⟩, 
  ⟨(some 24), some (21, true), .call (.fn 16) [(.t 22), (.t 23)]⟩, 
  ⟨(some 25), none, .pick (.t 21) (.t 24) (.c (.s (.d (.bool false))))⟩, 
  ⟨(some 26), none, .mv (.t 25)⟩, 
  ⟨(some 27), some (26, true), .call (.fn 19) []⟩, 
  ⟨(some 28), some (26, true), .call (.fn 20) []⟩, 
  ⟨(some 29), some (26, true), .call (.fn 16) [(.t 27), (.t 28)]⟩, 
  ⟨(some 30), none, .pick (.t 26) (.t 29) (.c (.s (.d (.bool false))))⟩, 
  ⟨(some 2), none, .mv (.t 30)⟩]
def c3 : C := .seq (.reg c3r0 none [0]) (.seq (.reg c3r1 none [0]) (.seq (.reg c3r2 none [2]) (.ret)))
def k3 : List (Nat × List Nat) := [(2, [2]), (1, [0]), (0, [0])]
theorem cc3 : (Tryd.f3.body).bind (cC Tryd.prog 31 k3) = some c3 := by kernel_rfl
def rv3 : List RV := [.t 2]
theorem cr3 : cRVs Tryd.prog Tryd.f3.results.toList = some rv3 := by kernel_rfl
theorem f_law02_DigestSums_ok (s : Str) (y_ : Bool) (h : f_law02_DigestSums s = some y_) : Fun Tryd.prog glP 3 [.b (.s (.d (.str s)))] (.b (.s (.d (.bool y_)))) := by
  refine fun_walk [] Tryd.func3 Tryd.ntmps3 cc3 cr3 (by kernel_rfl) (by simp only [List.length_cons, List.length_nil]; decide) ?_
  generalize hR : Ret _ _ _ _ _ = R_
  simp only [wz, wd, ws, Nat.reduceAdd, Nat.reduceSub, Nat.reduceMul, Nat.reduceLeDiff, Nat.reduceEqDiff, Nat.reduceLT, Nat.reduceBEq, reduceIte, reduceCtorEq, Int.reduceToNat, Nat.reduceShiftRight, Nat.reduceAnd, Nat.reduceBneDiff, Nat.reduceBNe]
  unfold f_law02_DigestSums at h; unfold c3
  refine .seq ?_
  refine Rw.walk ?_
  simp only [wz, wd, ws, Nat.reduceAdd, Nat.reduceSub, Nat.reduceMul, Nat.reduceLeDiff, Nat.reduceEqDiff, Nat.reduceLT, Nat.reduceBEq, reduceIte, reduceCtorEq, Int.reduceToNat, Nat.reduceShiftRight, Nat.reduceAnd, Nat.reduceBneDiff, Nat.reduceBNe, c3r0, semI.eq_10, semI.eq_11, semI.eq_3, semI.eq_5, semI.eq_7]
  refine .seq ?_
  refine Rw.walk ?_
  simp only [wz, wd, ws, Nat.reduceAdd, Nat.reduceSub, Nat.reduceMul, Nat.reduceLeDiff, Nat.reduceEqDiff, Nat.reduceLT, Nat.reduceBEq, reduceIte, reduceCtorEq, Int.reduceToNat, Nat.reduceShiftRight, Nat.reduceAnd, Nat.reduceBneDiff, Nat.reduceBNe, c3r1, semI.eq_10, semI.eq_11, semI.eq_3, semI.eq_5, semI.eq_7]
  obtain ⟨t, e1, h⟩ := Option.bind_eq_some_iff.1 h
  refine call_fun [] false ⟨trivial, trivial, trivial⟩ rfl ?_ (f_law02_short_ok _ _ e1) (fun _ => rfl) (fun i hi => by cases hi) ?_
  · simp only [wz, wd, ws, Nat.reduceAdd, Nat.reduceSub, Nat.reduceMul, Nat.reduceLeDiff, Nat.reduceEqDiff, Nat.reduceLT, Nat.reduceBEq, reduceIte, reduceCtorEq, Int.reduceToNat, Nat.reduceShiftRight, Nat.reduceAnd, Nat.reduceBneDiff, Nat.reduceBNe]
  simp only [wz, wd, ws, Nat.reduceAdd, Nat.reduceSub, Nat.reduceMul, Nat.reduceLeDiff, Nat.reduceEqDiff, Nat.reduceLT, Nat.reduceBEq, reduceIte, reduceCtorEq, Int.reduceToNat, Nat.reduceShiftRight, Nat.reduceAnd, Nat.reduceBneDiff, Nat.reduceBNe, c3r1, semI.eq_10, semI.eq_11, semI.eq_3, semI.eq_5, semI.eq_7]
  refine .seq ?_
  refine Rs.walk ?_
  simp only [wz, wd, ws, Nat.reduceAdd, Nat.reduceSub, Nat.reduceMul, Nat.reduceLeDiff, Nat.reduceEqDiff, Nat.reduceLT, Nat.reduceBEq, reduceIte, reduceCtorEq, Int.reduceToNat, Nat.reduceShiftRight, Nat.reduceAnd, Nat.reduceBneDiff, Nat.reduceBNe, c3r2, semI.eq_10, semI.eq_11, semI.eq_3, semI.eq_5, semI.eq_7]
  obtain ⟨t2, e2, h⟩ := Option.bind_eq_some_iff.1 h
  refine call_fun [] false ⟨trivial, trivial⟩ rfl ?_ (f_law02_alive_ok _ e2) (fun _ => rfl) (fun i hi => by cases hi) ?_
  · simp only [wz, wd, ws, Nat.reduceAdd, Nat.reduceSub, Nat.reduceMul, Nat.reduceLeDiff, Nat.reduceEqDiff, Nat.reduceLT, Nat.reduceBEq, reduceIte, reduceCtorEq, Int.reduceToNat, Nat.reduceShiftRight, Nat.reduceAnd, Nat.reduceBneDiff, Nat.reduceBNe]
  simp only [wz, wd, ws, Nat.reduceAdd, Nat.reduceSub, Nat.reduceMul, Nat.reduceLeDiff, Nat.reduceEqDiff, Nat.reduceLT, Nat.reduceBEq, reduceIte, reduceCtorEq, Int.reduceToNat, Nat.reduceShiftRight, Nat.reduceAnd, Nat.reduceBneDiff, Nat.reduceBNe, c3r2, semI.eq_10, semI.eq_11, semI.eq_3, semI.eq_5, semI.eq_7]
  cases q5 : t2
  case' false =>
    rw [ite_f q5] at h
    simp only [wz, wd, ws, Nat.reduceAdd, Nat.reduceSub, Nat.reduceMul, Nat.reduceLeDiff, Nat.reduceEqDiff, Nat.reduceLT, Nat.reduceBEq, reduceIte, reduceCtorEq, Int.reduceToNat, Nat.reduceShiftRight, Nat.reduceAnd, Nat.reduceBneDiff, Nat.reduceBNe, q5, semI.eq_10, semI.eq_11, semI.eq_3, semI.eq_5, semI.eq_7]
    repeat (refine And.intro ?_ ?_; · first | omega | (intro q; simp only [wz, wd, ws, Nat.reduceAdd, Nat.reduceSub, Nat.reduceMul, Nat.reduceLeDiff, Nat.reduceEqDiff, Nat.reduceLT, Nat.reduceBEq, reduceIte, reduceCtorEq, Int.reduceToNat, Nat.reduceShiftRight, Nat.reduceAnd, Nat.reduceBneDiff, Nat.reduceBNe, q]; done))
    obtain rfl := Option.some.inj h
    refine .ret ?_
    rw [← hR]
    simp only [wz, wd, ws, Nat.reduceAdd, Nat.reduceSub, Nat.reduceMul, Nat.reduceLeDiff, Nat.reduceEqDiff, Nat.reduceLT, Nat.reduceBEq, reduceIte, reduceCtorEq, Int.reduceToNat, Nat.reduceShiftRight, Nat.reduceAnd, Nat.reduceBneDiff, Nat.reduceBNe, rv3]
  case' true =>
    rw [ite_t q5] at h
    simp only [wz, wd, ws, Nat.reduceAdd, Nat.reduceSub, Nat.reduceMul, Nat.reduceLeDiff, Nat.reduceEqDiff, Nat.reduceLT, Nat.reduceBEq, reduceIte, reduceCtorEq, Int.reduceToNat, Nat.reduceShiftRight, Nat.reduceAnd, Nat.reduceBneDiff, Nat.reduceBNe, q5, semI.eq_10, semI.eq_11, semI.eq_3, semI.eq_5, semI.eq_7]
    refine GoU.of (sem_bsl (enc := eS) (m := ([t] : List Str)) eS_len (by rfl) (by rfl) (by rfl) ⟨trivial, trivial⟩) ?_
    simp only [wz, wd, ws, Nat.reduceAdd, Nat.reduceSub, Nat.reduceMul, Nat.reduceLeDiff, Nat.reduceEqDiff, Nat.reduceLT, Nat.reduceBEq, reduceIte, reduceCtorEq, Int.reduceToNat, Nat.reduceShiftRight, Nat.reduceAnd, Nat.reduceBneDiff, Nat.reduceBNe, q5, semI.eq_10, semI.eq_11, semI.eq_3, semI.eq_5, semI.eq_7]
    obtain ⟨t3, e3, h⟩ := Option.bind_eq_some_iff.1 h
    refine call_funT [8] false rfl rfl (by simp only [wz, wd, ws, Nat.reduceAdd, Nat.reduceSub, Nat.reduceMul, Nat.reduceLeDiff, Nat.reduceEqDiff, Nat.reduceLT, Nat.reduceBEq, reduceIte, reduceCtorEq, Int.reduceToNat, Nat.reduceShiftRight, Nat.reduceAnd, Nat.reduceBneDiff, Nat.reduceBNe]) rfl ?_ (f_digest_Sum_ok _ _ e3) (fun _ => rfl) (fun i hi e he => coF_get (l := [8]) (by simp only [wz, wd, ws, Nat.reduceAdd, Nat.reduceSub, Nat.reduceMul, Nat.reduceLeDiff, Nat.reduceEqDiff, Nat.reduceLT, Nat.reduceBEq, reduceIte, reduceCtorEq, Int.reduceToNat, Nat.reduceShiftRight, Nat.reduceAnd, Nat.reduceBneDiff, Nat.reduceBNe, wi]) i e hi he) ?_
    · simp only [wz, wd, ws, Nat.reduceAdd, Nat.reduceSub, Nat.reduceMul, Nat.reduceLeDiff, Nat.reduceEqDiff, Nat.reduceLT, Nat.reduceBEq, reduceIte, reduceCtorEq, Int.reduceToNat, Nat.reduceShiftRight, Nat.reduceAnd, Nat.reduceBneDiff, Nat.reduceBNe]
    simp only [wz, wd, ws, Nat.reduceAdd, Nat.reduceSub, Nat.reduceMul, Nat.reduceLeDiff, Nat.reduceEqDiff, Nat.reduceLT, Nat.reduceBEq, reduceIte, reduceCtorEq, Int.reduceToNat, Nat.reduceShiftRight, Nat.reduceAnd, Nat.reduceBneDiff, Nat.reduceBNe, q5, semI.eq_10, semI.eq_11, semI.eq_3, semI.eq_5, semI.eq_7]
    obtain ⟨t4, e4, h⟩ := Option.bind_eq_some_iff.1 h
    refine call_funT [] false rfl rfl (by simp only [wz, wd, ws, Nat.reduceAdd, Nat.reduceSub, Nat.reduceMul, Nat.reduceLeDiff, Nat.reduceEqDiff, Nat.reduceLT, Nat.reduceBEq, reduceIte, reduceCtorEq, Int.reduceToNat, Nat.reduceShiftRight, Nat.reduceAnd, Nat.reduceBneDiff, Nat.reduceBNe]) rfl ?_ (f_ref02_Sum_ok _ _ e4) (fun _ => rfl) (fun i hi => by cases hi) ?_
    · simp only [wz, wd, ws, Nat.reduceAdd, Nat.reduceSub, Nat.reduceMul, Nat.reduceLeDiff, Nat.reduceEqDiff, Nat.reduceLT, Nat.reduceBEq, reduceIte, reduceCtorEq, Int.reduceToNat, Nat.reduceShiftRight, Nat.reduceAnd, Nat.reduceBneDiff, Nat.reduceBNe]
    simp only [wz, wd, ws, Nat.reduceAdd, Nat.reduceSub, Nat.reduceMul, Nat.reduceLeDiff, Nat.reduceEqDiff, Nat.reduceLT, Nat.reduceBEq, reduceIte, reduceCtorEq, Int.reduceToNat, Nat.reduceShiftRight, Nat.reduceAnd, Nat.reduceBneDiff, Nat.reduceBNe, q5, semI.eq_10, semI.eq_11, semI.eq_3, semI.eq_5, semI.eq_7]
    repeat (refine And.intro ?_ ?_; · first | omega | (intro q; simp only [wz, wd, ws, Nat.reduceAdd, Nat.reduceSub, Nat.reduceMul, Nat.reduceLeDiff, Nat.reduceEqDiff, Nat.reduceLT, Nat.reduceBEq, reduceIte, reduceCtorEq, Int.reduceToNat, Nat.reduceShiftRight, Nat.reduceAnd, Nat.reduceBneDiff, Nat.reduceBNe, q]; done))
    cases q6 : (t3 == t4)
    case' false =>
      rw [ite_f q6] at h
      simp only [wz, wd, ws, Nat.reduceAdd, Nat.reduceSub, Nat.reduceMul, Nat.reduceLeDiff, Nat.reduceEqDiff, Nat.reduceLT, Nat.reduceBEq, reduceIte, reduceCtorEq, Int.reduceToNat, Nat.reduceShiftRight, Nat.reduceAnd, Nat.reduceBneDiff, Nat.reduceBNe, q6, semI.eq_10, semI.eq_11, semI.eq_3, semI.eq_5, semI.eq_7]
      repeat (refine And.intro ?_ ?_; · first | omega | (intro q; simp only [wz, wd, ws, Nat.reduceAdd, Nat.reduceSub, Nat.reduceMul, Nat.reduceLeDiff, Nat.reduceEqDiff, Nat.reduceLT, Nat.reduceBEq, reduceIte, reduceCtorEq, Int.reduceToNat, Nat.reduceShiftRight, Nat.reduceAnd, Nat.reduceBneDiff, Nat.reduceBNe, q]; done))
      obtain rfl := Option.some.inj h
      refine .ret ?_
      rw [← hR]
      simp only [wz, wd, ws, Nat.reduceAdd, Nat.reduceSub, Nat.reduceMul, Nat.reduceLeDiff, Nat.reduceEqDiff, Nat.reduceLT, Nat.reduceBEq, reduceIte, reduceCtorEq, Int.reduceToNat, Nat.reduceShiftRight, Nat.reduceAnd, Nat.reduceBneDiff, Nat.reduceBNe, rv3]
    case' true =>
      rw [ite_t q6] at h
      simp only [wz, wd, ws, Nat.reduceAdd, Nat.reduceSub, Nat.reduceMul, Nat.reduceLeDiff, Nat.reduceEqDiff, Nat.reduceLT, Nat.reduceBEq, reduceIte, reduceCtorEq, Int.reduceToNat, Nat.reduceShiftRight, Nat.reduceAnd, Nat.reduceBneDiff, Nat.reduceBNe, q6, semI.eq_10, semI.eq_11, semI.eq_3, semI.eq_5, semI.eq_7]
      obtain ⟨t5, e5, h⟩ := Option.bind_eq_some_iff.1 h
      refine call_funT [] false rfl rfl (by simp only [wz, wd, ws, Nat.reduceAdd, Nat.reduceSub, Nat.reduceMul, Nat.reduceLeDiff, Nat.reduceEqDiff, Nat.reduceLT, Nat.reduceBEq, reduceIte, reduceCtorEq, Int.reduceToNat, Nat.reduceShiftRight, Nat.reduceAnd, Nat.reduceBneDiff, Nat.reduceBNe]) rfl ?_ (f_digest_Of_ok _ _ e5) (fun _ => rfl) (fun i hi => by cases hi) ?_
      · simp only [wz, wd, ws, Nat.reduceAdd, Nat.reduceSub, Nat.reduceMul, Nat.reduceLeDiff, Nat.reduceEqDiff, Nat.reduceLT, Nat.reduceBEq, reduceIte, reduceCtorEq, Int.reduceToNat, Nat.reduceShiftRight, Nat.reduceAnd, Nat.reduceBneDiff, Nat.reduceBNe]
      simp only [wz, wd, ws, Nat.reduceAdd, Nat.reduceSub, Nat.reduceMul, Nat.reduceLeDiff, Nat.reduceEqDiff, Nat.reduceLT, Nat.reduceBEq, reduceIte, reduceCtorEq, Int.reduceToNat, Nat.reduceShiftRight, Nat.reduceAnd, Nat.reduceBneDiff, Nat.reduceBNe, q6, semI.eq_10, semI.eq_11, semI.eq_3, semI.eq_5, semI.eq_7]
      obtain ⟨t6, e6, h⟩ := Option.bind_eq_some_iff.1 h
      refine call_funT [] false rfl rfl (by simp only [wz, wd, ws, Nat.reduceAdd, Nat.reduceSub, Nat.reduceMul, Nat.reduceLeDiff, Nat.reduceEqDiff, Nat.reduceLT, Nat.reduceBEq, reduceIte, reduceCtorEq, Int.reduceToNat, Nat.reduceShiftRight, Nat.reduceAnd, Nat.reduceBneDiff, Nat.reduceBNe]) rfl ?_ (f_ref02_Of_ok _ _ e6) (fun _ => rfl) (fun i hi => by cases hi) ?_
      · simp only [wz, wd, ws, Nat.reduceAdd, Nat.reduceSub, Nat.reduceMul, Nat.reduceLeDiff, Nat.reduceEqDiff, Nat.reduceLT, Nat.reduceBEq, reduceIte, reduceCtorEq, Int.reduceToNat, Nat.reduceShiftRight, Nat.reduceAnd, Nat.reduceBneDiff, Nat.reduceBNe]
      simp only [wz, wd, ws, Nat.reduceAdd, Nat.reduceSub, Nat.reduceMul, Nat.reduceLeDiff, Nat.reduceEqDiff, Nat.reduceLT, Nat.reduceBEq, reduceIte, reduceCtorEq, Int.reduceToNat, Nat.reduceShiftRight, Nat.reduceAnd, Nat.reduceBneDiff, Nat.reduceBNe, q6, semI.eq_10, semI.eq_11, semI.eq_3, semI.eq_5, semI.eq_7]
      repeat (refine And.intro ?_ ?_; · first | omega | (intro q; simp only [wz, wd, ws, Nat.reduceAdd, Nat.reduceSub, Nat.reduceMul, Nat.reduceLeDiff, Nat.reduceEqDiff, Nat.reduceLT, Nat.reduceBEq, reduceIte, reduceCtorEq, Int.reduceToNat, Nat.reduceShiftRight, Nat.reduceAnd, Nat.reduceBneDiff, Nat.reduceBNe, q]; done))
      cases q7 : (t5 == t6)
      case' false =>
        rw [ite_f q7] at h
        simp only [wz, wd, ws, Nat.reduceAdd, Nat.reduceSub, Nat.reduceMul, Nat.reduceLeDiff, Nat.reduceEqDiff, Nat.reduceLT, Nat.reduceBEq, reduceIte, reduceCtorEq, Int.reduceToNat, Nat.reduceShiftRight, Nat.reduceAnd, Nat.reduceBneDiff, Nat.reduceBNe, q7, semI.eq_10, semI.eq_11, semI.eq_3, semI.eq_5, semI.eq_7]
        repeat (refine And.intro ?_ ?_; · first | omega | (intro q; simp only [wz, wd, ws, Nat.reduceAdd, Nat.reduceSub, Nat.reduceMul, Nat.reduceLeDiff, Nat.reduceEqDiff, Nat.reduceLT, Nat.reduceBEq, reduceIte, reduceCtorEq, Int.reduceToNat, Nat.reduceShiftRight, Nat.reduceAnd, Nat.reduceBneDiff, Nat.reduceBNe, q]; done))
        obtain rfl := Option.some.inj h
        refine .ret ?_
        rw [← hR]
        simp only [wz, wd, ws, Nat.reduceAdd, Nat.reduceSub, Nat.reduceMul, Nat.reduceLeDiff, Nat.reduceEqDiff, Nat.reduceLT, Nat.reduceBEq, reduceIte, reduceCtorEq, Int.reduceToNat, Nat.reduceShiftRight, Nat.reduceAnd, Nat.reduceBneDiff, Nat.reduceBNe, rv3]
      case' true =>
        rw [ite_t q7] at h
        simp only [wz, wd, ws, Nat.reduceAdd, Nat.reduceSub, Nat.reduceMul, Nat.reduceLeDiff, Nat.reduceEqDiff, Nat.reduceLT, Nat.reduceBEq, reduceIte, reduceCtorEq, Int.reduceToNat, Nat.reduceShiftRight, Nat.reduceAnd, Nat.reduceBneDiff, Nat.reduceBNe, q7, semI.eq_10, semI.eq_11, semI.eq_3, semI.eq_5, semI.eq_7]
        obtain ⟨t7, e7, h⟩ := Option.bind_eq_some_iff.1 h
        refine call_funOT [] rfl rfl (by simp only [wz, wd, ws, Nat.reduceAdd, Nat.reduceSub, Nat.reduceMul, Nat.reduceLeDiff, Nat.reduceEqDiff, Nat.reduceLT, Nat.reduceBEq, reduceIte, reduceCtorEq, Int.reduceToNat, Nat.reduceShiftRight, Nat.reduceAnd, Nat.reduceBneDiff, Nat.reduceBNe]) rfl ?_ (f_ref02_Keys_ok _ e7) rfl (.inl rfl) ?_
        · simp only [wz, wd, ws, Nat.reduceAdd, Nat.reduceSub, Nat.reduceMul, Nat.reduceLeDiff, Nat.reduceEqDiff, Nat.reduceLT, Nat.reduceBEq, reduceIte, reduceCtorEq, Int.reduceToNat, Nat.reduceShiftRight, Nat.reduceAnd, Nat.reduceBneDiff, Nat.reduceBNe]
        simp only [wz, wd, ws, Nat.reduceAdd, Nat.reduceSub, Nat.reduceMul, Nat.reduceLeDiff, Nat.reduceEqDiff, Nat.reduceLT, Nat.reduceBEq, reduceIte, reduceCtorEq, Int.reduceToNat, Nat.reduceShiftRight, Nat.reduceAnd, Nat.reduceBneDiff, Nat.reduceBNe, q7, semI.eq_10, semI.eq_11, semI.eq_3, semI.eq_5, semI.eq_7]
        obtain ⟨t8, e8, h⟩ := Option.bind_eq_some_iff.1 h
        refine call_funOT [] rfl rfl (by simp only [wz, wd, ws, Nat.reduceAdd, Nat.reduceSub, Nat.reduceMul, Nat.reduceLeDiff, Nat.reduceEqDiff, Nat.reduceLT, Nat.reduceBEq, reduceIte, reduceCtorEq, Int.reduceToNat, Nat.reduceShiftRight, Nat.reduceAnd, Nat.reduceBneDiff, Nat.reduceBNe]) rfl ?_ (f_ref02_Roots_ok _ e8) rfl (.inl rfl) ?_
        · simp only [wz, wd, ws, Nat.reduceAdd, Nat.reduceSub, Nat.reduceMul, Nat.reduceLeDiff, Nat.reduceEqDiff, Nat.reduceLT, Nat.reduceBEq, reduceIte, reduceCtorEq, Int.reduceToNat, Nat.reduceShiftRight, Nat.reduceAnd, Nat.reduceBneDiff, Nat.reduceBNe]
        simp only [wz, wd, ws, Nat.reduceAdd, Nat.reduceSub, Nat.reduceMul, Nat.reduceLeDiff, Nat.reduceEqDiff, Nat.reduceLT, Nat.reduceBEq, reduceIte, reduceCtorEq, Int.reduceToNat, Nat.reduceShiftRight, Nat.reduceAnd, Nat.reduceBneDiff, Nat.reduceBNe, q7, semI.eq_10, semI.eq_11, semI.eq_3, semI.eq_5, semI.eq_7]
        obtain ⟨t9, e9, h⟩ := Option.bind_eq_some_iff.1 h
        refine call_funT [22, 23] false rfl rfl (by simp only [wz, wd, ws, Nat.reduceAdd, Nat.reduceSub, Nat.reduceMul, Nat.reduceLeDiff, Nat.reduceEqDiff, Nat.reduceLT, Nat.reduceBEq, reduceIte, reduceCtorEq, Int.reduceToNat, Nat.reduceShiftRight, Nat.reduceAnd, Nat.reduceBneDiff, Nat.reduceBNe]) rfl ?_ (f_ref02_Same_ok _ _ _ e9) (fun _ => rfl) (fun i hi e he => coF_get (l := [22, 23]) (by simp only [wz, wd, ws, Nat.reduceAdd, Nat.reduceSub, Nat.reduceMul, Nat.reduceLeDiff, Nat.reduceEqDiff, Nat.reduceLT, Nat.reduceBEq, reduceIte, reduceCtorEq, Int.reduceToNat, Nat.reduceShiftRight, Nat.reduceAnd, Nat.reduceBneDiff, Nat.reduceBNe, wi]) i e hi he) ?_
        · simp only [wz, wd, ws, Nat.reduceAdd, Nat.reduceSub, Nat.reduceMul, Nat.reduceLeDiff, Nat.reduceEqDiff, Nat.reduceLT, Nat.reduceBEq, reduceIte, reduceCtorEq, Int.reduceToNat, Nat.reduceShiftRight, Nat.reduceAnd, Nat.reduceBneDiff, Nat.reduceBNe]
        simp only [wz, wd, ws, Nat.reduceAdd, Nat.reduceSub, Nat.reduceMul, Nat.reduceLeDiff, Nat.reduceEqDiff, Nat.reduceLT, Nat.reduceBEq, reduceIte, reduceCtorEq, Int.reduceToNat, Nat.reduceShiftRight, Nat.reduceAnd, Nat.reduceBneDiff, Nat.reduceBNe, q7, semI.eq_10, semI.eq_11, semI.eq_3, semI.eq_5, semI.eq_7]
        repeat (refine And.intro ?_ ?_; · first | omega | (intro q; simp only [wz, wd, ws, Nat.reduceAdd, Nat.reduceSub, Nat.reduceMul, Nat.reduceLeDiff, Nat.reduceEqDiff, Nat.reduceLT, Nat.reduceBEq, reduceIte, reduceCtorEq, Int.reduceToNat, Nat.reduceShiftRight, Nat.reduceAnd, Nat.reduceBneDiff, Nat.reduceBNe, q]; done))
        cases q8 : t9
        case' false =>
          rw [ite_f q8] at h
          simp only [wz, wd, ws, Nat.reduceAdd, Nat.reduceSub, Nat.reduceMul, Nat.reduceLeDiff, Nat.reduceEqDiff, Nat.reduceLT, Nat.reduceBEq, reduceIte, reduceCtorEq, Int.reduceToNat, Nat.reduceShiftRight, Nat.reduceAnd, Nat.reduceBneDiff, Nat.reduceBNe, q8, semI.eq_10, semI.eq_11, semI.eq_3, semI.eq_5, semI.eq_7]
          repeat (refine And.intro ?_ ?_; · first | omega | (intro q; simp only [wz, wd, ws, Nat.reduceAdd, Nat.reduceSub, Nat.reduceMul, Nat.reduceLeDiff, Nat.reduceEqDiff, Nat.reduceLT, Nat.reduceBEq, reduceIte, reduceCtorEq, Int.reduceToNat, Nat.reduceShiftRight, Nat.reduceAnd, Nat.reduceBneDiff, Nat.reduceBNe, q]; done))
          obtain rfl := Option.some.inj h
          refine .ret ?_
          rw [← hR]
          simp only [wz, wd, ws, Nat.reduceAdd, Nat.reduceSub, Nat.reduceMul, Nat.reduceLeDiff, Nat.reduceEqDiff, Nat.reduceLT, Nat.reduceBEq, reduceIte, reduceCtorEq, Int.reduceToNat, Nat.reduceShiftRight, Nat.reduceAnd, Nat.reduceBneDiff, Nat.reduceBNe, rv3]
        case' true =>
          rw [ite_t q8] at h
          simp only [wz, wd, ws, Nat.reduceAdd, Nat.reduceSub, Nat.reduceMul, Nat.reduceLeDiff, Nat.reduceEqDiff, Nat.reduceLT, Nat.reduceBEq, reduceIte, reduceCtorEq, Int.reduceToNat, Nat.reduceShiftRight, Nat.reduceAnd, Nat.reduceBneDiff, Nat.reduceBNe, q8, semI.eq_10, semI.eq_11, semI.eq_3, semI.eq_5, semI.eq_7]
          obtain ⟨t10, e10, h⟩ := Option.bind_eq_some_iff.1 h
          refine call_funOT [] rfl rfl (by simp only [wz, wd, ws, Nat.reduceAdd, Nat.reduceSub, Nat.reduceMul, Nat.reduceLeDiff, Nat.reduceEqDiff, Nat.reduceLT, Nat.reduceBEq, reduceIte, reduceCtorEq, Int.reduceToNat, Nat.reduceShiftRight, Nat.reduceAnd, Nat.reduceBneDiff, Nat.reduceBNe]) rfl ?_ (f_ref02_First_ok _ e10) rfl (.inl rfl) ?_
          · simp only [wz, wd, ws, Nat.reduceAdd, Nat.reduceSub, Nat.reduceMul, Nat.reduceLeDiff, Nat.reduceEqDiff, Nat.reduceLT, Nat.reduceBEq, reduceIte, reduceCtorEq, Int.reduceToNat, Nat.reduceShiftRight, Nat.reduceAnd, Nat.reduceBneDiff, Nat.reduceBNe]
          simp only [wz, wd, ws, Nat.reduceAdd, Nat.reduceSub, Nat.reduceMul, Nat.reduceLeDiff, Nat.reduceEqDiff, Nat.reduceLT, Nat.reduceBEq, reduceIte, reduceCtorEq, Int.reduceToNat, Nat.reduceShiftRight, Nat.reduceAnd, Nat.reduceBneDiff, Nat.reduceBNe, q8, semI.eq_10, semI.eq_11, semI.eq_3, semI.eq_5, semI.eq_7]
          obtain ⟨t11, e11, h⟩ := Option.bind_eq_some_iff.1 h
          refine call_funOT [] rfl rfl (by simp only [wz, wd, ws, Nat.reduceAdd, Nat.reduceSub, Nat.reduceMul, Nat.reduceLeDiff, Nat.reduceEqDiff, Nat.reduceLT, Nat.reduceBEq, reduceIte, reduceCtorEq, Int.reduceToNat, Nat.reduceShiftRight, Nat.reduceAnd, Nat.reduceBneDiff, Nat.reduceBNe]) rfl ?_ (f_ref02_Begins_ok _ e11) rfl (.inl rfl) ?_
          · simp only [wz, wd, ws, Nat.reduceAdd, Nat.reduceSub, Nat.reduceMul, Nat.reduceLeDiff, Nat.reduceEqDiff, Nat.reduceLT, Nat.reduceBEq, reduceIte, reduceCtorEq, Int.reduceToNat, Nat.reduceShiftRight, Nat.reduceAnd, Nat.reduceBneDiff, Nat.reduceBNe]
          simp only [wz, wd, ws, Nat.reduceAdd, Nat.reduceSub, Nat.reduceMul, Nat.reduceLeDiff, Nat.reduceEqDiff, Nat.reduceLT, Nat.reduceBEq, reduceIte, reduceCtorEq, Int.reduceToNat, Nat.reduceShiftRight, Nat.reduceAnd, Nat.reduceBneDiff, Nat.reduceBNe, q8, semI.eq_10, semI.eq_11, semI.eq_3, semI.eq_5, semI.eq_7]
          obtain ⟨t12, e12, h⟩ := Option.bind_eq_some_iff.1 h
          refine call_funT [27, 28] false rfl rfl (by simp only [wz, wd, ws, Nat.reduceAdd, Nat.reduceSub, Nat.reduceMul, Nat.reduceLeDiff, Nat.reduceEqDiff, Nat.reduceLT, Nat.reduceBEq, reduceIte, reduceCtorEq, Int.reduceToNat, Nat.reduceShiftRight, Nat.reduceAnd, Nat.reduceBneDiff, Nat.reduceBNe]) rfl ?_ (f_ref02_Same_ok _ _ _ e12) (fun _ => rfl) (fun i hi e he => coF_get (l := [27, 28]) (by simp only [wz, wd, ws, Nat.reduceAdd, Nat.reduceSub, Nat.reduceMul, Nat.reduceLeDiff, Nat.reduceEqDiff, Nat.reduceLT, Nat.reduceBEq, reduceIte, reduceCtorEq, Int.reduceToNat, Nat.reduceShiftRight, Nat.reduceAnd, Nat.reduceBneDiff, Nat.reduceBNe, wi]) i e hi he) ?_
          · simp only [wz, wd, ws, Nat.reduceAdd, Nat.reduceSub, Nat.reduceMul, Nat.reduceLeDiff, Nat.reduceEqDiff, Nat.reduceLT, Nat.reduceBEq, reduceIte, reduceCtorEq, Int.reduceToNat, Nat.reduceShiftRight, Nat.reduceAnd, Nat.reduceBneDiff, Nat.reduceBNe]
          simp only [wz, wd, ws, Nat.reduceAdd, Nat.reduceSub, Nat.reduceMul, Nat.reduceLeDiff, Nat.reduceEqDiff, Nat.reduceLT, Nat.reduceBEq, reduceIte, reduceCtorEq, Int.reduceToNat, Nat.reduceShiftRight, Nat.reduceAnd, Nat.reduceBneDiff, Nat.reduceBNe, q8, semI.eq_10, semI.eq_11, semI.eq_3, semI.eq_5, semI.eq_7]
          repeat (refine And.intro ?_ ?_; · first | omega | (intro q; simp only [wz, wd, ws, Nat.reduceAdd, Nat.reduceSub, Nat.reduceMul, Nat.reduceLeDiff, Nat.reduceEqDiff, Nat.reduceLT, Nat.reduceBEq, reduceIte, reduceCtorEq, Int.reduceToNat, Nat.reduceShiftRight, Nat.reduceAnd, Nat.reduceBneDiff, Nat.reduceBNe, q]; done))
          obtain rfl := Option.some.inj h
          refine .ret ?_
          rw [← hR]
          simp only [wz, wd, ws, Nat.reduceAdd, Nat.reduceSub, Nat.reduceMul, Nat.reduceLeDiff, Nat.reduceEqDiff, Nat.reduceLT, Nat.reduceBEq, reduceIte, reduceCtorEq, Int.reduceToNat, Nat.reduceShiftRight, Nat.reduceAnd, Nat.reduceBneDiff, Nat.reduceBNe, rv3]
-- 69 internal/stringslite.HasPrefix
def c69r0 : List Opn := [
  ⟨(some 4), none, .mv (.c (.s (.d (.bool false))))⟩]
def c69r1 : List Opn := [
  ⟨(some 5), none, .mv (.t 0)⟩, 
  ⟨(some 6), none, .len .str (.t 5)⟩, 
  ⟨(some 7), none, .mv (.t 1)⟩, 
  ⟨(some 8), none, .len .str (.t 7)⟩, 
  ⟨(some 9), none, .bin .geq (.t 6) (.t 8)⟩, 
  ⟨(some 10), none, .mv (.t 9)⟩, 
  ⟨(some 11), some (10, true), .mv (.t 0)⟩, 
  ⟨(some 12), some (10, true), .mv (.t 1)⟩, 
  ⟨(some 13), some (10, true), .len .str (.t 12)⟩, 
  ⟨(some 14), some (10, true), .slc .str (.t 11) none (some (.t 13)) none⟩, 
  ⟨(some 15), some (10, true), .mv (.t 1)⟩, 
  ⟨(some 16), some (10, true), .bin .eql (.t 14) (.t 15)⟩, 
  ⟨(some 17), none, .pick (.t 10) (.t 16) (.c (.s (.d (.bool false))))⟩, 
  ⟨(some 4), none, .mv (.t 17)⟩]
def c69 : C := .seq (.reg c69r0 none [0, 1]) (.seq (.reg c69r1 none [4]) (.ret))
def k69 : List (Nat × List Nat) := [(1, [4]), (0, [0, 1])]
theorem cc69 : (Tryd.f69.body).bind (cC Tryd.prog 18 k69) = some c69 := by kernel_rfl
def rv69 : List RV := [.t 4]
theorem cr69 : cRVs Tryd.prog Tryd.f69.results.toList = some rv69 := by kernel_rfl
theorem f_internal_stringslite_HasPrefix_ok (s : Str) (prefixv : Str) (y_ : Bool) (h : f_internal_stringslite_HasPrefix s prefixv = some y_) : Fun Tryd.prog glP 69 [.b (.s (.d (.str s))), .b (.s (.d (.str prefixv)))] (.b (.s (.d (.bool y_)))) := by
  refine fun_walk [] Tryd.func69 Tryd.ntmps69 cc69 cr69 (by kernel_rfl) (by simp only [List.length_cons, List.length_nil]; decide) ?_
  generalize hR : Ret _ _ _ _ _ = R_
  simp only [wz, wd, ws, Nat.reduceAdd, Nat.reduceSub, Nat.reduceMul, Nat.reduceLeDiff, Nat.reduceEqDiff, Nat.reduceLT, Nat.reduceBEq, reduceIte, reduceCtorEq, Int.reduceToNat, Nat.reduceShiftRight, Nat.reduceAnd, Nat.reduceBneDiff, Nat.reduceBNe]
  unfold f_internal_stringslite_HasPrefix at h; unfold c69
  refine .seq ?_
  refine Rw.walk ?_
  simp only [wz, wd, ws, Nat.reduceAdd, Nat.reduceSub, Nat.reduceMul, Nat.reduceLeDiff, Nat.reduceEqDiff, Nat.reduceLT, Nat.reduceBEq, reduceIte, reduceCtorEq, Int.reduceToNat, Nat.reduceShiftRight, Nat.reduceAnd, Nat.reduceBneDiff, Nat.reduceBNe, c69r0, semI.eq_10, semI.eq_11, semI.eq_3, semI.eq_5, semI.eq_7]
  refine .seq ?_
  refine Rw.walk ?_
  obtain ⟨g1, h⟩ := gd_iff.1 h
  simp only [wz, wd, ws, Nat.reduceAdd, Nat.reduceSub, Nat.reduceMul, Nat.reduceLeDiff, Nat.reduceEqDiff, Nat.reduceLT, Nat.reduceBEq, reduceIte, reduceCtorEq, Int.reduceToNat, Nat.reduceShiftRight, Nat.reduceAnd, Nat.reduceBneDiff, Nat.reduceBNe, c69r1, semI.eq_10, semI.eq_11, semI.eq_3, semI.eq_5, semI.eq_7]
  repeat (refine And.intro ?_ ?_; · first | omega | exact g1 | (intro q; first | omega | (have q2 := g1 (by simpa using q); omega) | (have q2 := g1 q; omega)) | (intro q; simp only [wz, wd, ws, Nat.reduceAdd, Nat.reduceSub, Nat.reduceMul, Nat.reduceLeDiff, Nat.reduceEqDiff, Nat.reduceLT, Nat.reduceBEq, reduceIte, reduceCtorEq, Int.reduceToNat, Nat.reduceShiftRight, Nat.reduceAnd, Nat.reduceBneDiff, Nat.reduceBNe, q]; done))
  obtain rfl := Option.some.inj h
  refine .ret ?_
  rw [← hR]
  simp only [wz, wd, ws, Nat.reduceAdd, Nat.reduceSub, Nat.reduceMul, Nat.reduceLeDiff, Nat.reduceEqDiff, Nat.reduceLT, Nat.reduceBEq, reduceIte, reduceCtorEq, Int.reduceToNat, Nat.reduceShiftRight, Nat.reduceAnd, Nat.reduceBneDiff, Nat.reduceBNe, rv69]
-- 60 internal/stringslite.CutPrefix
def c60r0 : List Opn := [
  ⟨(some 4), none, .mv (.c (.s (.d (.str []))))⟩, 
  ⟨(some 5), none, .mv (.c (.s (.d (.bool false))))⟩]
def c60r1 : List Opn := [
  ⟨(some 6), none, .mv (.t 0)⟩, 
  ⟨(some 7), none, .mv (.t 1)⟩, 
  ⟨(some 8), none, .call (.fn 69) [(.t 6), (.t 7)]⟩, 
  ⟨(some 9), none, .un .not (.t 8)⟩]
def c60r2 : List Opn := [
  ⟨(some 10), none, .mv (.t 0)⟩, 
  ⟨(some 4), none, .mv (.t 10)⟩, 
  ⟨(some 5), none, .mv (.c (.s (.d (.bool false))))⟩]
def c60r3 : List Opn := [
  ⟨(some 11), none, .mv (.t 0)⟩, 
  ⟨(some 12), none, .mv (.t 1)⟩, 
  ⟨(some 13), none, .len .str (.t 12)⟩, 
  ⟨(some 14), none, .slc .str (.t 11) (some (.t 13)) none none⟩, 
  ⟨(some 4), none, .mv (.t 14)⟩, 
  ⟨(some 5), none, .mv (.c (.s (.d (.bool true))))⟩]
def c60 : C := .seq (.reg c60r0 none [0, 1]) (.seq (.seq (.reg c60r1 none [0, 1, 9]) (.cond (.t 9) (.seq (.reg c60r2 none [4, 5]) (.ret)) (.skip))) (.seq (.reg c60r3 none [4, 5]) (.ret)))
def k60 : List (Nat × List Nat) := [(3, [4, 5]), (2, [4, 5]), (1, [0, 1, 9]), (0, [0, 1])]
theorem cc60 : (Tryd.f60.body).bind (cC Tryd.prog 15 k60) = some c60 := by kernel_rfl
def rv60 : List RV := [.t 4, .t 5]
theorem cr60 : cRVs Tryd.prog Tryd.f60.results.toList = some rv60 := by kernel_rfl
theorem f_internal_stringslite_CutPrefix_ok (s : Str) (prefixv : Str) (y_ : Str × Bool) (h : f_internal_stringslite_CutPrefix s prefixv = some y_) : Fun Tryd.prog glP 60 [.b (.s (.d (.str s))), .b (.s (.d (.str prefixv)))] (.tup [.s (.d (.str y_.1)), .s (.d (.bool y_.2))]) := by
  refine fun_walk [] Tryd.func60 Tryd.ntmps60 cc60 cr60 (by kernel_rfl) (by simp only [List.length_cons, List.length_nil]; decide) ?_
  generalize hR : Ret _ _ _ _ _ = R_
  simp only [wz, wd, ws, Nat.reduceAdd, Nat.reduceSub, Nat.reduceMul, Nat.reduceLeDiff, Nat.reduceEqDiff, Nat.reduceLT, Nat.reduceBEq, reduceIte, reduceCtorEq, Int.reduceToNat, Nat.reduceShiftRight, Nat.reduceAnd, Nat.reduceBneDiff, Nat.reduceBNe]
  unfold f_internal_stringslite_CutPrefix at h; unfold c60
  refine .seq ?_
  refine Rw.walk ?_
  simp only [wz, wd, ws, Nat.reduceAdd, Nat.reduceSub, Nat.reduceMul, Nat.reduceLeDiff, Nat.reduceEqDiff, Nat.reduceLT, Nat.reduceBEq, reduceIte, reduceCtorEq, Int.reduceToNat, Nat.reduceShiftRight, Nat.reduceAnd, Nat.reduceBneDiff, Nat.reduceBNe, c60r0, semI.eq_10, semI.eq_11, semI.eq_3, semI.eq_5, semI.eq_7]
  refine .seq ?_
  refine .seq ?_
  refine Rw.walk ?_
  simp only [wz, wd, ws, Nat.reduceAdd, Nat.reduceSub, Nat.reduceMul, Nat.reduceLeDiff, Nat.reduceEqDiff, Nat.reduceLT, Nat.reduceBEq, reduceIte, reduceCtorEq, Int.reduceToNat, Nat.reduceShiftRight, Nat.reduceAnd, Nat.reduceBneDiff, Nat.reduceBNe, c60r1, semI.eq_10, semI.eq_11, semI.eq_3, semI.eq_5, semI.eq_7]
  obtain ⟨t, e1, h⟩ := Option.bind_eq_some_iff.1 h
  refine call_fun [] false ⟨trivial, trivial, trivial, trivial⟩ rfl ?_ (f_internal_stringslite_HasPrefix_ok _ _ _ e1) (fun _ => rfl) (fun i hi => by cases hi) ?_
  · simp only [wz, wd, ws, Nat.reduceAdd, Nat.reduceSub, Nat.reduceMul, Nat.reduceLeDiff, Nat.reduceEqDiff, Nat.reduceLT, Nat.reduceBEq, reduceIte, reduceCtorEq, Int.reduceToNat, Nat.reduceShiftRight, Nat.reduceAnd, Nat.reduceBneDiff, Nat.reduceBNe]
  simp only [wz, wd, ws, Nat.reduceAdd, Nat.reduceSub, Nat.reduceMul, Nat.reduceLeDiff, Nat.reduceEqDiff, Nat.reduceLT, Nat.reduceBEq, reduceIte, reduceCtorEq, Int.reduceToNat, Nat.reduceShiftRight, Nat.reduceAnd, Nat.reduceBneDiff, Nat.reduceBNe, c60r1, semI.eq_10, semI.eq_11, semI.eq_3, semI.eq_5, semI.eq_7]
  refine .cond (p := (!t)) (by first | rfl | simp only [wz, wd, ws, Nat.reduceAdd, Nat.reduceSub, Nat.reduceMul, Nat.reduceLeDiff, Nat.reduceEqDiff, Nat.reduceLT, Nat.reduceBEq, reduceIte, reduceCtorEq, Int.reduceToNat, Nat.reduceShiftRight, Nat.reduceAnd, Nat.reduceBneDiff, Nat.reduceBNe]) (fun h1 => ?_) (fun h1 => ?_)
  · rw [ite_t h1] at h
    refine .seq ?_
    refine Rw.walk ?_
    simp only [wz, wd, ws, Nat.reduceAdd, Nat.reduceSub, Nat.reduceMul, Nat.reduceLeDiff, Nat.reduceEqDiff, Nat.reduceLT, Nat.reduceBEq, reduceIte, reduceCtorEq, Int.reduceToNat, Nat.reduceShiftRight, Nat.reduceAnd, Nat.reduceBneDiff, Nat.reduceBNe, c60r2, semI.eq_10, semI.eq_11, semI.eq_3, semI.eq_5, semI.eq_7]
    obtain rfl := Option.some.inj h
    refine .ret ?_
    rw [← hR]
    simp only [wz, wd, ws, Nat.reduceAdd, Nat.reduceSub, Nat.reduceMul, Nat.reduceLeDiff, Nat.reduceEqDiff, Nat.reduceLT, Nat.reduceBEq, reduceIte, reduceCtorEq, Int.reduceToNat, Nat.reduceShiftRight, Nat.reduceAnd, Nat.reduceBneDiff, Nat.reduceBNe, rv60]
  · rw [ite_f h1] at h
    refine .skip ?_
    refine .seq ?_
    refine Rw.walk ?_
    obtain ⟨g2, h⟩ := gd_iff.1 h
    simp only [wz, wd, ws, Nat.reduceAdd, Nat.reduceSub, Nat.reduceMul, Nat.reduceLeDiff, Nat.reduceEqDiff, Nat.reduceLT, Nat.reduceBEq, reduceIte, reduceCtorEq, Int.reduceToNat, Nat.reduceShiftRight, Nat.reduceAnd, Nat.reduceBneDiff, Nat.reduceBNe, c60r3, semI.eq_10, semI.eq_11, semI.eq_3, semI.eq_5, semI.eq_7]
    repeat (refine And.intro ?_ ?_; · first | omega | (intro q; simp only [wz, wd, ws, Nat.reduceAdd, Nat.reduceSub, Nat.reduceMul, Nat.reduceLeDiff, Nat.reduceEqDiff, Nat.reduceLT, Nat.reduceBEq, reduceIte, reduceCtorEq, Int.reduceToNat, Nat.reduceShiftRight, Nat.reduceAnd, Nat.reduceBneDiff, Nat.reduceBNe, q]; done))
    obtain rfl := Option.some.inj h
    refine .ret ?_
    rw [← hR]
    simp only [wz, wd, ws, Nat.reduceAdd, Nat.reduceSub, Nat.reduceMul, Nat.reduceLeDiff, Nat.reduceEqDiff, Nat.reduceLT, Nat.reduceBEq, reduceIte, reduceCtorEq, Int.reduceToNat, Nat.reduceShiftRight, Nat.reduceAnd, Nat.reduceBneDiff, Nat.reduceBNe, rv60]
-- 43 strings.CutPrefix
def c43r0 : List Opn := [
  ⟨(some 4), none, .mv (.c (.s (.d (.str []))))⟩, 
  ⟨(some 5), none, .mv (.c (.s (.d (.bool false))))⟩]
def c43r1 : List Opn := [
  ⟨(some 6), none, .mv (.t 0)⟩, 
  ⟨(some 7), none, .mv (.t 1)⟩, 
  ⟨(some 8), none, .call (.fn 60) [(.t 6), (.t 7)]⟩, 
  ⟨(some 9), none, .ext (.t 8) 0⟩, 
  ⟨(some 10), none, .ext (.t 8) 1⟩, 
  ⟨(some 4), none, .mv (.t 9)⟩, 
  ⟨(some 5), none, .mv (.t 10)⟩]
def c43 : C := .seq (.reg c43r0 none [0, 1]) (.seq (.reg c43r1 none [4, 5]) (.ret))
def k43 : List (Nat × List Nat) := [(1, [4, 5]), (0, [0, 1])]
theorem cc43 : (Tryd.f43.body).bind (cC Tryd.prog 11 k43) = some c43 := by kernel_rfl
def rv43 : List RV := [.t 4, .t 5]
theorem cr43 : cRVs Tryd.prog Tryd.f43.results.toList = some rv43 := by kernel_rfl
theorem f_strings_CutPrefix_ok (s : Str) (prefixv : Str) (y_ : Str × Bool) (h : f_strings_CutPrefix s prefixv = some y_) : Fun Tryd.prog glP 43 [.b (.s (.d (.str s))), .b (.s (.d (.str prefixv)))] (.tup [.s (.d (.str y_.1)), .s (.d (.bool y_.2))]) := by
  refine fun_walk [] Tryd.func43 Tryd.ntmps43 cc43 cr43 (by kernel_rfl) (by simp only [List.length_cons, List.length_nil]; decide) ?_
  generalize hR : Ret _ _ _ _ _ = R_
  simp only [wz, wd, ws, Nat.reduceAdd, Nat.reduceSub, Nat.reduceMul, Nat.reduceLeDiff, Nat.reduceEqDiff, Nat.reduceLT, Nat.reduceBEq, reduceIte, reduceCtorEq, Int.reduceToNat, Nat.reduceShiftRight, Nat.reduceAnd, Nat.reduceBneDiff, Nat.reduceBNe]
  unfold f_strings_CutPrefix at h; unfold c43
  refine .seq ?_
  refine Rw.walk ?_
  simp only [wz, wd, ws, Nat.reduceAdd, Nat.reduceSub, Nat.reduceMul, Nat.reduceLeDiff, Nat.reduceEqDiff, Nat.reduceLT, Nat.reduceBEq, reduceIte, reduceCtorEq, Int.reduceToNat, Nat.reduceShiftRight, Nat.reduceAnd, Nat.reduceBneDiff, Nat.reduceBNe, c43r0, semI.eq_10, semI.eq_11, semI.eq_3, semI.eq_5, semI.eq_7]
  refine .seq ?_
  refine Rw.walk ?_
  simp only [wz, wd, ws, Nat.reduceAdd, Nat.reduceSub, Nat.reduceMul, Nat.reduceLeDiff, Nat.reduceEqDiff, Nat.reduceLT, Nat.reduceBEq, reduceIte, reduceCtorEq, Int.reduceToNat, Nat.reduceShiftRight, Nat.reduceAnd, Nat.reduceBneDiff, Nat.reduceBNe, c43r1, semI.eq_10, semI.eq_11, semI.eq_3, semI.eq_5, semI.eq_7]
  obtain ⟨t, e1, h⟩ := Option.bind_eq_some_iff.1 h
  refine call_fun [] false ⟨trivial, trivial, trivial, trivial⟩ rfl ?_ (f_internal_stringslite_CutPrefix_ok _ _ _ e1) (fun _ => rfl) (fun i hi => by cases hi) ?_
  · simp only [wz, wd, ws, Nat.reduceAdd, Nat.reduceSub, Nat.reduceMul, Nat.reduceLeDiff, Nat.reduceEqDiff, Nat.reduceLT, Nat.reduceBEq, reduceIte, reduceCtorEq, Int.reduceToNat, Nat.reduceShiftRight, Nat.reduceAnd, Nat.reduceBneDiff, Nat.reduceBNe]
  simp only [wz, wd, ws, Nat.reduceAdd, Nat.reduceSub, Nat.reduceMul, Nat.reduceLeDiff, Nat.reduceEqDiff, Nat.reduceLT, Nat.reduceBEq, reduceIte, reduceCtorEq, Int.reduceToNat, Nat.reduceShiftRight, Nat.reduceAnd, Nat.reduceBneDiff, Nat.reduceBNe, c43r1, semI.eq_10, semI.eq_11, semI.eq_3, semI.eq_5, semI.eq_7]
  obtain rfl := Option.some.inj h
  refine .ret ?_
  rw [← hR]
  simp only [wz, wd, ws, Nat.reduceAdd, Nat.reduceSub, Nat.reduceMul, Nat.reduceLeDiff, Nat.reduceEqDiff, Nat.reduceLT, Nat.reduceBEq, reduceIte, reduceCtorEq, Int.reduceToNat, Nat.reduceShiftRight, Nat.reduceAnd, Nat.reduceBneDiff, Nat.reduceBNe, rv43]
-- 52 strings.IndexByte
def c52r0 : List Opn := [
  ⟨(some 4), none, .mv (.c (.s (.d (.int .i64 0))))⟩]
def c52r1 : List Opn := [
  ⟨(some 5), none, .mv (.t 0)⟩, 
  ⟨(some 6), none, .mv (.t 1)⟩, 
  ⟨(some 7), none, .call (.fn 67) [(.t 5), (.t 6)]⟩, 
  ⟨(some 4), none, .mv (.t 7)⟩]
def c52 : C := .seq (.reg c52r0 none [0, 1]) (.seq (.reg c52r1 none [4]) (.ret))
def k52 : List (Nat × List Nat) := [(1, [4]), (0, [0, 1])]
theorem cc52 : (Tryd.f52.body).bind (cC Tryd.prog 8 k52) = some c52 := by kernel_rfl
def rv52 : List RV := [.t 4]
theorem cr52 : cRVs Tryd.prog Tryd.f52.results.toList = some rv52 := by kernel_rfl
theorem f_strings_IndexByte_ok (s : Str) (c : Int) (y_ : Int) (h : f_strings_IndexByte s c = some y_) : Fun Tryd.prog glP 52 [.b (.s (.d (.str s))), .b (.s (.d (.int .u8 c)))] (.b (.s (.d (.int .i64 y_)))) := by
  refine fun_walk [] Tryd.func52 Tryd.ntmps52 cc52 cr52 (by kernel_rfl) (by simp only [List.length_cons, List.length_nil]; decide) ?_
  generalize hR : Ret _ _ _ _ _ = R_
  simp only [wz, wd, ws, Nat.reduceAdd, Nat.reduceSub, Nat.reduceMul, Nat.reduceLeDiff, Nat.reduceEqDiff, Nat.reduceLT, Nat.reduceBEq, reduceIte, reduceCtorEq, Int.reduceToNat, Nat.reduceShiftRight, Nat.reduceAnd, Nat.reduceBneDiff, Nat.reduceBNe]
  unfold f_strings_IndexByte at h; unfold c52
  refine .seq ?_
  refine Rw.walk ?_
  simp only [wz, wd, ws, Nat.reduceAdd, Nat.reduceSub, Nat.reduceMul, Nat.reduceLeDiff, Nat.reduceEqDiff, Nat.reduceLT, Nat.reduceBEq, reduceIte, reduceCtorEq, Int.reduceToNat, Nat.reduceShiftRight, Nat.reduceAnd, Nat.reduceBneDiff, Nat.reduceBNe, c52r0, semI.eq_10, semI.eq_11, semI.eq_3, semI.eq_5, semI.eq_7]
  refine .seq ?_
  refine Rw.walk ?_
  simp only [wz, wd, ws, Nat.reduceAdd, Nat.reduceSub, Nat.reduceMul, Nat.reduceLeDiff, Nat.reduceEqDiff, Nat.reduceLT, Nat.reduceBEq, reduceIte, reduceCtorEq, Int.reduceToNat, Nat.reduceShiftRight, Nat.reduceAnd, Nat.reduceBneDiff, Nat.reduceBNe, c52r1, semI.eq_10, semI.eq_11, semI.eq_3, semI.eq_5, semI.eq_7]
  obtain ⟨t, e1, h⟩ := Option.bind_eq_some_iff.1 h
  refine call_fun [] false ⟨trivial, trivial, trivial, trivial⟩ rfl ?_ (f_internal_stringslite_IndexByte_ok _ _ _ e1) (fun _ => rfl) (fun i hi => by cases hi) ?_
  · simp only [wz, wd, ws, Nat.reduceAdd, Nat.reduceSub, Nat.reduceMul, Nat.reduceLeDiff, Nat.reduceEqDiff, Nat.reduceLT, Nat.reduceBEq, reduceIte, reduceCtorEq, Int.reduceToNat, Nat.reduceShiftRight, Nat.reduceAnd, Nat.reduceBneDiff, Nat.reduceBNe]
  simp only [wz, wd, ws, Nat.reduceAdd, Nat.reduceSub, Nat.reduceMul, Nat.reduceLeDiff, Nat.reduceEqDiff, Nat.reduceLT, Nat.reduceBEq, reduceIte, reduceCtorEq, Int.reduceToNat, Nat.reduceShiftRight, Nat.reduceAnd, Nat.reduceBneDiff, Nat.reduceBNe, c52r1, semI.eq_10, semI.eq_11, semI.eq_3, semI.eq_5, semI.eq_7]
  obtain rfl := Option.some.inj h
  refine .ret ?_
  rw [← hR]
  simp only [wz, wd, ws, Nat.reduceAdd, Nat.reduceSub, Nat.reduceMul, Nat.reduceLeDiff, Nat.reduceEqDiff, Nat.reduceLT, Nat.reduceBEq, reduceIte, reduceCtorEq, Int.reduceToNat, Nat.reduceShiftRight, Nat.reduceAnd, Nat.reduceBneDiff, Nat.reduceBNe, rv52]
-- 33 consignor/octet.Bytes
def c33r0 : List Opn := [
  ⟨(some 2), none, .mv (.c (.s (.d (.str []))))⟩, 
  ⟨(some 3), none, .mv (.c (.s (.d (.int .i64 0))))⟩]
def c33r1 : List Opn := [
  ⟨(some 8), none, .mv (.t 0)⟩, 
  ⟨(some 9), none, .len .str (.t 8)⟩, 
  ⟨(some 10), none, .bin .rem (.t 9) (.c (.s (.d (.int .i64 2))))⟩, 
  ⟨(some 11), none, .bin .neq (.t 10) (.c (.s (.d (.int .i64 0))))⟩]
def c33r2 : List Opn := [
  ⟨(some 2), none, .mv (.c (.s (.d (.str []))))⟩, 
  ⟨(some 3), none, .mv (.c (.s (.d (.int .i64 4))))⟩]
def c33r3 : List Opn := [
  ⟨(some 12), none, .mv (.t 0)⟩, 
  ⟨(some 13), none, .len .str (.t 12)⟩, 
  ⟨(some 14), none, .bin .quo (.t 13) (.c (.s (.d (.int .i64 2))))⟩, 
  ⟨(some 15), none, .mksl 1 1 [(.d (.int .u8 0))] (.t 14) (.t 14)⟩, 
  ⟨(some 4), none, .mv (.t 15)⟩]
def c33r4 : List Opn := [
  ⟨(some 16), none, .mv (.t 4)⟩, 
  ⟨(some 17), none, .len (.sl 0) (.t 16)⟩, 
  ⟨(some 18), none, .mv (.c (.s (.d (.int .i64 0))))⟩]
def c33r5 : List Opn := [
  ⟨(some 19), none, .bin .lss (.t 18) (.t 17)⟩]
def c33r6 : List Opn := [
  ⟨(some 20), none, .mv (.t 18)⟩, 
  ⟨(some 5), none, .mv (.t 20)⟩]
def c33r7 : List Opn := [
  ⟨(some 21), none, .mv (.t 0)⟩, 
  ⟨(some 22), none, .mv (.t 5)⟩, 
  ⟨(some 23), none, .bin .mul (.c (.s (.d (.int .i64 2)))) (.t 22)⟩, 
  ⟨(some 24), none, .idx .str (.t 21) (.t 23)⟩, 
  ⟨(some 25), none, .call (.fn 52) [(.c (.s (.d (.str [48, 49, 50, 51, 52, 53, 54, 55, 56, 57, 97, 98, 99, 100, 101, 102])))), (.t 24)]⟩, 
  ⟨(some 26), none, .mv (.t 0)⟩, 
  ⟨(some 27), none, .mv (.t 5)⟩, 
  ⟨(some 28), none, .bin .mul (.c (.s (.d (.int .i64 2)))) (.t 27)⟩, 
  ⟨(some 29), none, .bin .add (.t 28) (.c (.s (.d (.int .i64 1))))⟩, 
  ⟨(some 30), none, .idx .str (.t 26) (.t 29)⟩, 
  ⟨(some 31), none, .call (.fn 52) [(.c (.s (.d (.str [48, 49, 50, 51, 52, 53, 54, 55, 56, 57, 97, 98, 99, 100, 101, 102])))), (.t 30)]⟩, 
  ⟨(some 6), none, .mv (.t 25)⟩, 
  ⟨(some 7), none, .mv (.t 31)⟩]
def c33r8 : List Opn := [
  ⟨(some 32), none, .mv (.t 6)⟩, 
  ⟨(some 33), none, .bin .lss (.t 32) (.c (.s (.d (.int .i64 0))))⟩, 
  ⟨(some 34), none, .mv (.t 33)⟩, 
  ⟨(some 35), some (34, false), .mv (.t 7)⟩, 
  ⟨(some 36), some (34, false), .bin .lss (.t 35) (.c (.s (.d (.int .i64 0))))⟩, 
  ⟨(some 37), none, .pick (.t 34) (.c (.s (.d (.bool true)))) (.t 36)⟩]
def c33r9 : List Opn := [
  ⟨(some 2), none, .mv (.c (.s (.d (.str []))))⟩, 
  ⟨(some 3), none, .mv (.c (.s (.d (.int .i64 4))))⟩]
def c33r10 : List Opn := [
  ⟨(some 38), none, .mv (.t 4)⟩, 
  ⟨(some 39), none, .mv (.t 5)⟩, 
  ⟨(some 40), none, .mv (.t 6)⟩, 
  ⟨(some 41), none, .bin .mul (.t 40) (.c (.s (.d (.int .i64 16))))⟩, 
  ⟨(some 42), none, .mv (.t 7)⟩, 
  ⟨(some 43), none, .bin .add (.t 41) (.t 42)⟩, 
  ⟨(some 44), none, .cv (.toInt .u8) (.t 43)⟩, 
  ⟨(some 45), none, .iadr (.sl 1) (.t 38) (.t 39)⟩, 
  ⟨none, none, .store 1 (.t 45) (.t 44)⟩]
def c33r11 : List Opn := [
  ⟨(some 46), none, .bin .add (.t 18) (.c (.s (.d (.int .i64 1))))⟩, 
  ⟨(some 18), none, .mv (.t 46)⟩]
def c33l12 : C := .seq (.reg c33r5 none [0, 4, 17, 18, 19]) (.seq (.cond (.t 19) (.skip) (.exit 0)) (.seq (.blk 1 (.seq (.reg c33r6 none [0, 4, 5, 17, 18]) (.seq (.reg c33r7 (some [0, 0, 2, 7, 15, 0, 0, 64, 192, 480, 1023, 2047, 4095]) [0, 4, 5, 6, 7, 17, 18]) (.seq (.seq (.reg c33r8 none [0, 4, 5, 6, 7, 17, 18, 37]) (.cond (.t 37) (.seq (.reg c33r9 none [2, 3]) (.ret)) (.skip))) (.reg c33r10 none [0, 4, 17, 18]))))) (.reg c33r11 none [0, 4, 17, 18])))
def c33r12 : List Opn := [
  ⟨(some 47), none, .mv (.t 4)⟩, 
  ⟨(some 48), none, .cv .b2s (.t 47)⟩, 
  ⟨(some 2), none, .mv (.t 48)⟩, 
  ⟨(some 3), none, .mv (.c (.s (.d (.int .i64 0))))⟩]
def c33 : C := .seq (.reg c33r0 none [0]) (.seq (.seq (.reg c33r1 none [0, 11]) (.cond (.t 11) (.seq (.reg c33r2 none [2, 3]) (.ret)) (.skip))) (.seq (.reg c33r3 none [0, 4]) (.seq (.seq (.reg c33r4 none [0, 4, 17, 18]) (.blk 0 (.loop c33l12))) (.seq (.reg c33r12 none [2, 3]) (.ret)))))
def k33 : List (Nat × List Nat) := [(12, [2, 3]), (11, [0, 4, 17, 18]), (10, [0, 4, 17, 18]), (9, [2, 3]), (8, [0, 4, 5, 6, 7, 17, 18, 37]), (7, [0, 4, 5, 6, 7, 17, 18]), (6, [0, 4, 5, 17, 18]), (5, [0, 4, 17, 18, 19]), (4, [0, 4, 17, 18]), (3, [0, 4]), (2, [2, 3]), (1, [0, 11]), (0, [0])]
theorem cc33 : (Tryd.f33.body).bind (cC Tryd.prog 49 k33) = some c33 := by kernel_rfl
def rv33 : List RV := [.t 2, .t 3]
theorem cr33 : cRVs Tryd.prog Tryd.f33.results.toList = some rv33 := by kernel_rfl
theorem f_octet_Bytes_l12_ok (s : Str) (y_ : Str × Int) (R_ : St → Prop) (hR : (Ret Tryd.prog glP [] rv33 (.tup [.s (.d (.str y_.1)), .s (.d (.int .i64 y_.2))])) = R_) : ∀ (m_ : Nat) (v18 : Int) (out : (List Int)) (res_ : (Int × (List Int)) ⊕ (Str × Int)) (h : f_octet_Bytes_l12 s m_ v18 out = some res_) (k_ : List It) (hx : ∀ s_ : Int × (List Int), res_ = .inl s_ → W Tryd.prog glP 49 k_ ⟨lkT [(0, .b (.s (.d (.str s)))), (4, .b (.s (.own 15 s_.2.length))), (17, .b (.s (.d (.int .i64 ((List.replicate (IntKind.i64.wrap ((s.length : Int).tdiv 2)).toNat 0).length : Int))))), (18, .b (.s (.d (.int .i64 s_.1))))], lkG [(15, ⟨1, er (eI .u8) s_.2, false⟩)]⟩ R_) (hr : ∀ z_ : Str × Int, res_ = .inr z_ → z_ = y_), W Tryd.prog glP 49 (.c c33l12 :: .lp c33l12 :: .blk 0 :: k_) ⟨lkT [(0, .b (.s (.d (.str s)))), (4, .b (.s (.own 15 out.length))), (17, .b (.s (.d (.int .i64 ((List.replicate (IntKind.i64.wrap ((s.length : Int).tdiv 2)).toNat 0).length : Int))))), (18, .b (.s (.d (.int .i64 v18))))], lkG [(15, ⟨1, er (eI .u8) out, false⟩)]⟩ R_ := by
  intro m_; induction m_ with
  | zero => intro v18 out res_ h; rw [f_octet_Bytes_l12.eq_1] at h; cases h
  | succ m_ ih =>
    intro v18 out res_ h k_ hx hr; rw [f_octet_Bytes_l12.eq_2] at h; refine W.cdef c33l12.eq_1 ?_
    refine .seq ?_
    refine Rw.walk ?_
    simp only [wz, wd, ws, Nat.reduceAdd, Nat.reduceSub, Nat.reduceMul, Nat.reduceLeDiff, Nat.reduceEqDiff, Nat.reduceLT, Nat.reduceBEq, reduceIte, reduceCtorEq, Int.reduceToNat, Nat.reduceShiftRight, Nat.reduceAnd, Nat.reduceBneDiff, Nat.reduceBNe, c33r5, semI.eq_10, semI.eq_11, semI.eq_3, semI.eq_5, semI.eq_7]
    refine .seq ?_
    refine .cond (p := (decide (v18 < ((List.replicate (IntKind.i64.wrap ((s.length : Int).tdiv 2)).toNat 0).length : Int)))) (by first | rfl | simp only [wz, wd, ws, Nat.reduceAdd, Nat.reduceSub, Nat.reduceMul, Nat.reduceLeDiff, Nat.reduceEqDiff, Nat.reduceLT, Nat.reduceBEq, reduceIte, reduceCtorEq, Int.reduceToNat, Nat.reduceShiftRight, Nat.reduceAnd, Nat.reduceBneDiff, Nat.reduceBNe]) (fun h1 => ?_) (fun h1 => ?_)
    · rw [ite_t h1] at h
      refine .skip ?_
      refine .seq ?_
      refine .blk ?_
      refine .seq ?_
      refine Rw.walk ?_
      simp only [wz, wd, ws, Nat.reduceAdd, Nat.reduceSub, Nat.reduceMul, Nat.reduceLeDiff, Nat.reduceEqDiff, Nat.reduceLT, Nat.reduceBEq, reduceIte, reduceCtorEq, Int.reduceToNat, Nat.reduceShiftRight, Nat.reduceAnd, Nat.reduceBneDiff, Nat.reduceBNe, c33r6, semI.eq_10, semI.eq_11, semI.eq_3, semI.eq_5, semI.eq_7]
      refine .seq ?_
      refine RwD.walk ?_
      simp only [wz, wd, ws, Nat.reduceAdd, Nat.reduceSub, Nat.reduceMul, Nat.reduceLeDiff, Nat.reduceEqDiff, Nat.reduceLT, Nat.reduceBEq, reduceIte, reduceCtorEq, Int.reduceToNat, Nat.reduceShiftRight, Nat.reduceAnd, Nat.reduceBneDiff, Nat.reduceBNe, c33r7, semI.eq_10, semI.eq_11, semI.eq_3, semI.eq_5, semI.eq_7]
      obtain ⟨c, e2, h⟩ := Option.bind_eq_some_iff.1 h
      refine GoD1.of (sem_idx e2 (by rfl) (by rfl)) ?_
      simp only [wz, wd, ws, Nat.reduceAdd, Nat.reduceSub, Nat.reduceMul, Nat.reduceLeDiff, Nat.reduceEqDiff, Nat.reduceLT, Nat.reduceBEq, reduceIte, reduceCtorEq, Int.reduceToNat, Nat.reduceShiftRight, Nat.reduceAnd, Nat.reduceBneDiff, Nat.reduceBNe, c33r7, semI.eq_10, semI.eq_11, semI.eq_3, semI.eq_5, semI.eq_7]
      obtain ⟨t, e3, h⟩ := Option.bind_eq_some_iff.1 h
      refine call_fun [] false ⟨trivial, trivial, trivial, trivial⟩ rfl ?_ (f_strings_IndexByte_ok _ _ _ e3) (fun _ => rfl) (fun i hi => by cases hi) ?_
      · simp only [wz, wd, ws, Nat.reduceAdd, Nat.reduceSub, Nat.reduceMul, Nat.reduceLeDiff, Nat.reduceEqDiff, Nat.reduceLT, Nat.reduceBEq, reduceIte, reduceCtorEq, Int.reduceToNat, Nat.reduceShiftRight, Nat.reduceAnd, Nat.reduceBneDiff, Nat.reduceBNe]
      simp only [wz, wd, ws, Nat.reduceAdd, Nat.reduceSub, Nat.reduceMul, Nat.reduceLeDiff, Nat.reduceEqDiff, Nat.reduceLT, Nat.reduceBEq, reduceIte, reduceCtorEq, Int.reduceToNat, Nat.reduceShiftRight, Nat.reduceAnd, Nat.reduceBneDiff, Nat.reduceBNe, c33r7, semI.eq_10, semI.eq_11, semI.eq_3, semI.eq_5, semI.eq_7]
      obtain ⟨c2, e4, h⟩ := Option.bind_eq_some_iff.1 h
      refine GoD1.of (sem_idx e4 (by rfl) (by rfl)) ?_
      simp only [wz, wd, ws, Nat.reduceAdd, Nat.reduceSub, Nat.reduceMul, Nat.reduceLeDiff, Nat.reduceEqDiff, Nat.reduceLT, Nat.reduceBEq, reduceIte, reduceCtorEq, Int.reduceToNat, Nat.reduceShiftRight, Nat.reduceAnd, Nat.reduceBneDiff, Nat.reduceBNe, c33r7, semI.eq_10, semI.eq_11, semI.eq_3, semI.eq_5, semI.eq_7]
      obtain ⟨t2, e5, h⟩ := Option.bind_eq_some_iff.1 h
      refine call_fun [] false ⟨trivial, trivial, trivial, trivial⟩ rfl ?_ (f_strings_IndexByte_ok _ _ _ e5) (fun _ => rfl) (fun i hi => by cases hi) ?_
      · simp only [wz, wd, ws, Nat.reduceAdd, Nat.reduceSub, Nat.reduceMul, Nat.reduceLeDiff, Nat.reduceEqDiff, Nat.reduceLT, Nat.reduceBEq, reduceIte, reduceCtorEq, Int.reduceToNat, Nat.reduceShiftRight, Nat.reduceAnd, Nat.reduceBneDiff, Nat.reduceBNe]
      simp only [wz, wd, ws, Nat.reduceAdd, Nat.reduceSub, Nat.reduceMul, Nat.reduceLeDiff, Nat.reduceEqDiff, Nat.reduceLT, Nat.reduceBEq, reduceIte, reduceCtorEq, Int.reduceToNat, Nat.reduceShiftRight, Nat.reduceAnd, Nat.reduceBneDiff, Nat.reduceBNe, c33r7, semI.eq_10, semI.eq_11, semI.eq_3, semI.eq_5, semI.eq_7]
      refine .seq ?_
      refine .seq ?_
      refine Rw.walk ?_
      simp only [wz, wd, ws, Nat.reduceAdd, Nat.reduceSub, Nat.reduceMul, Nat.reduceLeDiff, Nat.reduceEqDiff, Nat.reduceLT, Nat.reduceBEq, reduceIte, reduceCtorEq, Int.reduceToNat, Nat.reduceShiftRight, Nat.reduceAnd, Nat.reduceBneDiff, Nat.reduceBNe, c33r8, semI.eq_10, semI.eq_11, semI.eq_3, semI.eq_5, semI.eq_7]
      repeat (refine And.intro ?_ ?_; · first | omega | (intro q; simp only [wz, wd, ws, Nat.reduceAdd, Nat.reduceSub, Nat.reduceMul, Nat.reduceLeDiff, Nat.reduceEqDiff, Nat.reduceLT, Nat.reduceBEq, reduceIte, reduceCtorEq, Int.reduceToNat, Nat.reduceShiftRight, Nat.reduceAnd, Nat.reduceBneDiff, Nat.reduceBNe, q]; done))
      refine .cond (p := ((decide (t < 0)) || (decide (t2 < 0)))) (by first | rfl | simp only [wz, wd, ws, Nat.reduceAdd, Nat.reduceSub, Nat.reduceMul, Nat.reduceLeDiff, Nat.reduceEqDiff, Nat.reduceLT, Nat.reduceBEq, reduceIte, reduceCtorEq, Int.reduceToNat, Nat.reduceShiftRight, Nat.reduceAnd, Nat.reduceBneDiff, Nat.reduceBNe]) (fun h1 => ?_) (fun h1 => ?_)
      · rw [ite_t h1] at h
        refine .seq ?_
        refine Rw.walk ?_
        simp only [wz, wd, ws, Nat.reduceAdd, Nat.reduceSub, Nat.reduceMul, Nat.reduceLeDiff, Nat.reduceEqDiff, Nat.reduceLT, Nat.reduceBEq, reduceIte, reduceCtorEq, Int.reduceToNat, Nat.reduceShiftRight, Nat.reduceAnd, Nat.reduceBneDiff, Nat.reduceBNe, c33r9, semI.eq_10, semI.eq_11, semI.eq_3, semI.eq_5, semI.eq_7]
        obtain rfl := Option.some.inj h; obtain rfl := hr _ rfl
        refine .ret ?_
        rw [← hR]
        simp only [wz, wd, ws, Nat.reduceAdd, Nat.reduceSub, Nat.reduceMul, Nat.reduceLeDiff, Nat.reduceEqDiff, Nat.reduceLT, Nat.reduceBEq, reduceIte, reduceCtorEq, Int.reduceToNat, Nat.reduceShiftRight, Nat.reduceAnd, Nat.reduceBneDiff, Nat.reduceBNe, rv33]
      · rw [ite_f h1] at h
        refine .skip ?_
        refine Rw.walk ?_
        simp only [wz, wd, ws, Nat.reduceAdd, Nat.reduceSub, Nat.reduceMul, Nat.reduceLeDiff, Nat.reduceEqDiff, Nat.reduceLT, Nat.reduceBEq, reduceIte, reduceCtorEq, Int.reduceToNat, Nat.reduceShiftRight, Nat.reduceAnd, Nat.reduceBneDiff, Nat.reduceBNe, c33r10, semI.eq_3, semI.eq_5, semI.eq_7]
        obtain ⟨x, e6, h⟩ := Option.bind_eq_some_iff.1 h
        refine Go1.of (sem_iadrO (l := out) e6 (by rfl) (by rfl) (by rfl)) ?_
        simp only [wz, wd, ws, Nat.reduceAdd, Nat.reduceSub, Nat.reduceMul, Nat.reduceLeDiff, Nat.reduceEqDiff, Nat.reduceLT, Nat.reduceBEq, reduceIte, reduceCtorEq, Int.reduceToNat, Nat.reduceShiftRight, Nat.reduceAnd, Nat.reduceBneDiff, Nat.reduceBNe, c33r10, semI.eq_3, semI.eq_5, semI.eq_7, er_get e6]
        refine Go1.of (sem_store (enc := (eI .u8)) (l := out) (a := x) (a' := (IntKind.u8.wrap (IntKind.i64.wrap ((IntKind.i64.wrap (t * 16)) + t2)))) (v := .b (.s (.d (.int .u8 (IntKind.u8.wrap (IntKind.i64.wrap ((IntKind.i64.wrap (t * 16)) + t2))))))) (by rfl) (by rfl) (er_get e6) (by rfl) (by trivial) (by rfl) (Nat.le_of_ble_eq_true (by rfl)) (by rfl)) ?_
        simp only [wz, wd, ws, Nat.reduceAdd, Nat.reduceSub, Nat.reduceMul, Nat.reduceLeDiff, Nat.reduceEqDiff, Nat.reduceLT, Nat.reduceBEq, reduceIte, reduceCtorEq, Int.reduceToNat, Nat.reduceShiftRight, Nat.reduceAnd, Nat.reduceBneDiff, Nat.reduceBNe, c33r10, semI.eq_3, semI.eq_5, semI.eq_7, er_get e6]
        refine .eblk ?_
        refine Rw.walk ?_
        simp only [wz, wd, ws, Nat.reduceAdd, Nat.reduceSub, Nat.reduceMul, Nat.reduceLeDiff, Nat.reduceEqDiff, Nat.reduceLT, Nat.reduceBEq, reduceIte, reduceCtorEq, Int.reduceToNat, Nat.reduceShiftRight, Nat.reduceAnd, Nat.reduceBneDiff, Nat.reduceBNe, c33r11, semI.eq_10, semI.eq_11, semI.eq_3, semI.eq_5, semI.eq_7, er_get e6]
        refine .lp ?_
        refine .weak (Imp.co [] _ _ ?_ ?_ ?_ ?_ ?_) (ih (IntKind.i64.wrap (v18 + 1)) (out.set v18.toNat (IntKind.u8.wrap (IntKind.i64.wrap ((IntKind.i64.wrap (t * 16)) + t2)))) _ h k_ hx hr) <;> simp only [wz, wd, ws, Nat.reduceAdd, Nat.reduceSub, Nat.reduceMul, Nat.reduceLeDiff, Nat.reduceEqDiff, Nat.reduceLT, Nat.reduceBEq, reduceIte, reduceCtorEq, Int.reduceToNat, Nat.reduceShiftRight, Nat.reduceAnd, Nat.reduceBneDiff, Nat.reduceBNe, wi, er_nil]
    · rw [ite_f h1] at h
      refine .exit rfl ?_
      obtain rfl := Option.some.inj h
      refine .weak (Imp.co [] _ _ ?_ ?_ ?_ ?_ ?_) (hx _ rfl) <;> simp only [wz, wd, ws, Nat.reduceAdd, Nat.reduceSub, Nat.reduceMul, Nat.reduceLeDiff, Nat.reduceEqDiff, Nat.reduceLT, Nat.reduceBEq, reduceIte, reduceCtorEq, Int.reduceToNat, Nat.reduceShiftRight, Nat.reduceAnd, Nat.reduceBneDiff, Nat.reduceBNe, wi, er_nil]
theorem f_octet_Bytes_ok (s : Str) (y_ : Str × Int) (h : f_octet_Bytes s = some y_) : Fun Tryd.prog glP 33 [.b (.s (.d (.str s)))] (.tup [.s (.d (.str y_.1)), .s (.d (.int .i64 y_.2))]) := by
  refine fun_walk [] Tryd.func33 Tryd.ntmps33 cc33 cr33 (by kernel_rfl) (by simp only [List.length_cons, List.length_nil]; decide) ?_
  generalize hR : Ret _ _ _ _ _ = R_
  simp only [wz, wd, ws, Nat.reduceAdd, Nat.reduceSub, Nat.reduceMul, Nat.reduceLeDiff, Nat.reduceEqDiff, Nat.reduceLT, Nat.reduceBEq, reduceIte, reduceCtorEq, Int.reduceToNat, Nat.reduceShiftRight, Nat.reduceAnd, Nat.reduceBneDiff, Nat.reduceBNe]
  unfold f_octet_Bytes at h; unfold c33
  refine .seq ?_
  refine Rw.walk ?_
  simp only [wz, wd, ws, Nat.reduceAdd, Nat.reduceSub, Nat.reduceMul, Nat.reduceLeDiff, Nat.reduceEqDiff, Nat.reduceLT, Nat.reduceBEq, reduceIte, reduceCtorEq, Int.reduceToNat, Nat.reduceShiftRight, Nat.reduceAnd, Nat.reduceBneDiff, Nat.reduceBNe, c33r0, semI.eq_10, semI.eq_11, semI.eq_3, semI.eq_5, semI.eq_7]
  refine .seq ?_
  refine .seq ?_
  refine Rw.walk ?_
  simp only [wz, wd, ws, Nat.reduceAdd, Nat.reduceSub, Nat.reduceMul, Nat.reduceLeDiff, Nat.reduceEqDiff, Nat.reduceLT, Nat.reduceBEq, reduceIte, reduceCtorEq, Int.reduceToNat, Nat.reduceShiftRight, Nat.reduceAnd, Nat.reduceBneDiff, Nat.reduceBNe, c33r1, semI.eq_10, semI.eq_11, semI.eq_3, semI.eq_5, semI.eq_7]
  repeat (refine And.intro ?_ ?_; · first | omega | (intro q; simp only [wz, wd, ws, Nat.reduceAdd, Nat.reduceSub, Nat.reduceMul, Nat.reduceLeDiff, Nat.reduceEqDiff, Nat.reduceLT, Nat.reduceBEq, reduceIte, reduceCtorEq, Int.reduceToNat, Nat.reduceShiftRight, Nat.reduceAnd, Nat.reduceBneDiff, Nat.reduceBNe, q]; done))
  refine .cond (p := (((s.length : Int).tmod 2) != 0)) (by first | rfl | simp only [wz, wd, ws, Nat.reduceAdd, Nat.reduceSub, Nat.reduceMul, Nat.reduceLeDiff, Nat.reduceEqDiff, Nat.reduceLT, Nat.reduceBEq, reduceIte, reduceCtorEq, Int.reduceToNat, Nat.reduceShiftRight, Nat.reduceAnd, Nat.reduceBneDiff, Nat.reduceBNe]) (fun h1 => ?_) (fun h1 => ?_)
  · rw [ite_t h1] at h
    refine .seq ?_
    refine Rw.walk ?_
    simp only [wz, wd, ws, Nat.reduceAdd, Nat.reduceSub, Nat.reduceMul, Nat.reduceLeDiff, Nat.reduceEqDiff, Nat.reduceLT, Nat.reduceBEq, reduceIte, reduceCtorEq, Int.reduceToNat, Nat.reduceShiftRight, Nat.reduceAnd, Nat.reduceBneDiff, Nat.reduceBNe, c33r2, semI.eq_10, semI.eq_11, semI.eq_3, semI.eq_5, semI.eq_7]
    obtain rfl := Option.some.inj h
    refine .ret ?_
    rw [← hR]
    simp only [wz, wd, ws, Nat.reduceAdd, Nat.reduceSub, Nat.reduceMul, Nat.reduceLeDiff, Nat.reduceEqDiff, Nat.reduceLT, Nat.reduceBEq, reduceIte, reduceCtorEq, Int.reduceToNat, Nat.reduceShiftRight, Nat.reduceAnd, Nat.reduceBneDiff, Nat.reduceBNe, rv33]
  · rw [ite_f h1] at h
    refine .skip ?_
    refine .seq ?_
    refine Rw.walk ?_
    simp only [wz, wd, ws, Nat.reduceAdd, Nat.reduceSub, Nat.reduceMul, Nat.reduceLeDiff, Nat.reduceEqDiff, Nat.reduceLT, Nat.reduceBEq, reduceIte, reduceCtorEq, Int.reduceToNat, Nat.reduceShiftRight, Nat.reduceAnd, Nat.reduceBneDiff, Nat.reduceBNe, c33r3, semI.eq_10, semI.eq_11, semI.eq_3, semI.eq_5, semI.eq_7]
    obtain ⟨g1, h⟩ := gd_iff.1 h
    repeat (refine And.intro ?_ ?_; · first | omega | (intro q; simp only [wz, wd, ws, Nat.reduceAdd, Nat.reduceSub, Nat.reduceMul, Nat.reduceLeDiff, Nat.reduceEqDiff, Nat.reduceLT, Nat.reduceBEq, reduceIte, reduceCtorEq, Int.reduceToNat, Nat.reduceShiftRight, Nat.reduceAnd, Nat.reduceBneDiff, Nat.reduceBNe, q]; done))
    refine Go1.of (sem_mksl (enc := (eI .u8)) (z1 := 0) (p := (IntKind.i64.wrap ((s.length : Int).tdiv 2))) (q := (IntKind.i64.wrap ((s.length : Int).tdiv 2))) (by rfl) (by rfl) (by rfl) (by rfl) (by rfl)) ?_
    simp only [wz, wd, ws, Nat.reduceAdd, Nat.reduceSub, Nat.reduceMul, Nat.reduceLeDiff, Nat.reduceEqDiff, Nat.reduceLT, Nat.reduceBEq, reduceIte, reduceCtorEq, Int.reduceToNat, Nat.reduceShiftRight, Nat.reduceAnd, Nat.reduceBneDiff, Nat.reduceBNe, c33r3, semI.eq_10, semI.eq_11, semI.eq_3, semI.eq_5, semI.eq_7]
    repeat (refine And.intro ?_ ?_; · first | omega | (intro q; simp only [wz, wd, ws, Nat.reduceAdd, Nat.reduceSub, Nat.reduceMul, Nat.reduceLeDiff, Nat.reduceEqDiff, Nat.reduceLT, Nat.reduceBEq, reduceIte, reduceCtorEq, Int.reduceToNat, Nat.reduceShiftRight, Nat.reduceAnd, Nat.reduceBneDiff, Nat.reduceBNe, q]; done))
    refine .seq ?_
    refine .seq ?_
    refine Rw.walk ?_
    simp only [wz, wd, ws, Nat.reduceAdd, Nat.reduceSub, Nat.reduceMul, Nat.reduceLeDiff, Nat.reduceEqDiff, Nat.reduceLT, Nat.reduceBEq, reduceIte, reduceCtorEq, Int.reduceToNat, Nat.reduceShiftRight, Nat.reduceAnd, Nat.reduceBneDiff, Nat.reduceBNe, c33r4, semI.eq_10, semI.eq_11, semI.eq_3, semI.eq_5, semI.eq_7]
    refine .blk ?_
    obtain ⟨s2, hf, h⟩ := Option.bind_eq_some_iff.1 h
    refine .loop (.weak (Imp.co [] _ _ ?c1 ?c2 ?c3 ?c4 ?c5) (f_octet_Bytes_l12_ok s _ _ hR _ _ _ _ hf _ ?_ ?_))
    case c1 | c2 | c3 | c4 | c5 => simp only [wz, wd, ws, Nat.reduceAdd, Nat.reduceSub, Nat.reduceMul, Nat.reduceLeDiff, Nat.reduceEqDiff, Nat.reduceLT, Nat.reduceBEq, reduceIte, reduceCtorEq, Int.reduceToNat, Nat.reduceShiftRight, Nat.reduceAnd, Nat.reduceBneDiff, Nat.reduceBNe, wi, er_nil]
    · intro s3 hs; subst hs; dsimp only at h
      refine .seq ?_
      refine Rw.walk ?_
      simp only [wz, wd, ws, Nat.reduceAdd, Nat.reduceSub, Nat.reduceMul, Nat.reduceLeDiff, Nat.reduceEqDiff, Nat.reduceLT, Nat.reduceBEq, reduceIte, reduceCtorEq, Int.reduceToNat, Nat.reduceShiftRight, Nat.reduceAnd, Nat.reduceBneDiff, Nat.reduceBNe, c33r12, semI.eq_10, semI.eq_11, semI.eq_3, semI.eq_5, semI.eq_7]
      refine Go1.of (sem_b2s (n := s3.2) (rowsV_own (m := s3.2) (by rfl) (by rfl))) ?_
      simp only [wz, wd, ws, Nat.reduceAdd, Nat.reduceSub, Nat.reduceMul, Nat.reduceLeDiff, Nat.reduceEqDiff, Nat.reduceLT, Nat.reduceBEq, reduceIte, reduceCtorEq, Int.reduceToNat, Nat.reduceShiftRight, Nat.reduceAnd, Nat.reduceBneDiff, Nat.reduceBNe, c33r12, semI.eq_10, semI.eq_11, semI.eq_3, semI.eq_5, semI.eq_7]
      obtain rfl := Option.some.inj h
      refine .ret ?_
      rw [← hR]
      simp only [wz, wd, ws, Nat.reduceAdd, Nat.reduceSub, Nat.reduceMul, Nat.reduceLeDiff, Nat.reduceEqDiff, Nat.reduceLT, Nat.reduceBEq, reduceIte, reduceCtorEq, Int.reduceToNat, Nat.reduceShiftRight, Nat.reduceAnd, Nat.reduceBneDiff, Nat.reduceBNe, rv33]
    · intro z hz; subst hz; dsimp only at h
      exact Option.some.inj h
-- 21 consignor/digest.Parse
def c21r0 : List Opn := [
  ⟨(some 2), none, .mv (.c (.s (.d (.str []))))⟩, 
  ⟨(some 3), none, .mv (.c (.s (.d (.int .i64 0))))⟩]
def c21r1 : List Opn := [
  ⟨(some 9), none, .mv (.t 0)⟩, 
  ⟨(some 10), none, .call (.fn 43) [(.t 9), (.c (.s (.d (.str [115, 104, 97, 50, 53, 54, 58]))))]⟩, 
  ⟨(some 8), none, .mv (.t 10)⟩, 
  ⟨(some 11), none, .ext (.t 8) 0⟩, 
  ⟨(some 12), none, .ext (.t 8) 1⟩, 
  ⟨(some 4), none, .mv (.t 11)⟩, 
  ⟨(some 5), none, .mv (.t 12)⟩]
def c21r2 : List Opn := [
  ⟨(some 14), none, .mv (.t 4)⟩, 
  ⟨(some 15), none, .call (.fn 33) [(.t 14)]⟩, 
  ⟨(some 13), none, .mv (.t 15)⟩, 
  ⟨(some 16), none, .ext (.t 13) 0⟩, 
  ⟨(some 17), none, .ext (.t 13) 1⟩, 
  ⟨(some 6), none, .mv (.t 16)⟩, 
  ⟨(some 7), none, .mv (.t 17)⟩]
def c21r3 : List Opn := [
  ⟨(some 18), none, .mv (.t 5)⟩, 
  ⟨(some 19), none, .un .not (.t 18)⟩, 
  ⟨(some 20), none, .mv (.t 19)⟩, 
  ⟨(some 21), some (20, false), .mv (.t 7)⟩, 
  ⟨(some 22), some (20, false), .bin .neq (.t 21) (.c (.s (.d (.int .i64 0))))⟩, 
  ⟨(some 23), none, .pick (.t 20) (.c (.s (.d (.bool true)))) (.t 22)⟩, 
  ⟨(some 24), none, .mv (.t 23)⟩, 
  ⟨(some 25), some (24, false), .mv (.t 6)⟩, 
  ⟨(some 26), some (24, false), .len .str (.t 25)⟩, 
  ⟨(some 27), some (24, false), .bin .neq (.t 26) (.c (.s (.d (.int .i64 32))))⟩, 
  ⟨(some 28), none, .pick (.t 24) (.c (.s (.d (.bool true)))) (.t 27)⟩]
def c21r4 : List Opn := [
  ⟨(some 2), none, .mv (.c (.s (.d (.str []))))⟩, 
  ⟨(some 3), none, .mv (.c (.s (.d (.int .i64 6))))⟩]
def c21r5 : List Opn := [
  ⟨(some 29), none, .mv (.t 6)⟩, 
  ⟨(some 2), none, .mv (.t 29)⟩, 
  ⟨(some 3), none, .mv (.c (.s (.d (.int .i64 0))))⟩]
def c21 : C := .seq (.reg c21r0 none [0]) (.seq (.reg c21r1 none [4, 5]) (.seq (.reg c21r2 none [5, 6, 7]) (.seq (.seq (.reg c21r3 none [6, 28]) (.cond (.t 28) (.seq (.reg c21r4 none [2, 3]) (.ret)) (.skip))) (.seq (.reg c21r5 none [2, 3]) (.ret)))))
def k21 : List (Nat × List Nat) := [(5, [2, 3]), (4, [2, 3]), (3, [6, 28]), (2, [5, 6, 7]), (1, [4, 5]), (0, [0])]
theorem cc21 : (Tryd.f21.body).bind (cC Tryd.prog 30 k21) = some c21 := by kernel_rfl
def rv21 : List RV := [.t 2, .t 3]
theorem cr21 : cRVs Tryd.prog Tryd.f21.results.toList = some rv21 := by kernel_rfl
theorem f_digest_Parse_ok (s : Str) (y_ : Str × Int) (h : f_digest_Parse s = some y_) : Fun Tryd.prog glP 21 [.b (.s (.d (.str s)))] (.tup [.s (.d (.str y_.1)), .s (.d (.int .i64 y_.2))]) := by
  refine fun_walk [] Tryd.func21 Tryd.ntmps21 cc21 cr21 (by kernel_rfl) (by simp only [List.length_cons, List.length_nil]; decide) ?_
  generalize hR : Ret _ _ _ _ _ = R_
  simp only [wz, wd, ws, Nat.reduceAdd, Nat.reduceSub, Nat.reduceMul, Nat.reduceLeDiff, Nat.reduceEqDiff, Nat.reduceLT, Nat.reduceBEq, reduceIte, reduceCtorEq, Int.reduceToNat, Nat.reduceShiftRight, Nat.reduceAnd, Nat.reduceBneDiff, Nat.reduceBNe]
  unfold f_digest_Parse at h; unfold c21
  refine .seq ?_
  refine Rw.walk ?_
  simp only [wz, wd, ws, Nat.reduceAdd, Nat.reduceSub, Nat.reduceMul, Nat.reduceLeDiff, Nat.reduceEqDiff, Nat.reduceLT, Nat.reduceBEq, reduceIte, reduceCtorEq, Int.reduceToNat, Nat.reduceShiftRight, Nat.reduceAnd, Nat.reduceBneDiff, Nat.reduceBNe, c21r0, semI.eq_10, semI.eq_11, semI.eq_3, semI.eq_5, semI.eq_7]
  refine .seq ?_
  refine Rw.walk ?_
  simp only [wz, wd, ws, Nat.reduceAdd, Nat.reduceSub, Nat.reduceMul, Nat.reduceLeDiff, Nat.reduceEqDiff, Nat.reduceLT, Nat.reduceBEq, reduceIte, reduceCtorEq, Int.reduceToNat, Nat.reduceShiftRight, Nat.reduceAnd, Nat.reduceBneDiff, Nat.reduceBNe, c21r1, semI.eq_10, semI.eq_11, semI.eq_3, semI.eq_5, semI.eq_7]
  obtain ⟨t, e1, h⟩ := Option.bind_eq_some_iff.1 h
  refine call_fun [] false ⟨trivial, trivial, trivial, trivial⟩ rfl ?_ (f_strings_CutPrefix_ok _ _ _ e1) (fun _ => rfl) (fun i hi => by cases hi) ?_
  · simp only [wz, wd, ws, Nat.reduceAdd, Nat.reduceSub, Nat.reduceMul, Nat.reduceLeDiff, Nat.reduceEqDiff, Nat.reduceLT, Nat.reduceBEq, reduceIte, reduceCtorEq, Int.reduceToNat, Nat.reduceShiftRight, Nat.reduceAnd, Nat.reduceBneDiff, Nat.reduceBNe]
  simp only [wz, wd, ws, Nat.reduceAdd, Nat.reduceSub, Nat.reduceMul, Nat.reduceLeDiff, Nat.reduceEqDiff, Nat.reduceLT, Nat.reduceBEq, reduceIte, reduceCtorEq, Int.reduceToNat, Nat.reduceShiftRight, Nat.reduceAnd, Nat.reduceBneDiff, Nat.reduceBNe, c21r1, semI.eq_10, semI.eq_11, semI.eq_3, semI.eq_5, semI.eq_7]
  refine .seq ?_
  refine Rw.walk ?_
  simp only [wz, wd, ws, Nat.reduceAdd, Nat.reduceSub, Nat.reduceMul, Nat.reduceLeDiff, Nat.reduceEqDiff, Nat.reduceLT, Nat.reduceBEq, reduceIte, reduceCtorEq, Int.reduceToNat, Nat.reduceShiftRight, Nat.reduceAnd, Nat.reduceBneDiff, Nat.reduceBNe, c21r2, semI.eq_10, semI.eq_11, semI.eq_3, semI.eq_5, semI.eq_7]
  obtain ⟨t2, e2, h⟩ := Option.bind_eq_some_iff.1 h
  refine call_fun [] false ⟨trivial, trivial, trivial⟩ rfl ?_ (f_octet_Bytes_ok _ _ e2) (fun _ => rfl) (fun i hi => by cases hi) ?_
  · simp only [wz, wd, ws, Nat.reduceAdd, Nat.reduceSub, Nat.reduceMul, Nat.reduceLeDiff, Nat.reduceEqDiff, Nat.reduceLT, Nat.reduceBEq, reduceIte, reduceCtorEq, Int.reduceToNat, Nat.reduceShiftRight, Nat.reduceAnd, Nat.reduceBneDiff, Nat.reduceBNe]
  simp only [wz, wd, ws, Nat.reduceAdd, Nat.reduceSub, Nat.reduceMul, Nat.reduceLeDiff, Nat.reduceEqDiff, Nat.reduceLT, Nat.reduceBEq, reduceIte, reduceCtorEq, Int.reduceToNat, Nat.reduceShiftRight, Nat.reduceAnd, Nat.reduceBneDiff, Nat.reduceBNe, c21r2, semI.eq_10, semI.eq_11, semI.eq_3, semI.eq_5, semI.eq_7]
  refine .seq ?_
  refine .seq ?_
  refine Rw.walk ?_
  simp only [wz, wd, ws, Nat.reduceAdd, Nat.reduceSub, Nat.reduceMul, Nat.reduceLeDiff, Nat.reduceEqDiff, Nat.reduceLT, Nat.reduceBEq, reduceIte, reduceCtorEq, Int.reduceToNat, Nat.reduceShiftRight, Nat.reduceAnd, Nat.reduceBneDiff, Nat.reduceBNe, c21r3, semI.eq_10, semI.eq_11, semI.eq_3, semI.eq_5, semI.eq_7]
  repeat (refine And.intro ?_ ?_; · first | omega | (intro q; simp only [wz, wd, ws, Nat.reduceAdd, Nat.reduceSub, Nat.reduceMul, Nat.reduceLeDiff, Nat.reduceEqDiff, Nat.reduceLT, Nat.reduceBEq, reduceIte, reduceCtorEq, Int.reduceToNat, Nat.reduceShiftRight, Nat.reduceAnd, Nat.reduceBneDiff, Nat.reduceBNe, q]; done))
  refine .cond (p := (((!t.2) || (t2.2 != 0)) || ((t2.1.length : Int) != 32))) (by first | rfl | simp only [wz, wd, ws, Nat.reduceAdd, Nat.reduceSub, Nat.reduceMul, Nat.reduceLeDiff, Nat.reduceEqDiff, Nat.reduceLT, Nat.reduceBEq, reduceIte, reduceCtorEq, Int.reduceToNat, Nat.reduceShiftRight, Nat.reduceAnd, Nat.reduceBneDiff, Nat.reduceBNe]) (fun h1 => ?_) (fun h1 => ?_)
  · rw [ite_t h1] at h
    refine .seq ?_
    refine Rw.walk ?_
    simp only [wz, wd, ws, Nat.reduceAdd, Nat.reduceSub, Nat.reduceMul, Nat.reduceLeDiff, Nat.reduceEqDiff, Nat.reduceLT, Nat.reduceBEq, reduceIte, reduceCtorEq, Int.reduceToNat, Nat.reduceShiftRight, Nat.reduceAnd, Nat.reduceBneDiff, Nat.reduceBNe, c21r4, semI.eq_10, semI.eq_11, semI.eq_3, semI.eq_5, semI.eq_7]
    obtain rfl := Option.some.inj h
    refine .ret ?_
    rw [← hR]
    simp only [wz, wd, ws, Nat.reduceAdd, Nat.reduceSub, Nat.reduceMul, Nat.reduceLeDiff, Nat.reduceEqDiff, Nat.reduceLT, Nat.reduceBEq, reduceIte, reduceCtorEq, Int.reduceToNat, Nat.reduceShiftRight, Nat.reduceAnd, Nat.reduceBneDiff, Nat.reduceBNe, rv21]
  · rw [ite_f h1] at h
    refine .skip ?_
    refine .seq ?_
    refine Rw.walk ?_
    simp only [wz, wd, ws, Nat.reduceAdd, Nat.reduceSub, Nat.reduceMul, Nat.reduceLeDiff, Nat.reduceEqDiff, Nat.reduceLT, Nat.reduceBEq, reduceIte, reduceCtorEq, Int.reduceToNat, Nat.reduceShiftRight, Nat.reduceAnd, Nat.reduceBneDiff, Nat.reduceBNe, c21r5, semI.eq_10, semI.eq_11, semI.eq_3, semI.eq_5, semI.eq_7]
    obtain rfl := Option.some.inj h
    refine .ret ?_
    rw [← hR]
    simp only [wz, wd, ws, Nat.reduceAdd, Nat.reduceSub, Nat.reduceMul, Nat.reduceLeDiff, Nat.reduceEqDiff, Nat.reduceLT, Nat.reduceBEq, reduceIte, reduceCtorEq, Int.reduceToNat, Nat.reduceShiftRight, Nat.reduceAnd, Nat.reduceBneDiff, Nat.reduceBNe, rv21]
-- 22 consignor/digest.Fits
def c22r0 : List Opn := [
  ⟨(some 4), none, .mv (.c (.s (.d (.int .i64 0))))⟩]
def c22r1 : List Opn := [
  ⟨(some 8), none, .mv (.t 0)⟩, 
  ⟨(some 9), none, .call (.fn 21) [(.t 8)]⟩, 
  ⟨(some 7), none, .mv (.t 9)⟩, 
  ⟨(some 10), none, .ext (.t 7) 0⟩, 
  ⟨(some 11), none, .ext (.t 7) 1⟩, 
  ⟨(some 5), none, .mv (.t 10)⟩, 
  ⟨(some 6), none, .mv (.t 11)⟩]
def c22r2 : List Opn := [
  ⟨(some 13), none, .mv (.t 6)⟩, 
  ⟨(some 14), none, .bin .neq (.t 13) (.c (.s (.d (.int .i64 0))))⟩, 
  ⟨(some 12), none, .mv (.t 14)⟩]
def c22r3 : List Opn := [
  ⟨(some 15), none, .mv (.t 6)⟩, 
  ⟨(some 4), none, .mv (.t 15)⟩]
def c22r4 : List Opn := [
  ⟨(some 17), none, .mv (.t 1)⟩, 
  ⟨(some 18), none, .bsl 1 [(.t 17)]⟩, 
  ⟨(some 19), none, .call (.fn 12) [(.t 18)]⟩, 
  ⟨(some 20), none, .mv (.t 5)⟩, 
  ⟨(some 21), none, .bin .neq (.t 19) (.t 20)⟩, 
  ⟨(some 16), none, .mv (.t 21)⟩]
def c22r5 : List Opn := [
  ⟨(some 4), none, .mv (.c (.s (.d (.int .i64 10))))⟩]
def c22r6 : List Opn := [
  ⟨(some 4), none, .mv (.c (.s (.d (.int .i64 0))))⟩]
def c22 : C := .seq (.reg c22r0 none [0, 1]) (.seq (.reg c22r1 none [1, 5, 6]) (.seq (.blk 0 (.seq (.reg c22r2 none [1, 5, 6, 12]) (.cond (.t 12) (.seq (.reg c22r3 none [4]) (.ret)) (.seq (.reg c22r4 none [16]) (.cond (.t 16) (.seq (.reg c22r5 none [4]) (.ret)) (.skip)))))) (.seq (.reg c22r6 none [4]) (.ret))))
def k22 : List (Nat × List Nat) := [(6, [4]), (3, [4]), (5, [4]), (4, [16]), (2, [1, 5, 6, 12]), (1, [1, 5, 6]), (0, [0, 1])]
theorem cc22 : (Tryd.f22.body).bind (cC Tryd.prog 22 k22) = some c22 := by kernel_rfl
def rv22 : List RV := [.t 4]
theorem cr22 : cRVs Tryd.prog Tryd.f22.results.toList = some rv22 := by kernel_rfl
theorem f_digest_Fits_ok (digest : Str) (data : Str) (y_ : Int) (h : f_digest_Fits digest data = some y_) : Fun Tryd.prog glP 22 [.b (.s (.d (.str digest))), .b (.s (.d (.str data)))] (.b (.s (.d (.int .i64 y_)))) := by
  refine fun_walk [] Tryd.func22 Tryd.ntmps22 cc22 cr22 (by kernel_rfl) (by simp only [List.length_cons, List.length_nil]; decide) ?_
  generalize hR : Ret _ _ _ _ _ = R_
  simp only [wz, wd, ws, Nat.reduceAdd, Nat.reduceSub, Nat.reduceMul, Nat.reduceLeDiff, Nat.reduceEqDiff, Nat.reduceLT, Nat.reduceBEq, reduceIte, reduceCtorEq, Int.reduceToNat, Nat.reduceShiftRight, Nat.reduceAnd, Nat.reduceBneDiff, Nat.reduceBNe]
  unfold f_digest_Fits at h; unfold c22
  refine .seq ?_
  refine Rw.walk ?_
  simp only [wz, wd, ws, Nat.reduceAdd, Nat.reduceSub, Nat.reduceMul, Nat.reduceLeDiff, Nat.reduceEqDiff, Nat.reduceLT, Nat.reduceBEq, reduceIte, reduceCtorEq, Int.reduceToNat, Nat.reduceShiftRight, Nat.reduceAnd, Nat.reduceBneDiff, Nat.reduceBNe, c22r0, semI.eq_10, semI.eq_11, semI.eq_3, semI.eq_5, semI.eq_7]
  refine .seq ?_
  refine Rw.walk ?_
  simp only [wz, wd, ws, Nat.reduceAdd, Nat.reduceSub, Nat.reduceMul, Nat.reduceLeDiff, Nat.reduceEqDiff, Nat.reduceLT, Nat.reduceBEq, reduceIte, reduceCtorEq, Int.reduceToNat, Nat.reduceShiftRight, Nat.reduceAnd, Nat.reduceBneDiff, Nat.reduceBNe, c22r1, semI.eq_10, semI.eq_11, semI.eq_3, semI.eq_5, semI.eq_7]
  obtain ⟨t, e1, h⟩ := Option.bind_eq_some_iff.1 h
  refine call_fun [] false ⟨trivial, trivial, trivial⟩ rfl ?_ (f_digest_Parse_ok _ _ e1) (fun _ => rfl) (fun i hi => by cases hi) ?_
  · simp only [wz, wd, ws, Nat.reduceAdd, Nat.reduceSub, Nat.reduceMul, Nat.reduceLeDiff, Nat.reduceEqDiff, Nat.reduceLT, Nat.reduceBEq, reduceIte, reduceCtorEq, Int.reduceToNat, Nat.reduceShiftRight, Nat.reduceAnd, Nat.reduceBneDiff, Nat.reduceBNe]
  simp only [wz, wd, ws, Nat.reduceAdd, Nat.reduceSub, Nat.reduceMul, Nat.reduceLeDiff, Nat.reduceEqDiff, Nat.reduceLT, Nat.reduceBEq, reduceIte, reduceCtorEq, Int.reduceToNat, Nat.reduceShiftRight, Nat.reduceAnd, Nat.reduceBneDiff, Nat.reduceBNe, c22r1, semI.eq_10, semI.eq_11, semI.eq_3, semI.eq_5, semI.eq_7]
  refine .seq ?_
  refine .blk ?_
  refine .seq ?_
  refine Rw.walk ?_
  simp only [wz, wd, ws, Nat.reduceAdd, Nat.reduceSub, Nat.reduceMul, Nat.reduceLeDiff, Nat.reduceEqDiff, Nat.reduceLT, Nat.reduceBEq, reduceIte, reduceCtorEq, Int.reduceToNat, Nat.reduceShiftRight, Nat.reduceAnd, Nat.reduceBneDiff, Nat.reduceBNe, c22r2, semI.eq_10, semI.eq_11, semI.eq_3, semI.eq_5, semI.eq_7]
  refine .cond (p := (t.2 != 0)) (by first | rfl | simp only [wz, wd, ws, Nat.reduceAdd, Nat.reduceSub, Nat.reduceMul, Nat.reduceLeDiff, Nat.reduceEqDiff, Nat.reduceLT, Nat.reduceBEq, reduceIte, reduceCtorEq, Int.reduceToNat, Nat.reduceShiftRight, Nat.reduceAnd, Nat.reduceBneDiff, Nat.reduceBNe]) (fun h1 => ?_) (fun h1 => ?_)
  · rw [ite_t h1] at h
    refine .seq ?_
    refine Rw.walk ?_
    simp only [wz, wd, ws, Nat.reduceAdd, Nat.reduceSub, Nat.reduceMul, Nat.reduceLeDiff, Nat.reduceEqDiff, Nat.reduceLT, Nat.reduceBEq, reduceIte, reduceCtorEq, Int.reduceToNat, Nat.reduceShiftRight, Nat.reduceAnd, Nat.reduceBneDiff, Nat.reduceBNe, c22r3, semI.eq_10, semI.eq_11, semI.eq_3, semI.eq_5, semI.eq_7]
    obtain rfl := Option.some.inj h
    refine .ret ?_
    rw [← hR]
    simp only [wz, wd, ws, Nat.reduceAdd, Nat.reduceSub, Nat.reduceMul, Nat.reduceLeDiff, Nat.reduceEqDiff, Nat.reduceLT, Nat.reduceBEq, reduceIte, reduceCtorEq, Int.reduceToNat, Nat.reduceShiftRight, Nat.reduceAnd, Nat.reduceBneDiff, Nat.reduceBNe, rv22]
  · rw [ite_f h1] at h
    refine .seq ?_
    refine Rw.walk ?_
    simp only [wz, wd, ws, Nat.reduceAdd, Nat.reduceSub, Nat.reduceMul, Nat.reduceLeDiff, Nat.reduceEqDiff, Nat.reduceLT, Nat.reduceBEq, reduceIte, reduceCtorEq, Int.reduceToNat, Nat.reduceShiftRight, Nat.reduceAnd, Nat.reduceBneDiff, Nat.reduceBNe, c22r4, semI.eq_10, semI.eq_11, semI.eq_3, semI.eq_5, semI.eq_7]
    refine Go1.of (sem_bsl (enc := eS) (m := ([data] : List Str)) eS_len (by rfl) (by rfl) (by rfl) ⟨trivial, trivial⟩) ?_
    simp only [wz, wd, ws, Nat.reduceAdd, Nat.reduceSub, Nat.reduceMul, Nat.reduceLeDiff, Nat.reduceEqDiff, Nat.reduceLT, Nat.reduceBEq, reduceIte, reduceCtorEq, Int.reduceToNat, Nat.reduceShiftRight, Nat.reduceAnd, Nat.reduceBneDiff, Nat.reduceBNe, c22r4, semI.eq_10, semI.eq_11, semI.eq_3, semI.eq_5, semI.eq_7]
    obtain ⟨t2, e2, h⟩ := Option.bind_eq_some_iff.1 h
    refine call_fun [18] false ⟨trivial, trivial, trivial⟩ rfl ?_ (f_digest_Sum_ok _ _ e2) (fun _ => rfl) (fun i hi e he => coF_get (l := [18]) (by simp only [wz, wd, ws, Nat.reduceAdd, Nat.reduceSub, Nat.reduceMul, Nat.reduceLeDiff, Nat.reduceEqDiff, Nat.reduceLT, Nat.reduceBEq, reduceIte, reduceCtorEq, Int.reduceToNat, Nat.reduceShiftRight, Nat.reduceAnd, Nat.reduceBneDiff, Nat.reduceBNe, wi]) i e hi he) ?_
    · simp only [wz, wd, ws, Nat.reduceAdd, Nat.reduceSub, Nat.reduceMul, Nat.reduceLeDiff, Nat.reduceEqDiff, Nat.reduceLT, Nat.reduceBEq, reduceIte, reduceCtorEq, Int.reduceToNat, Nat.reduceShiftRight, Nat.reduceAnd, Nat.reduceBneDiff, Nat.reduceBNe]
    simp only [wz, wd, ws, Nat.reduceAdd, Nat.reduceSub, Nat.reduceMul, Nat.reduceLeDiff, Nat.reduceEqDiff, Nat.reduceLT, Nat.reduceBEq, reduceIte, reduceCtorEq, Int.reduceToNat, Nat.reduceShiftRight, Nat.reduceAnd, Nat.reduceBneDiff, Nat.reduceBNe, c22r4, semI.eq_10, semI.eq_11, semI.eq_3, semI.eq_5, semI.eq_7]
    refine .cond (p := (!(t2 == t.1))) (by first | rfl | simp only [wz, wd, ws, Nat.reduceAdd, Nat.reduceSub, Nat.reduceMul, Nat.reduceLeDiff, Nat.reduceEqDiff, Nat.reduceLT, Nat.reduceBEq, reduceIte, reduceCtorEq, Int.reduceToNat, Nat.reduceShiftRight, Nat.reduceAnd, Nat.reduceBneDiff, Nat.reduceBNe]) (fun h1 => ?_) (fun h1 => ?_)
    · rw [ite_t h1] at h
      refine .seq ?_
      refine Rw.walk ?_
      simp only [wz, wd, ws, Nat.reduceAdd, Nat.reduceSub, Nat.reduceMul, Nat.reduceLeDiff, Nat.reduceEqDiff, Nat.reduceLT, Nat.reduceBEq, reduceIte, reduceCtorEq, Int.reduceToNat, Nat.reduceShiftRight, Nat.reduceAnd, Nat.reduceBneDiff, Nat.reduceBNe, c22r5, semI.eq_10, semI.eq_11, semI.eq_3, semI.eq_5, semI.eq_7]
      obtain rfl := Option.some.inj h
      refine .ret ?_
      rw [← hR]
      simp only [wz, wd, ws, Nat.reduceAdd, Nat.reduceSub, Nat.reduceMul, Nat.reduceLeDiff, Nat.reduceEqDiff, Nat.reduceLT, Nat.reduceBEq, reduceIte, reduceCtorEq, Int.reduceToNat, Nat.reduceShiftRight, Nat.reduceAnd, Nat.reduceBneDiff, Nat.reduceBNe, rv22]
    · rw [ite_f h1] at h
      refine .skip ?_
      refine .eblk ?_
      refine .seq ?_
      refine Rw.walk ?_
      simp only [wz, wd, ws, Nat.reduceAdd, Nat.reduceSub, Nat.reduceMul, Nat.reduceLeDiff, Nat.reduceEqDiff, Nat.reduceLT, Nat.reduceBEq, reduceIte, reduceCtorEq, Int.reduceToNat, Nat.reduceShiftRight, Nat.reduceAnd, Nat.reduceBneDiff, Nat.reduceBNe, c22r6, semI.eq_10, semI.eq_11, semI.eq_3, semI.eq_5, semI.eq_7]
      obtain rfl := Option.some.inj h
      refine .ret ?_
      rw [← hR]
      simp only [wz, wd, ws, Nat.reduceAdd, Nat.reduceSub, Nat.reduceMul, Nat.reduceLeDiff, Nat.reduceEqDiff, Nat.reduceLT, Nat.reduceBEq, reduceIte, reduceCtorEq, Int.reduceToNat, Nat.reduceShiftRight, Nat.reduceAnd, Nat.reduceBneDiff, Nat.reduceBNe, rv22]
-- 61 consignor/consignorref01.half
def c61r0 : List Opn := [
  ⟨(some 2), none, .mv (.c (.s (.d (.int .i64 0))))⟩]
def c61r1 : List Opn := [
  ⟨(some 3), none, .mv (.t 0)⟩, 
  ⟨(some 4), none, .bin .geq (.t 3) (.c (.s (.d (.int .u8 48))))⟩, 
  ⟨(some 5), none, .mv (.t 4)⟩, 
  ⟨(some 6), some (5, true), .mv (.t 0)⟩, 
  ⟨(some 7), some (5, true), .bin .leq (.t 6) (.c (.s (.d (.int .u8 57))))⟩, 
  ⟨(some 8), none, .pick (.t 5) (.t 7) (.c (.s (.d (.bool false))))⟩]
def c61r2 : List Opn := [
  ⟨(some 9), none, .mv (.t 0)⟩, 
  ⟨(some 10), none, .bin .sub (.t 9) (.c (.s (.d (.int .u8 48))))⟩, 
  ⟨(some 11), none, .cv (.toInt .i64) (.t 10)⟩, 
  ⟨(some 2), none, .mv (.t 11)⟩]
def c61r3 : List Opn := [
  ⟨(some 12), none, .mv (.t 0)⟩, 
  ⟨(some 13), none, .bin .geq (.t 12) (.c (.s (.d (.int .u8 97))))⟩, 
  ⟨(some 14), none, .mv (.t 13)⟩, 
  ⟨(some 15), some (14, true), .mv (.t 0)⟩, 
  ⟨(some 16), some (14, true), .bin .leq (.t 15) (.c (.s (.d (.int .u8 102))))⟩, 
  ⟨(some 17), none, .pick (.t 14) (.t 16) (.c (.s (.d (.bool false))))⟩]
def c61r4 : List Opn := [
  ⟨(some 18), none, .mv (.t 0)⟩, 
  ⟨(some 19), none, .bin .sub (.t 18) (.c (.s (.d (.int .u8 97))))⟩, 
  ⟨(some 20), none, .cv (.toInt .i64) (.t 19)⟩, 
  ⟨(some 21), none, .bin .add (.t 20) (.c (.s (.d (.int .i64 10))))⟩, 
  ⟨(some 2), none, .mv (.t 21)⟩]
def c61r5 : List Opn := [
  ⟨(some 2), none, .mv (.c (.s (.d (.int .i64 16))))⟩]
def c61 : C := .seq (.reg c61r0 none [0]) (.seq (.seq (.reg c61r1 none [0, 8]) (.cond (.t 8) (.seq (.reg c61r2 none [2]) (.ret)) (.skip))) (.seq (.seq (.reg c61r3 none [0, 17]) (.cond (.t 17) (.seq (.reg c61r4 none [2]) (.ret)) (.skip))) (.seq (.reg c61r5 none [2]) (.ret))))
def k61 : List (Nat × List Nat) := [(5, [2]), (4, [2]), (3, [0, 17]), (2, [2]), (1, [0, 8]), (0, [0])]
theorem cc61 : (Tryd.f61.body).bind (cC Tryd.prog 22 k61) = some c61 := by kernel_rfl
def rv61 : List RV := [.t 2]
theorem cr61 : cRVs Tryd.prog Tryd.f61.results.toList = some rv61 := by kernel_rfl
theorem f_ref01_half_ok (c : Int) (y_ : Int) (h : f_ref01_half c = some y_) : Fun Tryd.prog glP 61 [.b (.s (.d (.int .u8 c)))] (.b (.s (.d (.int .i64 y_)))) := by
  refine fun_walk [] Tryd.func61 Tryd.ntmps61 cc61 cr61 (by kernel_rfl) (by simp only [List.length_cons, List.length_nil]; decide) ?_
  generalize hR : Ret _ _ _ _ _ = R_
  simp only [wz, wd, ws, Nat.reduceAdd, Nat.reduceSub, Nat.reduceMul, Nat.reduceLeDiff, Nat.reduceEqDiff, Nat.reduceLT, Nat.reduceBEq, reduceIte, reduceCtorEq, Int.reduceToNat, Nat.reduceShiftRight, Nat.reduceAnd, Nat.reduceBneDiff, Nat.reduceBNe]
  unfold f_ref01_half at h; unfold c61
  refine .seq ?_
  refine Rw.walk ?_
  simp only [wz, wd, ws, Nat.reduceAdd, Nat.reduceSub, Nat.reduceMul, Nat.reduceLeDiff, Nat.reduceEqDiff, Nat.reduceLT, Nat.reduceBEq, reduceIte, reduceCtorEq, Int.reduceToNat, Nat.reduceShiftRight, Nat.reduceAnd, Nat.reduceBneDiff, Nat.reduceBNe, c61r0, semI.eq_10, semI.eq_11, semI.eq_3, semI.eq_5, semI.eq_7]
  refine .seq ?_
  refine .seq ?_
  refine Rw.walk ?_
  simp only [wz, wd, ws, Nat.reduceAdd, Nat.reduceSub, Nat.reduceMul, Nat.reduceLeDiff, Nat.reduceEqDiff, Nat.reduceLT, Nat.reduceBEq, reduceIte, reduceCtorEq, Int.reduceToNat, Nat.reduceShiftRight, Nat.reduceAnd, Nat.reduceBneDiff, Nat.reduceBNe, c61r1, semI.eq_10, semI.eq_11, semI.eq_3, semI.eq_5, semI.eq_7]
  repeat (refine And.intro ?_ ?_; · first | omega | (intro q; simp only [wz, wd, ws, Nat.reduceAdd, Nat.reduceSub, Nat.reduceMul, Nat.reduceLeDiff, Nat.reduceEqDiff, Nat.reduceLT, Nat.reduceBEq, reduceIte, reduceCtorEq, Int.reduceToNat, Nat.reduceShiftRight, Nat.reduceAnd, Nat.reduceBneDiff, Nat.reduceBNe, q]; done))
  refine .cond (p := ((decide (c ≥ 48)) && (decide (c ≤ 57)))) (by first | rfl | simp only [wz, wd, ws, Nat.reduceAdd, Nat.reduceSub, Nat.reduceMul, Nat.reduceLeDiff, Nat.reduceEqDiff, Nat.reduceLT, Nat.reduceBEq, reduceIte, reduceCtorEq, Int.reduceToNat, Nat.reduceShiftRight, Nat.reduceAnd, Nat.reduceBneDiff, Nat.reduceBNe]) (fun h1 => ?_) (fun h1 => ?_)
  · rw [ite_t h1] at h
    refine .seq ?_
    refine Rw.walk ?_
    simp only [wz, wd, ws, Nat.reduceAdd, Nat.reduceSub, Nat.reduceMul, Nat.reduceLeDiff, Nat.reduceEqDiff, Nat.reduceLT, Nat.reduceBEq, reduceIte, reduceCtorEq, Int.reduceToNat, Nat.reduceShiftRight, Nat.reduceAnd, Nat.reduceBneDiff, Nat.reduceBNe, c61r2, semI.eq_10, semI.eq_11, semI.eq_3, semI.eq_5, semI.eq_7]
    obtain rfl := Option.some.inj h
    refine .ret ?_
    rw [← hR]
    simp only [wz, wd, ws, Nat.reduceAdd, Nat.reduceSub, Nat.reduceMul, Nat.reduceLeDiff, Nat.reduceEqDiff, Nat.reduceLT, Nat.reduceBEq, reduceIte, reduceCtorEq, Int.reduceToNat, Nat.reduceShiftRight, Nat.reduceAnd, Nat.reduceBneDiff, Nat.reduceBNe, rv61]
  · rw [ite_f h1] at h
    refine .skip ?_
    refine .seq ?_
    refine .seq ?_
    refine Rw.walk ?_
    simp only [wz, wd, ws, Nat.reduceAdd, Nat.reduceSub, Nat.reduceMul, Nat.reduceLeDiff, Nat.reduceEqDiff, Nat.reduceLT, Nat.reduceBEq, reduceIte, reduceCtorEq, Int.reduceToNat, Nat.reduceShiftRight, Nat.reduceAnd, Nat.reduceBneDiff, Nat.reduceBNe, c61r3, semI.eq_10, semI.eq_11, semI.eq_3, semI.eq_5, semI.eq_7]
    repeat (refine And.intro ?_ ?_; · first | omega | (intro q; simp only [wz, wd, ws, Nat.reduceAdd, Nat.reduceSub, Nat.reduceMul, Nat.reduceLeDiff, Nat.reduceEqDiff, Nat.reduceLT, Nat.reduceBEq, reduceIte, reduceCtorEq, Int.reduceToNat, Nat.reduceShiftRight, Nat.reduceAnd, Nat.reduceBneDiff, Nat.reduceBNe, q]; done))
    refine .cond (p := ((decide (c ≥ 97)) && (decide (c ≤ 102)))) (by first | rfl | simp only [wz, wd, ws, Nat.reduceAdd, Nat.reduceSub, Nat.reduceMul, Nat.reduceLeDiff, Nat.reduceEqDiff, Nat.reduceLT, Nat.reduceBEq, reduceIte, reduceCtorEq, Int.reduceToNat, Nat.reduceShiftRight, Nat.reduceAnd, Nat.reduceBneDiff, Nat.reduceBNe]) (fun h1 => ?_) (fun h1 => ?_)
    · rw [ite_t h1] at h
      refine .seq ?_
      refine Rw.walk ?_
      simp only [wz, wd, ws, Nat.reduceAdd, Nat.reduceSub, Nat.reduceMul, Nat.reduceLeDiff, Nat.reduceEqDiff, Nat.reduceLT, Nat.reduceBEq, reduceIte, reduceCtorEq, Int.reduceToNat, Nat.reduceShiftRight, Nat.reduceAnd, Nat.reduceBneDiff, Nat.reduceBNe, c61r4, semI.eq_10, semI.eq_11, semI.eq_3, semI.eq_5, semI.eq_7]
      obtain rfl := Option.some.inj h
      refine .ret ?_
      rw [← hR]
      simp only [wz, wd, ws, Nat.reduceAdd, Nat.reduceSub, Nat.reduceMul, Nat.reduceLeDiff, Nat.reduceEqDiff, Nat.reduceLT, Nat.reduceBEq, reduceIte, reduceCtorEq, Int.reduceToNat, Nat.reduceShiftRight, Nat.reduceAnd, Nat.reduceBneDiff, Nat.reduceBNe, rv61]
    · rw [ite_f h1] at h
      refine .skip ?_
      refine .seq ?_
      refine Rw.walk ?_
      simp only [wz, wd, ws, Nat.reduceAdd, Nat.reduceSub, Nat.reduceMul, Nat.reduceLeDiff, Nat.reduceEqDiff, Nat.reduceLT, Nat.reduceBEq, reduceIte, reduceCtorEq, Int.reduceToNat, Nat.reduceShiftRight, Nat.reduceAnd, Nat.reduceBneDiff, Nat.reduceBNe, c61r5, semI.eq_10, semI.eq_11, semI.eq_3, semI.eq_5, semI.eq_7]
      obtain rfl := Option.some.inj h
      refine .ret ?_
      rw [← hR]
      simp only [wz, wd, ws, Nat.reduceAdd, Nat.reduceSub, Nat.reduceMul, Nat.reduceLeDiff, Nat.reduceEqDiff, Nat.reduceLT, Nat.reduceBEq, reduceIte, reduceCtorEq, Int.reduceToNat, Nat.reduceShiftRight, Nat.reduceAnd, Nat.reduceBneDiff, Nat.reduceBNe, rv61]
-- 44 consignor/consignorref01.Bytes
def c44r0 : List Opn := [
  ⟨(some 2), none, .mv (.c (.s (.d (.str []))))⟩, 
  ⟨(some 3), none, .mv (.c (.s (.d (.bool false))))⟩]
def c44r1 : List Opn := [
  ⟨(some 6), none, .bsl 1 []⟩, 
  ⟨(some 4), none, .mv (.t 6)⟩]
def c44r2 : List Opn := [
  ⟨(some 5), none, .mv (.c (.s (.d (.int .i64 0))))⟩]
def c44r3 : List Opn := [
  ⟨(some 7), none, .mv (.t 5)⟩, 
  ⟨(some 8), none, .bin .add (.t 7) (.c (.s (.d (.int .i64 1))))⟩, 
  ⟨(some 9), none, .mv (.t 0)⟩, 
  ⟨(some 10), none, .len .str (.t 9)⟩, 
  ⟨(some 11), none, .bin .lss (.t 8) (.t 10)⟩]
def c44r5 : List Opn := [
  ⟨(some 14), none, .mv (.t 0)⟩, 
  ⟨(some 15), none, .mv (.t 5)⟩, 
  ⟨(some 16), none, .idx .str (.t 14) (.t 15)⟩, 
  ⟨(some 17), none, .call (.fn 61) [(.t 16)]⟩, 
  ⟨(some 18), none, .bin .gtr (.t 17) (.c (.s (.d (.int .i64 15))))⟩, 
  ⟨(some 19), none, .mv (.t 18)⟩, 
  ⟨(some 20), some (19, false), .mv (.t 0)⟩, 
  ⟨(some 21), some (19, false), .mv (.t 5)⟩, 
  ⟨(some 22), some (19, false), .bin .add (.t 21) (.c (.s (.d (.int .i64 1))))⟩, 
  ⟨(some 23), some (19, false), .idx .str (.t 20) (.t 22)⟩, 
  ⟨(some 24), some (19, false), .call (.fn 61) [(.t 23)]⟩, 
  ⟨(some 25), some (19, false), .bin .gtr (.t 24) (.c (.s (.d (.int .i64 15))))⟩, 
  ⟨(some 26), none, .pick (.t 19) (.c (.s (.d (.bool true)))) (.t 25)⟩]
def c44r6 : List Opn := [
  ⟨(some 2), none, .mv (.c (.s (.d (.str []))))⟩, 
  ⟨(some 3), none, .mv (.c (.s (.d (.bool false))))⟩]
def c44r7 : List Opn := [
  ⟨(some 27), none, .mv (.t 4)⟩, 
  ⟨(some 28), none, .mv (.t 0)⟩, 
  ⟨(some 29), none, .mv (.t 5)⟩, 
  ⟨(some 30), none, .idx .str (.t 28) (.t 29)⟩, 
  ⟨(some 31), none, .call (.fn 61) [(.t 30)]⟩, 
  ⟨(some 32), none, .bin .mul (.c (.s (.d (.int .i64 16)))) (.t 31)⟩, 
  ⟨(some 33), none, .mv (.t 0)⟩, 
  ⟨(some 34), none, .mv (.t 5)⟩, 
  ⟨(some 35), none, .bin .add (.t 34) (.c (.s (.d (.int .i64 1))))⟩, 
  ⟨(some 36), none, .idx .str (.t 33) (.t 35)⟩, 
  ⟨(some 37), none, .call (.fn 61) [(.t 36)]⟩, 
  ⟨(some 38), none, .bin .add (.t 32) (.t 37)⟩, 
  ⟨(some 39), none, .cv (.toInt .u8) (.t 38)⟩, 
  ⟨(some 40), none, .bsl 1 [(.t 39)]⟩, 
  ⟨(some 41), none, .app 1 1 false (.t 27) (.t 40)⟩, 
  ⟨(some 4), none, .mv (.t 41)⟩]
def c44r4 : List Opn := [
  ⟨(some 12), none, .mv (.t 5)⟩, 
  ⟨(some 13), none, .bin .add (.t 12) (.c (.s (.d (.int .i64 2))))⟩, 
  ⟨(some 5), none, .mv (.t 13)⟩]
def c44l8 : C := .seq (.seq (.reg c44r3 none [0, 4, 5, 11]) (.cond (.t 11) (.skip) (.exit 0))) (.seq (.blk 1 (.seq (.seq (.reg c44r5 none [0, 4, 5, 26]) (.cond (.t 26) (.seq (.reg c44r6 none [2, 3]) (.ret)) (.skip))) (.reg c44r7 (some [0, 0, 0, 6, 14, 30, 0, 0, 128, 448, 990, 2046, 4094, 8190, 16383, 32767]) [0, 4, 5]))) (.reg c44r4 none [0, 4, 5]))
def c44r8 : List Opn := [
  ⟨(some 42), none, .mv (.t 4)⟩, 
  ⟨(some 43), none, .cv .b2s (.t 42)⟩, 
  ⟨(some 44), none, .mv (.t 0)⟩, 
  ⟨(some 45), none, .len .str (.t 44)⟩, 
  ⟨(some 46), none, .bin .rem (.t 45) (.c (.s (.d (.int .i64 2))))⟩, 
  ⟨(some 47), none, .bin .eql (.t 46) (.c (.s (.d (.int .i64 0))))⟩, 
  ⟨(some 2), none, .mv (.t 43)⟩, 
  ⟨(some 3), none, .mv (.t 47)⟩]
def c44 : C := .seq (.reg c44r0 none [0]) (.seq (.reg c44r1 none [0, 4]) (.seq (.seq (.reg c44r2 none [0, 4, 5]) (.blk 0 (.loop c44l8))) (.seq (.reg c44r8 none [2, 3]) (.ret))))
def k44 : List (Nat × List Nat) := [(8, [2, 3]), (4, [0, 4, 5]), (7, [0, 4, 5]), (6, [2, 3]), (5, [0, 4, 5, 26]), (3, [0, 4, 5, 11]), (2, [0, 4, 5]), (1, [0, 4]), (0, [0])]
theorem cc44 : (Tryd.f44.body).bind (cC Tryd.prog 48 k44) = some c44 := by kernel_rfl
def rv44 : List RV := [.t 2, .t 3]
theorem cr44 : cRVs Tryd.prog Tryd.f44.results.toList = some rv44 := by kernel_rfl
theorem f_ref01_Bytes_l8_ok (s : Str) (y_ : Str × Bool) (R_ : St → Prop) (hR : (Ret Tryd.prog glP [] rv44 (.tup [.s (.d (.str y_.1)), .s (.d (.bool y_.2))])) = R_) : ∀ (m_ : Nat) (i : Int) (b : (List Int)) (res_ : (Int × (List Int)) ⊕ (Str × Bool)) (h : f_ref01_Bytes_l8 s m_ i b = some res_) (k_ : List It) (hx : ∀ s_ : Int × (List Int), res_ = .inl s_ → W Tryd.prog glP 48 k_ ⟨lkT [(0, .b (.s (.d (.str s)))), (4, .b (.s (.own 6 s_.2.length))), (5, .b (.s (.d (.int .i64 s_.1))))], lkG [(6, ⟨1, er (eI .u8) s_.2, false⟩)]⟩ R_) (hr : ∀ z_ : Str × Bool, res_ = .inr z_ → z_ = y_), W Tryd.prog glP 48 (.c c44l8 :: .lp c44l8 :: .blk 0 :: k_) ⟨lkT [(0, .b (.s (.d (.str s)))), (4, .b (.s (.own 6 b.length))), (5, .b (.s (.d (.int .i64 i))))], lkG [(6, ⟨1, er (eI .u8) b, false⟩)]⟩ R_ := by
  intro m_; induction m_ with
  | zero => intro i b res_ h; rw [f_ref01_Bytes_l8.eq_1] at h; cases h
  | succ m_ ih =>
    intro i b res_ h k_ hx hr; rw [f_ref01_Bytes_l8.eq_2] at h; refine W.cdef c44l8.eq_1 ?_
    refine .seq ?_
    refine .seq ?_
    refine Rw.walk ?_
    simp only [wz, wd, ws, Nat.reduceAdd, Nat.reduceSub, Nat.reduceMul, Nat.reduceLeDiff, Nat.reduceEqDiff, Nat.reduceLT, Nat.reduceBEq, reduceIte, reduceCtorEq, Int.reduceToNat, Nat.reduceShiftRight, Nat.reduceAnd, Nat.reduceBneDiff, Nat.reduceBNe, c44r3, semI.eq_10, semI.eq_11, semI.eq_3, semI.eq_5, semI.eq_7]
    refine .cond (p := (decide ((IntKind.i64.wrap (i + 1)) < (s.length : Int)))) (by first | rfl | simp only [wz, wd, ws, Nat.reduceAdd, Nat.reduceSub, Nat.reduceMul, Nat.reduceLeDiff, Nat.reduceEqDiff, Nat.reduceLT, Nat.reduceBEq, reduceIte, reduceCtorEq, Int.reduceToNat, Nat.reduceShiftRight, Nat.reduceAnd, Nat.reduceBneDiff, Nat.reduceBNe]) (fun h1 => ?_) (fun h1 => ?_)
    · rw [ite_t h1] at h
      refine .skip ?_
      refine .seq ?_
      refine .blk ?_
      refine .seq ?_
      refine .seq ?_
      refine Rw.walk ?_
      simp only [wz, wd, ws, Nat.reduceAdd, Nat.reduceSub, Nat.reduceMul, Nat.reduceLeDiff, Nat.reduceEqDiff, Nat.reduceLT, Nat.reduceBEq, reduceIte, reduceCtorEq, Int.reduceToNat, Nat.reduceShiftRight, Nat.reduceAnd, Nat.reduceBneDiff, Nat.reduceBNe, c44r5, semI.eq_10, semI.eq_11, semI.eq_3, semI.eq_5, semI.eq_7]
      obtain ⟨c, e1, h⟩ := Option.bind_eq_some_iff.1 h
      refine Go1.of (sem_idx e1 (by rfl) (by rfl)) ?_
      simp only [wz, wd, ws, Nat.reduceAdd, Nat.reduceSub, Nat.reduceMul, Nat.reduceLeDiff, Nat.reduceEqDiff, Nat.reduceLT, Nat.reduceBEq, reduceIte, reduceCtorEq, Int.reduceToNat, Nat.reduceShiftRight, Nat.reduceAnd, Nat.reduceBneDiff, Nat.reduceBNe, c44r5, semI.eq_10, semI.eq_11, semI.eq_3, semI.eq_5, semI.eq_7]
      obtain ⟨t, e2, h⟩ := Option.bind_eq_some_iff.1 h
      refine call_fun [] false ⟨trivial, trivial, trivial⟩ rfl ?_ (f_ref01_half_ok _ _ e2) (fun _ => rfl) (fun i hi => by cases hi) ?_
      · simp only [wz, wd, ws, Nat.reduceAdd, Nat.reduceSub, Nat.reduceMul, Nat.reduceLeDiff, Nat.reduceEqDiff, Nat.reduceLT, Nat.reduceBEq, reduceIte, reduceCtorEq, Int.reduceToNat, Nat.reduceShiftRight, Nat.reduceAnd, Nat.reduceBneDiff, Nat.reduceBNe]
      simp only [wz, wd, ws, Nat.reduceAdd, Nat.reduceSub, Nat.reduceMul, Nat.reduceLeDiff, Nat.reduceEqDiff, Nat.reduceLT, Nat.reduceBEq, reduceIte, reduceCtorEq, Int.reduceToNat, Nat.reduceShiftRight, Nat.reduceAnd, Nat.reduceBneDiff, Nat.reduceBNe, c44r5, semI.eq_10, semI.eq_11, semI.eq_3, semI.eq_5, semI.eq_7]
      obtain ⟨g3, h⟩ := gd_iff.1 h
      refine Go2.of (se_idxS) ?_
      simp only [wz, wd, ws, Nat.reduceAdd, Nat.reduceSub, Nat.reduceMul, Nat.reduceLeDiff, Nat.reduceEqDiff, Nat.reduceLT, Nat.reduceBEq, reduceIte, reduceCtorEq, Int.reduceToNat, Nat.reduceShiftRight, Nat.reduceAnd, Nat.reduceBneDiff, Nat.reduceBNe, c44r5, semI.eq_10, semI.eq_11, semI.eq_3, semI.eq_5, semI.eq_7]
      repeat (refine And.intro ?_ ?_; · first | omega | exact g3 | (intro q; first | omega | (have q2 := g3 (by simpa using q); omega) | (have q2 := g3 q; omega)) | (intro q; simp only [wz, wd, ws, Nat.reduceAdd, Nat.reduceSub, Nat.reduceMul, Nat.reduceLeDiff, Nat.reduceEqDiff, Nat.reduceLT, Nat.reduceBEq, reduceIte, reduceCtorEq, Int.reduceToNat, Nat.reduceShiftRight, Nat.reduceAnd, Nat.reduceBneDiff, Nat.reduceBNe, q]; done))
      obtain ⟨t2, e4, h⟩ := Option.bind_eq_some_iff.1 h
      refine call_funG [] rfl (by simp only [wz, wd, ws, Nat.reduceAdd, Nat.reduceSub, Nat.reduceMul, Nat.reduceLeDiff, Nat.reduceEqDiff, Nat.reduceLT, Nat.reduceBEq, reduceIte, reduceCtorEq, Int.reduceToNat, Nat.reduceShiftRight, Nat.reduceAnd, Nat.reduceBneDiff, Nat.reduceBNe]) rfl ?_ (fun q => (f_ref01_half_ok _ _ (gx_iff e4 (by simpa using q)))) rfl (fun i hi => by cases hi) ?_
      · simp only [wz, wd, ws, Nat.reduceAdd, Nat.reduceSub, Nat.reduceMul, Nat.reduceLeDiff, Nat.reduceEqDiff, Nat.reduceLT, Nat.reduceBEq, reduceIte, reduceCtorEq, Int.reduceToNat, Nat.reduceShiftRight, Nat.reduceAnd, Nat.reduceBneDiff, Nat.reduceBNe]
      simp only [wz, wd, ws, Nat.reduceAdd, Nat.reduceSub, Nat.reduceMul, Nat.reduceLeDiff, Nat.reduceEqDiff, Nat.reduceLT, Nat.reduceBEq, reduceIte, reduceCtorEq, Int.reduceToNat, Nat.reduceShiftRight, Nat.reduceAnd, Nat.reduceBneDiff, Nat.reduceBNe, c44r5, semI.eq_10, semI.eq_11, semI.eq_3, semI.eq_5, semI.eq_7]
      repeat (refine And.intro ?_ ?_; · first | omega | exact g3 | (intro q; first | omega | (have q2 := g3 (by simpa using q); omega) | (have q2 := g3 q; omega)) | (intro q; simp only [wz, wd, ws, Nat.reduceAdd, Nat.reduceSub, Nat.reduceMul, Nat.reduceLeDiff, Nat.reduceEqDiff, Nat.reduceLT, Nat.reduceBEq, reduceIte, reduceCtorEq, Int.reduceToNat, Nat.reduceShiftRight, Nat.reduceAnd, Nat.reduceBneDiff, Nat.reduceBNe, q]; done))
      refine .cond (p := ((decide (t > 15)) || (decide (t2 > 15)))) (by first | rfl | simp only [wz, wd, ws, Nat.reduceAdd, Nat.reduceSub, Nat.reduceMul, Nat.reduceLeDiff, Nat.reduceEqDiff, Nat.reduceLT, Nat.reduceBEq, reduceIte, reduceCtorEq, Int.reduceToNat, Nat.reduceShiftRight, Nat.reduceAnd, Nat.reduceBneDiff, Nat.reduceBNe]) (fun h1 => ?_) (fun h1 => ?_)
      · rw [ite_t h1] at h
        refine .seq ?_
        refine Rw.walk ?_
        simp only [wz, wd, ws, Nat.reduceAdd, Nat.reduceSub, Nat.reduceMul, Nat.reduceLeDiff, Nat.reduceEqDiff, Nat.reduceLT, Nat.reduceBEq, reduceIte, reduceCtorEq, Int.reduceToNat, Nat.reduceShiftRight, Nat.reduceAnd, Nat.reduceBneDiff, Nat.reduceBNe, c44r6, semI.eq_10, semI.eq_11, semI.eq_3, semI.eq_5, semI.eq_7]
        obtain rfl := Option.some.inj h; obtain rfl := hr _ rfl
        refine .ret ?_
        rw [← hR]
        simp only [wz, wd, ws, Nat.reduceAdd, Nat.reduceSub, Nat.reduceMul, Nat.reduceLeDiff, Nat.reduceEqDiff, Nat.reduceLT, Nat.reduceBEq, reduceIte, reduceCtorEq, Int.reduceToNat, Nat.reduceShiftRight, Nat.reduceAnd, Nat.reduceBneDiff, Nat.reduceBNe, rv44]
      · rw [ite_f h1] at h
        refine .skip ?_
        refine RwD.walk ?_
        simp only [wz, wd, ws, Nat.reduceAdd, Nat.reduceSub, Nat.reduceMul, Nat.reduceLeDiff, Nat.reduceEqDiff, Nat.reduceLT, Nat.reduceBEq, reduceIte, reduceCtorEq, Int.reduceToNat, Nat.reduceShiftRight, Nat.reduceAnd, Nat.reduceBneDiff, Nat.reduceBNe, c44r7, semI.eq_10, semI.eq_11, semI.eq_3, semI.eq_5, semI.eq_7]
        obtain ⟨c2, e5, h⟩ := Option.bind_eq_some_iff.1 h
        refine GoD1.of (sem_idx e5 (by rfl) (by rfl)) ?_
        simp only [wz, wd, ws, Nat.reduceAdd, Nat.reduceSub, Nat.reduceMul, Nat.reduceLeDiff, Nat.reduceEqDiff, Nat.reduceLT, Nat.reduceBEq, reduceIte, reduceCtorEq, Int.reduceToNat, Nat.reduceShiftRight, Nat.reduceAnd, Nat.reduceBneDiff, Nat.reduceBNe, c44r7, semI.eq_10, semI.eq_11, semI.eq_3, semI.eq_5, semI.eq_7]
        obtain ⟨t3, e6, h⟩ := Option.bind_eq_some_iff.1 h
        refine call_fun [] false ⟨trivial, trivial, trivial⟩ rfl ?_ (f_ref01_half_ok _ _ e6) (fun _ => rfl) (fun i hi => by cases hi) ?_
        · simp only [wz, wd, ws, Nat.reduceAdd, Nat.reduceSub, Nat.reduceMul, Nat.reduceLeDiff, Nat.reduceEqDiff, Nat.reduceLT, Nat.reduceBEq, reduceIte, reduceCtorEq, Int.reduceToNat, Nat.reduceShiftRight, Nat.reduceAnd, Nat.reduceBneDiff, Nat.reduceBNe]
        simp only [wz, wd, ws, Nat.reduceAdd, Nat.reduceSub, Nat.reduceMul, Nat.reduceLeDiff, Nat.reduceEqDiff, Nat.reduceLT, Nat.reduceBEq, reduceIte, reduceCtorEq, Int.reduceToNat, Nat.reduceShiftRight, Nat.reduceAnd, Nat.reduceBneDiff, Nat.reduceBNe, c44r7, semI.eq_10, semI.eq_11, semI.eq_3, semI.eq_5, semI.eq_7]
        obtain ⟨c3, e7, h⟩ := Option.bind_eq_some_iff.1 h
        refine GoD1.of (sem_idx e7 (by rfl) (by rfl)) ?_
        simp only [wz, wd, ws, Nat.reduceAdd, Nat.reduceSub, Nat.reduceMul, Nat.reduceLeDiff, Nat.reduceEqDiff, Nat.reduceLT, Nat.reduceBEq, reduceIte, reduceCtorEq, Int.reduceToNat, Nat.reduceShiftRight, Nat.reduceAnd, Nat.reduceBneDiff, Nat.reduceBNe, c44r7, semI.eq_10, semI.eq_11, semI.eq_3, semI.eq_5, semI.eq_7]
        obtain ⟨t4, e8, h⟩ := Option.bind_eq_some_iff.1 h
        refine call_fun [] false ⟨trivial, trivial, trivial⟩ rfl ?_ (f_ref01_half_ok _ _ e8) (fun _ => rfl) (fun i hi => by cases hi) ?_
        · simp only [wz, wd, ws, Nat.reduceAdd, Nat.reduceSub, Nat.reduceMul, Nat.reduceLeDiff, Nat.reduceEqDiff, Nat.reduceLT, Nat.reduceBEq, reduceIte, reduceCtorEq, Int.reduceToNat, Nat.reduceShiftRight, Nat.reduceAnd, Nat.reduceBneDiff, Nat.reduceBNe]
        simp only [wz, wd, ws, Nat.reduceAdd, Nat.reduceSub, Nat.reduceMul, Nat.reduceLeDiff, Nat.reduceEqDiff, Nat.reduceLT, Nat.reduceBEq, reduceIte, reduceCtorEq, Int.reduceToNat, Nat.reduceShiftRight, Nat.reduceAnd, Nat.reduceBneDiff, Nat.reduceBNe, c44r7, semI.eq_10, semI.eq_11, semI.eq_3, semI.eq_5, semI.eq_7]
        refine GoD1.of (sem_bsl (enc := (eI .u8)) (m := ([(IntKind.u8.wrap (IntKind.i64.wrap ((IntKind.i64.wrap (16 * t3)) + t4)))] : List Int)) (eI_len _) (by rfl) (by rfl) (by rfl) ⟨trivial, trivial⟩) ?_
        simp only [wz, wd, ws, Nat.reduceAdd, Nat.reduceSub, Nat.reduceMul, Nat.reduceLeDiff, Nat.reduceEqDiff, Nat.reduceLT, Nat.reduceBEq, reduceIte, reduceCtorEq, Int.reduceToNat, Nat.reduceShiftRight, Nat.reduceAnd, Nat.reduceBneDiff, Nat.reduceBNe, c44r7, semI.eq_10, semI.eq_11, semI.eq_3, semI.eq_5, semI.eq_7]
        obtain ⟨g9, h⟩ := gd_iff.1 h
        refine GoD1.of (sem_app (enc := (eI .u8)) (l := b) (m := ([(IntKind.u8.wrap (IntKind.i64.wrap ((IntKind.i64.wrap (16 * t3)) + t4)))] : List Int)) (eI_len _) (by rfl) (by rfl) (newV_own (m := ([(IntKind.u8.wrap (IntKind.i64.wrap ((IntKind.i64.wrap (16 * t3)) + t4)))] : List Int)) (by rfl) (by rfl))) ?_
        simp only [wz, wd, ws, Nat.reduceAdd, Nat.reduceSub, Nat.reduceMul, Nat.reduceLeDiff, Nat.reduceEqDiff, Nat.reduceLT, Nat.reduceBEq, reduceIte, reduceCtorEq, Int.reduceToNat, Nat.reduceShiftRight, Nat.reduceAnd, Nat.reduceBneDiff, Nat.reduceBNe, c44r7, semI.eq_10, semI.eq_11, semI.eq_3, semI.eq_5, semI.eq_7]
        repeat (refine And.intro ?_ ?_; · first | omega | (intro q; simp only [wz, wd, ws, Nat.reduceAdd, Nat.reduceSub, Nat.reduceMul, Nat.reduceLeDiff, Nat.reduceEqDiff, Nat.reduceLT, Nat.reduceBEq, reduceIte, reduceCtorEq, Int.reduceToNat, Nat.reduceShiftRight, Nat.reduceAnd, Nat.reduceBneDiff, Nat.reduceBNe, q]; done))
        refine .eblk ?_
        refine Rw.walk ?_
        simp only [wz, wd, ws, Nat.reduceAdd, Nat.reduceSub, Nat.reduceMul, Nat.reduceLeDiff, Nat.reduceEqDiff, Nat.reduceLT, Nat.reduceBEq, reduceIte, reduceCtorEq, Int.reduceToNat, Nat.reduceShiftRight, Nat.reduceAnd, Nat.reduceBneDiff, Nat.reduceBNe, c44r4, semI.eq_10, semI.eq_11, semI.eq_3, semI.eq_5, semI.eq_7]
        refine .lp ?_
        refine .weak (Imp.co [] _ _ ?_ ?_ ?_ ?_ ?_) (ih (IntKind.i64.wrap (i + 2)) (b ++ ([(IntKind.u8.wrap (IntKind.i64.wrap ((IntKind.i64.wrap (16 * t3)) + t4)))] : List Int)) _ h k_ hx hr) <;> simp only [wz, wd, ws, Nat.reduceAdd, Nat.reduceSub, Nat.reduceMul, Nat.reduceLeDiff, Nat.reduceEqDiff, Nat.reduceLT, Nat.reduceBEq, reduceIte, reduceCtorEq, Int.reduceToNat, Nat.reduceShiftRight, Nat.reduceAnd, Nat.reduceBneDiff, Nat.reduceBNe, wi, er_nil]
    · rw [ite_f h1] at h
      refine .exit rfl ?_
      obtain rfl := Option.some.inj h
      refine .weak (Imp.co [] _ _ ?_ ?_ ?_ ?_ ?_) (hx _ rfl) <;> simp only [wz, wd, ws, Nat.reduceAdd, Nat.reduceSub, Nat.reduceMul, Nat.reduceLeDiff, Nat.reduceEqDiff, Nat.reduceLT, Nat.reduceBEq, reduceIte, reduceCtorEq, Int.reduceToNat, Nat.reduceShiftRight, Nat.reduceAnd, Nat.reduceBneDiff, Nat.reduceBNe, wi, er_nil]
theorem f_ref01_Bytes_ok (s : Str) (y_ : Str × Bool) (h : f_ref01_Bytes s = some y_) : Fun Tryd.prog glP 44 [.b (.s (.d (.str s)))] (.tup [.s (.d (.str y_.1)), .s (.d (.bool y_.2))]) := by
  refine fun_walk [] Tryd.func44 Tryd.ntmps44 cc44 cr44 (by kernel_rfl) (by simp only [List.length_cons, List.length_nil]; decide) ?_
  generalize hR : Ret _ _ _ _ _ = R_
  simp only [wz, wd, ws, Nat.reduceAdd, Nat.reduceSub, Nat.reduceMul, Nat.reduceLeDiff, Nat.reduceEqDiff, Nat.reduceLT, Nat.reduceBEq, reduceIte, reduceCtorEq, Int.reduceToNat, Nat.reduceShiftRight, Nat.reduceAnd, Nat.reduceBneDiff, Nat.reduceBNe]
  unfold f_ref01_Bytes at h; unfold c44
  refine .seq ?_
  refine Rw.walk ?_
  simp only [wz, wd, ws, Nat.reduceAdd, Nat.reduceSub, Nat.reduceMul, Nat.reduceLeDiff, Nat.reduceEqDiff, Nat.reduceLT, Nat.reduceBEq, reduceIte, reduceCtorEq, Int.reduceToNat, Nat.reduceShiftRight, Nat.reduceAnd, Nat.reduceBneDiff, Nat.reduceBNe, c44r0, semI.eq_10, semI.eq_11, semI.eq_3, semI.eq_5, semI.eq_7]
  refine .seq ?_
  refine Rw.walk ?_
  simp only [wz, wd, ws, Nat.reduceAdd, Nat.reduceSub, Nat.reduceMul, Nat.reduceLeDiff, Nat.reduceEqDiff, Nat.reduceLT, Nat.reduceBEq, reduceIte, reduceCtorEq, Int.reduceToNat, Nat.reduceShiftRight, Nat.reduceAnd, Nat.reduceBneDiff, Nat.reduceBNe, c44r1, semI.eq_10, semI.eq_11, semI.eq_3, semI.eq_5, semI.eq_7]
  refine Go1.of (sem_bsl (enc := (eI .u8)) (m := ([] : List Int)) (eI_len _) (by rfl) (by rfl) (by rfl) trivial) ?_
  simp only [wz, wd, ws, Nat.reduceAdd, Nat.reduceSub, Nat.reduceMul, Nat.reduceLeDiff, Nat.reduceEqDiff, Nat.reduceLT, Nat.reduceBEq, reduceIte, reduceCtorEq, Int.reduceToNat, Nat.reduceShiftRight, Nat.reduceAnd, Nat.reduceBneDiff, Nat.reduceBNe, c44r1, semI.eq_10, semI.eq_11, semI.eq_3, semI.eq_5, semI.eq_7]
  refine .seq ?_
  refine .seq ?_
  refine Rw.walk ?_
  simp only [wz, wd, ws, Nat.reduceAdd, Nat.reduceSub, Nat.reduceMul, Nat.reduceLeDiff, Nat.reduceEqDiff, Nat.reduceLT, Nat.reduceBEq, reduceIte, reduceCtorEq, Int.reduceToNat, Nat.reduceShiftRight, Nat.reduceAnd, Nat.reduceBneDiff, Nat.reduceBNe, c44r2, semI.eq_10, semI.eq_11, semI.eq_3, semI.eq_5, semI.eq_7]
  refine .blk ?_
  obtain ⟨s2, hf, h⟩ := Option.bind_eq_some_iff.1 h
  refine .loop (.weak (Imp.co [] _ _ ?c1 ?c2 ?c3 ?c4 ?c5) (f_ref01_Bytes_l8_ok s _ _ hR _ _ _ _ hf _ ?_ ?_))
  case c1 | c2 | c3 | c4 | c5 => simp only [wz, wd, ws, Nat.reduceAdd, Nat.reduceSub, Nat.reduceMul, Nat.reduceLeDiff, Nat.reduceEqDiff, Nat.reduceLT, Nat.reduceBEq, reduceIte, reduceCtorEq, Int.reduceToNat, Nat.reduceShiftRight, Nat.reduceAnd, Nat.reduceBneDiff, Nat.reduceBNe, wi, er_nil]
  · intro s3 hs; subst hs; dsimp only at h
    refine .seq ?_
    refine Rw.walk ?_
    simp only [wz, wd, ws, Nat.reduceAdd, Nat.reduceSub, Nat.reduceMul, Nat.reduceLeDiff, Nat.reduceEqDiff, Nat.reduceLT, Nat.reduceBEq, reduceIte, reduceCtorEq, Int.reduceToNat, Nat.reduceShiftRight, Nat.reduceAnd, Nat.reduceBneDiff, Nat.reduceBNe, c44r8, semI.eq_10, semI.eq_11, semI.eq_3, semI.eq_5, semI.eq_7]
    refine Go1.of (sem_b2s (n := s3.2) (rowsV_own (m := s3.2) (by rfl) (by rfl))) ?_
    simp only [wz, wd, ws, Nat.reduceAdd, Nat.reduceSub, Nat.reduceMul, Nat.reduceLeDiff, Nat.reduceEqDiff, Nat.reduceLT, Nat.reduceBEq, reduceIte, reduceCtorEq, Int.reduceToNat, Nat.reduceShiftRight, Nat.reduceAnd, Nat.reduceBneDiff, Nat.reduceBNe, c44r8, semI.eq_10, semI.eq_11, semI.eq_3, semI.eq_5, semI.eq_7]
    repeat (refine And.intro ?_ ?_; · first | omega | (intro q; simp only [wz, wd, ws, Nat.reduceAdd, Nat.reduceSub, Nat.reduceMul, Nat.reduceLeDiff, Nat.reduceEqDiff, Nat.reduceLT, Nat.reduceBEq, reduceIte, reduceCtorEq, Int.reduceToNat, Nat.reduceShiftRight, Nat.reduceAnd, Nat.reduceBneDiff, Nat.reduceBNe, q]; done))
    obtain rfl := Option.some.inj h
    refine .ret ?_
    rw [← hR]
    simp only [wz, wd, ws, Nat.reduceAdd, Nat.reduceSub, Nat.reduceMul, Nat.reduceLeDiff, Nat.reduceEqDiff, Nat.reduceLT, Nat.reduceBEq, reduceIte, reduceCtorEq, Int.reduceToNat, Nat.reduceShiftRight, Nat.reduceAnd, Nat.reduceBneDiff, Nat.reduceBNe, rv44]
  · intro z hz; subst hz; dsimp only at h
    exact Option.some.inj h
-- 23 consignor/consignorref02.Parse
def c23r0 : List Opn := [
  ⟨(some 2), none, .mv (.c (.s (.d (.str []))))⟩, 
  ⟨(some 3), none, .mv (.c (.s (.d (.bool false))))⟩]
def c23r1 : List Opn := [
  ⟨(some 4), none, .mv (.t 0)⟩, 
  ⟨(some 5), none, .len .str (.t 4)⟩, 
  ⟨(some 6), none, .bin .neq (.t 5) (.c (.s (.d (.int .i64 71))))⟩, 
  ⟨(some 7), none, .mv (.t 6)⟩, 
  ⟨(some 8), some (7, false), .mv (.t 0)⟩, 
  ⟨(some 9), some (7, false), .slc .str (.t 8) none (some (.c (.s (.d (.int .i64 7))))) none⟩, 
  ⟨(some 10), some (7, false), .bin .neq (.t 9) (.c (.s (.d (.str [115, 104, 97, 50, 53, 54, 58]))))⟩, 
  ⟨(some 11), none, .pick (.t 7) (.c (.s (.d (.bool true)))) (.t 10)⟩]
def c23r2 : List Opn := [
  ⟨(some 2), none, .mv (.c (.s (.d (.str []))))⟩, 
  ⟨(some 3), none, .mv (.c (.s (.d (.bool false))))⟩]
def c23r3 : List Opn := [
  ⟨(some 12), none, .mv (.t 0)⟩, 
  ⟨(some 13), none, .slc .str (.t 12) (some (.c (.s (.d (.int .i64 7))))) none none⟩, 
  ⟨(some 14), none, .call (.fn 44) [(.t 13)]⟩, 
  ⟨(some 15), none, .ext (.t 14) 0⟩, 
  ⟨(some 16), none, .ext (.t 14) 1⟩, 
  ⟨(some 2), none, .mv (.t 15)⟩, 
  ⟨(some 3), none, .mv (.t 16)⟩]
def c23 : C := .seq (.reg c23r0 none [0]) (.seq (.seq (.reg c23r1 none [0, 11]) (.cond (.t 11) (.seq (.reg c23r2 none [2, 3]) (.ret)) (.skip))) (.seq (.reg c23r3 none [2, 3]) (.ret)))
def k23 : List (Nat × List Nat) := [(3, [2, 3]), (2, [2, 3]), (1, [0, 11]), (0, [0])]
theorem cc23 : (Tryd.f23.body).bind (cC Tryd.prog 17 k23) = some c23 := by kernel_rfl
def rv23 : List RV := [.t 2, .t 3]
theorem cr23 : cRVs Tryd.prog Tryd.f23.results.toList = some rv23 := by kernel_rfl
theorem f_ref02_Parse_ok (s : Str) (y_ : Str × Bool) (h : f_ref02_Parse s = some y_) : Fun Tryd.prog glP 23 [.b (.s (.d (.str s)))] (.tup [.s (.d (.str y_.1)), .s (.d (.bool y_.2))]) := by
  refine fun_walk [] Tryd.func23 Tryd.ntmps23 cc23 cr23 (by kernel_rfl) (by simp only [List.length_cons, List.length_nil]; decide) ?_
  generalize hR : Ret _ _ _ _ _ = R_
  simp only [wz, wd, ws, Nat.reduceAdd, Nat.reduceSub, Nat.reduceMul, Nat.reduceLeDiff, Nat.reduceEqDiff, Nat.reduceLT, Nat.reduceBEq, reduceIte, reduceCtorEq, Int.reduceToNat, Nat.reduceShiftRight, Nat.reduceAnd, Nat.reduceBneDiff, Nat.reduceBNe]
  unfold f_ref02_Parse at h; unfold c23
  refine .seq ?_
  refine Rw.walk ?_
  simp only [wz, wd, ws, Nat.reduceAdd, Nat.reduceSub, Nat.reduceMul, Nat.reduceLeDiff, Nat.reduceEqDiff, Nat.reduceLT, Nat.reduceBEq, reduceIte, reduceCtorEq, Int.reduceToNat, Nat.reduceShiftRight, Nat.reduceAnd, Nat.reduceBneDiff, Nat.reduceBNe, c23r0, semI.eq_10, semI.eq_11, semI.eq_3, semI.eq_5, semI.eq_7]
  refine .seq ?_
  refine .seq ?_
  refine Rw.walk ?_
  obtain ⟨g1, h⟩ := gd_iff.1 h
  simp only [wz, wd, ws, Nat.reduceAdd, Nat.reduceSub, Nat.reduceMul, Nat.reduceLeDiff, Nat.reduceEqDiff, Nat.reduceLT, Nat.reduceBEq, reduceIte, reduceCtorEq, Int.reduceToNat, Nat.reduceShiftRight, Nat.reduceAnd, Nat.reduceBneDiff, Nat.reduceBNe, c23r1, semI.eq_10, semI.eq_11, semI.eq_3, semI.eq_5, semI.eq_7]
  repeat (refine And.intro ?_ ?_; · first | omega | exact g1 | (intro q; first | omega | (have q2 := g1 (by simpa using q); omega) | (have q2 := g1 q; omega)) | (intro q; simp only [wz, wd, ws, Nat.reduceAdd, Nat.reduceSub, Nat.reduceMul, Nat.reduceLeDiff, Nat.reduceEqDiff, Nat.reduceLT, Nat.reduceBEq, reduceIte, reduceCtorEq, Int.reduceToNat, Nat.reduceShiftRight, Nat.reduceAnd, Nat.reduceBneDiff, Nat.reduceBNe, q]; done))
  refine .cond (p := (((s.length : Int) != 71) || (!((cut s 0 7) == ([115, 104, 97, 50, 53, 54, 58] : Str))))) (by first | rfl | simp only [wz, wd, ws, Nat.reduceAdd, Nat.reduceSub, Nat.reduceMul, Nat.reduceLeDiff, Nat.reduceEqDiff, Nat.reduceLT, Nat.reduceBEq, reduceIte, reduceCtorEq, Int.reduceToNat, Nat.reduceShiftRight, Nat.reduceAnd, Nat.reduceBneDiff, Nat.reduceBNe]) (fun h1 => ?_) (fun h1 => ?_)
  · rw [ite_t h1] at h
    refine .seq ?_
    refine Rw.walk ?_
    simp only [wz, wd, ws, Nat.reduceAdd, Nat.reduceSub, Nat.reduceMul, Nat.reduceLeDiff, Nat.reduceEqDiff, Nat.reduceLT, Nat.reduceBEq, reduceIte, reduceCtorEq, Int.reduceToNat, Nat.reduceShiftRight, Nat.reduceAnd, Nat.reduceBneDiff, Nat.reduceBNe, c23r2, semI.eq_10, semI.eq_11, semI.eq_3, semI.eq_5, semI.eq_7]
    obtain rfl := Option.some.inj h
    refine .ret ?_
    rw [← hR]
    simp only [wz, wd, ws, Nat.reduceAdd, Nat.reduceSub, Nat.reduceMul, Nat.reduceLeDiff, Nat.reduceEqDiff, Nat.reduceLT, Nat.reduceBEq, reduceIte, reduceCtorEq, Int.reduceToNat, Nat.reduceShiftRight, Nat.reduceAnd, Nat.reduceBneDiff, Nat.reduceBNe, rv23]
  · rw [ite_f h1] at h
    refine .skip ?_
    refine .seq ?_
    refine Rw.walk ?_
    obtain ⟨g2, h⟩ := gd_iff.1 h
    simp only [wz, wd, ws, Nat.reduceAdd, Nat.reduceSub, Nat.reduceMul, Nat.reduceLeDiff, Nat.reduceEqDiff, Nat.reduceLT, Nat.reduceBEq, reduceIte, reduceCtorEq, Int.reduceToNat, Nat.reduceShiftRight, Nat.reduceAnd, Nat.reduceBneDiff, Nat.reduceBNe, c23r3, semI.eq_10, semI.eq_11, semI.eq_3, semI.eq_5, semI.eq_7]
    repeat (refine And.intro ?_ ?_; · first | omega | (intro q; simp only [wz, wd, ws, Nat.reduceAdd, Nat.reduceSub, Nat.reduceMul, Nat.reduceLeDiff, Nat.reduceEqDiff, Nat.reduceLT, Nat.reduceBEq, reduceIte, reduceCtorEq, Int.reduceToNat, Nat.reduceShiftRight, Nat.reduceAnd, Nat.reduceBneDiff, Nat.reduceBNe, q]; done))
    obtain ⟨t, e3, h⟩ := Option.bind_eq_some_iff.1 h
    refine call_fun [] false ⟨trivial, trivial, trivial⟩ rfl ?_ (f_ref01_Bytes_ok _ _ e3) (fun _ => rfl) (fun i hi => by cases hi) ?_
    · simp only [wz, wd, ws, Nat.reduceAdd, Nat.reduceSub, Nat.reduceMul, Nat.reduceLeDiff, Nat.reduceEqDiff, Nat.reduceLT, Nat.reduceBEq, reduceIte, reduceCtorEq, Int.reduceToNat, Nat.reduceShiftRight, Nat.reduceAnd, Nat.reduceBneDiff, Nat.reduceBNe]
    simp only [wz, wd, ws, Nat.reduceAdd, Nat.reduceSub, Nat.reduceMul, Nat.reduceLeDiff, Nat.reduceEqDiff, Nat.reduceLT, Nat.reduceBEq, reduceIte, reduceCtorEq, Int.reduceToNat, Nat.reduceShiftRight, Nat.reduceAnd, Nat.reduceBneDiff, Nat.reduceBNe, c23r3, semI.eq_10, semI.eq_11, semI.eq_3, semI.eq_5, semI.eq_7]
    obtain rfl := Option.some.inj h
    refine .ret ?_
    rw [← hR]
    simp only [wz, wd, ws, Nat.reduceAdd, Nat.reduceSub, Nat.reduceMul, Nat.reduceLeDiff, Nat.reduceEqDiff, Nat.reduceLT, Nat.reduceBEq, reduceIte, reduceCtorEq, Int.reduceToNat, Nat.reduceShiftRight, Nat.reduceAnd, Nat.reduceBneDiff, Nat.reduceBNe, rv23]
end Go.Proofs.YtjhgkcbhllomaaaDoor.V
end
