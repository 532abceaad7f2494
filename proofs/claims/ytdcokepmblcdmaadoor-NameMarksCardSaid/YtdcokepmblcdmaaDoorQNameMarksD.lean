/- Go functions compute what Lean functions do. -/
import Derived.Test.YtdcokepmblcdmaaDoorProg
import Derived.Test.YtdcokepmblcdmaaDoorQNameMarksB
import Derived.Test.YtdcokepmblcdmaaDoorQNameMarksC
import Derived.KernelRfl
section
/- Go functions compute what Lean functions do. -/
namespace Go.Proofs.YtdcokepmblcdmaaDoor.V
open Go Go.RowKit
set_option linter.unusedVariables false
set_option linter.unusedSimpArgs false
set_option maxHeartbeats 1000000
-- 25 consignor/consignorref03.Part
def c25r0 : List Opn := [
  ⟨(some 2), none, .mv (.c (.s (.d (.bool false))))⟩]
def c25r1 : List Opn := [
  ⟨(some 5), none, .mv (.t 0)⟩, 
  ⟨(some 6), none, .bin .eql (.t 5) (.c (.s (.d (.str []))))⟩, 
  ⟨(some 7), none, .mv (.t 6)⟩, 
  ⟨(some 8), some (7, false), .mv (.t 0)⟩, 
  ⟨(some 9), some (7, false), .idx .str (.t 8) (.c (.s (.d (.int .i64 0))))⟩, 
  ⟨(some 10), some (7, false), .call (.fn 27) [(.t 9)]⟩, 
  ⟨(some 11), some (7, false), .un .not (.t 10)⟩, 
  ⟨(some 12), none, .pick (.t 7) (.c (.s (.d (.bool true)))) (.t 11)⟩, 
  ⟨(some 13), none, .mv (.t 12)⟩, 
  ⟨(some 14), some (13, false), .mv (.t 0)⟩, 
  ⟨(some 15), some (13, false), .mv (.t 0)⟩, 
  ⟨(some 16), some (13, false), .len .str (.t 15)⟩, 
  ⟨(some 17), some (13, false), .bin .sub (.t 16) (.c (.s (.d (.int .i64 1))))⟩, 
  ⟨(some 18), some (13, false), .idx .str (.t 14) (.t 17)⟩, 
  ⟨(some 19), some (13, false), .call (.fn 27) [(.t 18)]⟩, 
  ⟨(some 20), some (13, false), .un .not (.t 19)⟩, 
  ⟨(some 21), none, .pick (.t 13) (.c (.s (.d (.bool true)))) (.t 20)⟩]
def c25r2 : List Opn := [
  ⟨(some 2), none, .mv (.c (.s (.d (.bool false))))⟩]
def c25r3 : List Opn := [
  ⟨(some 3), none, .mv (.c (.s (.d (.str []))))⟩]
def c25r4 : List Opn := [
  ⟨(some 4), none, .mv (.c (.s (.d (.int .i64 0))))⟩]
def c25r5 : List Opn := [
  ⟨(some 22), none, .mv (.t 4)⟩, 
  ⟨(some 23), none, .mv (.t 0)⟩, 
  ⟨(some 24), none, .len .str (.t 23)⟩, 
  ⟨(some 25), none, .bin .lss (.t 22) (.t 24)⟩]
def c25r7 : List Opn := [
  ⟨(some 28), none, .mv (.t 0)⟩, 
  ⟨(some 29), none, .mv (.t 4)⟩, 
  ⟨(some 30), none, .idx .str (.t 28) (.t 29)⟩, 
  ⟨(some 31), none, .call (.fn 27) [(.t 30)]⟩, 
  ⟨(some 32), none, .un .not (.t 31)⟩]
def c25r8 : List Opn := [
  ⟨(some 33), none, .mv (.t 3)⟩, 
  ⟨(some 34), none, .mv (.t 0)⟩, 
  ⟨(some 35), none, .mv (.t 4)⟩, 
  ⟨(some 36), none, .mv (.t 4)⟩, 
  ⟨(some 37), none, .bin .add (.t 36) (.c (.s (.d (.int .i64 1))))⟩, 
  ⟨(some 38), none, .slc .str (.t 34) (some (.t 35)) (some (.t 37)) none⟩, 
  ⟨(some 39), none, .bin .add (.t 33) (.t 38)⟩, 
  ⟨(some 3), none, .mv (.t 39)⟩]
def c25r9 : List Opn := [
  ⟨(some 40), none, .mv (.t 3)⟩, 
  ⟨(some 41), none, .bin .neq (.t 40) (.c (.s (.d (.str []))))⟩, 
  ⟨(some 42), none, .mv (.t 41)⟩, 
  ⟨(some 43), some (42, true), .mv (.t 3)⟩, 
  ⟨(some 44), some (42, true), .call (.fn 35) [(.t 43)]⟩, 
  ⟨(some 45), some (42, true), .un .not (.t 44)⟩, 
  ⟨(some 46), none, .pick (.t 42) (.t 45) (.c (.s (.d (.bool false))))⟩]
def c25r10 : List Opn := [
  ⟨(some 2), none, .mv (.c (.s (.d (.bool false))))⟩]
def c25r11 : List Opn := [
  ⟨(some 3), none, .mv (.c (.s (.d (.str []))))⟩]
def c25r6 : List Opn := [
  ⟨(some 26), none, .mv (.t 4)⟩, 
  ⟨(some 27), none, .bin .add (.t 26) (.c (.s (.d (.int .i64 1))))⟩, 
  ⟨(some 4), none, .mv (.t 27)⟩]
def c25l12 : C := .seq (.seq (.reg c25r5 none [0, 3, 4, 25]) (.cond (.t 25) (.skip) (.exit 0))) (.seq (.blk 1 (.seq (.seq (.reg c25r7 none [0, 3, 4, 32]) (.cond (.t 32) (.seq (.reg c25r8 none [0, 3, 4]) (.exit 1)) (.skip))) (.seq (.seq (.reg c25r9 none [0, 4, 46]) (.cond (.t 46) (.seq (.reg c25r10 none [2]) (.ret)) (.skip))) (.reg c25r11 none [0, 3, 4])))) (.reg c25r6 none [0, 3, 4]))
def c25r12 : List Opn := [
  ⟨(some 2), none, .mv (.c (.s (.d (.bool true))))⟩]
def c25 : C := .seq (.reg c25r0 none [0]) (.seq (.seq (.reg c25r1 none [0, 21]) (.cond (.t 21) (.seq (.reg c25r2 none [2]) (.ret)) (.skip))) (.seq (.reg c25r3 none [0, 3]) (.seq (.seq (.reg c25r4 none [0, 3, 4]) (.blk 0 (.loop c25l12))) (.seq (.reg c25r12 none [2]) (.ret)))))
def k25 : List (Nat × List Nat) := [(12, [2]), (6, [0, 3, 4]), (11, [0, 3, 4]), (10, [2]), (9, [0, 4, 46]), (8, [0, 3, 4]), (7, [0, 3, 4, 32]), (5, [0, 3, 4, 25]), (4, [0, 3, 4]), (3, [0, 3]), (2, [2]), (1, [0, 21]), (0, [0])]
theorem cc25 : (Tryd.f25.body).bind (cC Tryd.prog 47 k25) = some c25 := by kernel_rfl
def rv25 : List RV := [.t 2]
theorem cr25 : cRVs Tryd.prog Tryd.f25.results.toList = some rv25 := by kernel_rfl
theorem f_ref03_Part_l12_ok (s : Str) (y_ : Bool) (R_ : St → Prop) (hR : (Ret Tryd.prog glP [] rv25 (.b (.s (.d (.bool y_))))) = R_) : ∀ (m_ : Nat) (now : Str) (i : Int) (res_ : (Str × Int) ⊕ (Bool)) (h : f_ref03_Part_l12 s m_ now i = some res_) (k_ : List It) (hx : ∀ s_ : Str × Int, res_ = .inl s_ → W Tryd.prog glP 47 k_ ⟨lkT [(0, .b (.s (.d (.str s)))), (3, .b (.s (.d (.str s_.1)))), (4, .b (.s (.d (.int .i64 s_.2))))], lkG []⟩ R_) (hr : ∀ z_ : Bool, res_ = .inr z_ → z_ = y_), W Tryd.prog glP 47 (.c c25l12 :: .lp c25l12 :: .blk 0 :: k_) ⟨lkT [(0, .b (.s (.d (.str s)))), (3, .b (.s (.d (.str now)))), (4, .b (.s (.d (.int .i64 i))))], lkG []⟩ R_ := by
  intro m_; induction m_ with
  | zero => intro now i res_ h; rw [f_ref03_Part_l12.eq_1] at h; cases h
  | succ m_ ih =>
    intro now i res_ h k_ hx hr; rw [f_ref03_Part_l12.eq_2] at h; refine W.cdef c25l12.eq_1 ?_
    refine .seq ?_
    refine .seq ?_
    refine Rw.walk ?_
    simp only [wz, wd, ws, Nat.reduceAdd, Nat.reduceSub, Nat.reduceMul, Nat.reduceLeDiff, Nat.reduceEqDiff, Nat.reduceLT, Nat.reduceBEq, reduceIte, reduceCtorEq, Int.reduceToNat, Nat.reduceShiftRight, Nat.reduceAnd, Nat.reduceBneDiff, Nat.reduceBNe, c25r5, semI.eq_10, semI.eq_11, semI.eq_3, semI.eq_5, semI.eq_7]
    refine .cond (p := (decide (i < (s.length : Int)))) (by first | rfl | simp only [wz, wd, ws, Nat.reduceAdd, Nat.reduceSub, Nat.reduceMul, Nat.reduceLeDiff, Nat.reduceEqDiff, Nat.reduceLT, Nat.reduceBEq, reduceIte, reduceCtorEq, Int.reduceToNat, Nat.reduceShiftRight, Nat.reduceAnd, Nat.reduceBneDiff, Nat.reduceBNe]) (fun h1 => ?_) (fun h1 => ?_)
    · rw [ite_t h1] at h
      refine .skip ?_
      refine .seq ?_
      refine .blk ?_
      refine .seq ?_
      refine .seq ?_
      refine Rw.walk ?_
      simp only [wz, wd, ws, Nat.reduceAdd, Nat.reduceSub, Nat.reduceMul, Nat.reduceLeDiff, Nat.reduceEqDiff, Nat.reduceLT, Nat.reduceBEq, reduceIte, reduceCtorEq, Int.reduceToNat, Nat.reduceShiftRight, Nat.reduceAnd, Nat.reduceBneDiff, Nat.reduceBNe, c25r7, semI.eq_10, semI.eq_11, semI.eq_3, semI.eq_5, semI.eq_7]
      obtain ⟨c, e5, h⟩ := Option.bind_eq_some_iff.1 h
      refine Go1.of (sem_idx e5 (by rfl) (by rfl)) ?_
      simp only [wz, wd, ws, Nat.reduceAdd, Nat.reduceSub, Nat.reduceMul, Nat.reduceLeDiff, Nat.reduceEqDiff, Nat.reduceLT, Nat.reduceBEq, reduceIte, reduceCtorEq, Int.reduceToNat, Nat.reduceShiftRight, Nat.reduceAnd, Nat.reduceBneDiff, Nat.reduceBNe, c25r7, semI.eq_10, semI.eq_11, semI.eq_3, semI.eq_5, semI.eq_7]
      obtain ⟨t3, e6, h⟩ := Option.bind_eq_some_iff.1 h
      refine call_fun [] false ⟨trivial, trivial, trivial⟩ rfl ?_ (f_ref03_small_ok _ _ e6) (fun _ => rfl) (fun i hi => by cases hi) ?_
      · simp only [wz, wd, ws, Nat.reduceAdd, Nat.reduceSub, Nat.reduceMul, Nat.reduceLeDiff, Nat.reduceEqDiff, Nat.reduceLT, Nat.reduceBEq, reduceIte, reduceCtorEq, Int.reduceToNat, Nat.reduceShiftRight, Nat.reduceAnd, Nat.reduceBneDiff, Nat.reduceBNe]
      simp only [wz, wd, ws, Nat.reduceAdd, Nat.reduceSub, Nat.reduceMul, Nat.reduceLeDiff, Nat.reduceEqDiff, Nat.reduceLT, Nat.reduceBEq, reduceIte, reduceCtorEq, Int.reduceToNat, Nat.reduceShiftRight, Nat.reduceAnd, Nat.reduceBneDiff, Nat.reduceBNe, c25r7, semI.eq_10, semI.eq_11, semI.eq_3, semI.eq_5, semI.eq_7]
      refine .cond (p := (!t3)) (by first | rfl | simp only [wz, wd, ws, Nat.reduceAdd, Nat.reduceSub, Nat.reduceMul, Nat.reduceLeDiff, Nat.reduceEqDiff, Nat.reduceLT, Nat.reduceBEq, reduceIte, reduceCtorEq, Int.reduceToNat, Nat.reduceShiftRight, Nat.reduceAnd, Nat.reduceBneDiff, Nat.reduceBNe]) (fun h1 => ?_) (fun h1 => ?_)
      · rw [ite_t h1] at h
        refine .seq ?_
        refine Rw.walk ?_
        obtain ⟨g7, h⟩ := gd_iff.1 h
        obtain ⟨g8, h⟩ := gd_iff.1 h
        simp only [wz, wd, ws, Nat.reduceAdd, Nat.reduceSub, Nat.reduceMul, Nat.reduceLeDiff, Nat.reduceEqDiff, Nat.reduceLT, Nat.reduceBEq, reduceIte, reduceCtorEq, Int.reduceToNat, Nat.reduceShiftRight, Nat.reduceAnd, Nat.reduceBneDiff, Nat.reduceBNe, c25r8, semI.eq_10, semI.eq_11, semI.eq_3, semI.eq_5, semI.eq_7]
        repeat (refine And.intro ?_ ?_; · first | omega | (intro q; simp only [wz, wd, ws, Nat.reduceAdd, Nat.reduceSub, Nat.reduceMul, Nat.reduceLeDiff, Nat.reduceEqDiff, Nat.reduceLT, Nat.reduceBEq, reduceIte, reduceCtorEq, Int.reduceToNat, Nat.reduceShiftRight, Nat.reduceAnd, Nat.reduceBneDiff, Nat.reduceBNe, q]; done))
        refine .exit rfl ?_
        refine Rw.walk ?_
        simp only [wz, wd, ws, Nat.reduceAdd, Nat.reduceSub, Nat.reduceMul, Nat.reduceLeDiff, Nat.reduceEqDiff, Nat.reduceLT, Nat.reduceBEq, reduceIte, reduceCtorEq, Int.reduceToNat, Nat.reduceShiftRight, Nat.reduceAnd, Nat.reduceBneDiff, Nat.reduceBNe, c25r6, semI.eq_10, semI.eq_11, semI.eq_3, semI.eq_5, semI.eq_7]
        refine .lp ?_
        refine .weak (Imp.co [] _ _ ?_ ?_ ?_ ?_ ?_) (ih (now ++ (cut s i (IntKind.i64.wrap (i + 1)))) (IntKind.i64.wrap (i + 1)) _ h k_ hx hr) <;> simp only [wz, wd, ws, Nat.reduceAdd, Nat.reduceSub, Nat.reduceMul, Nat.reduceLeDiff, Nat.reduceEqDiff, Nat.reduceLT, Nat.reduceBEq, reduceIte, reduceCtorEq, Int.reduceToNat, Nat.reduceShiftRight, Nat.reduceAnd, Nat.reduceBneDiff, Nat.reduceBNe, wi, er_nil]
      · rw [ite_f h1] at h
        refine .skip ?_
        refine .seq ?_
        refine .seq ?_
        refine Rw.walk ?_
        simp only [wz, wd, ws, Nat.reduceAdd, Nat.reduceSub, Nat.reduceMul, Nat.reduceLeDiff, Nat.reduceEqDiff, Nat.reduceLT, Nat.reduceBEq, reduceIte, reduceCtorEq, Int.reduceToNat, Nat.reduceShiftRight, Nat.reduceAnd, Nat.reduceBneDiff, Nat.reduceBNe, c25r9, semI.eq_10, semI.eq_11, semI.eq_3, semI.eq_5, semI.eq_7]
        obtain ⟨t4, e9, h⟩ := Option.bind_eq_some_iff.1 h
        refine call_funG [] rfl (by simp only [wz, wd, ws, Nat.reduceAdd, Nat.reduceSub, Nat.reduceMul, Nat.reduceLeDiff, Nat.reduceEqDiff, Nat.reduceLT, Nat.reduceBEq, reduceIte, reduceCtorEq, Int.reduceToNat, Nat.reduceShiftRight, Nat.reduceAnd, Nat.reduceBneDiff, Nat.reduceBNe]) rfl ?_ (fun q => (f_ref03_mark_ok _ _ (gx_iff e9 (by simpa using q)))) rfl (fun i hi => by cases hi) ?_
        · simp only [wz, wd, ws, Nat.reduceAdd, Nat.reduceSub, Nat.reduceMul, Nat.reduceLeDiff, Nat.reduceEqDiff, Nat.reduceLT, Nat.reduceBEq, reduceIte, reduceCtorEq, Int.reduceToNat, Nat.reduceShiftRight, Nat.reduceAnd, Nat.reduceBneDiff, Nat.reduceBNe]
        simp only [wz, wd, ws, Nat.reduceAdd, Nat.reduceSub, Nat.reduceMul, Nat.reduceLeDiff, Nat.reduceEqDiff, Nat.reduceLT, Nat.reduceBEq, reduceIte, reduceCtorEq, Int.reduceToNat, Nat.reduceShiftRight, Nat.reduceAnd, Nat.reduceBneDiff, Nat.reduceBNe, c25r9, semI.eq_10, semI.eq_11, semI.eq_3, semI.eq_5, semI.eq_7]
        repeat (refine And.intro ?_ ?_; · first | omega | (intro q; simp only [wz, wd, ws, Nat.reduceAdd, Nat.reduceSub, Nat.reduceMul, Nat.reduceLeDiff, Nat.reduceEqDiff, Nat.reduceLT, Nat.reduceBEq, reduceIte, reduceCtorEq, Int.reduceToNat, Nat.reduceShiftRight, Nat.reduceAnd, Nat.reduceBneDiff, Nat.reduceBNe, q]; done))
        refine .cond (p := ((!(now == ([] : Str))) && (!t4))) (by first | rfl | simp only [wz, wd, ws, Nat.reduceAdd, Nat.reduceSub, Nat.reduceMul, Nat.reduceLeDiff, Nat.reduceEqDiff, Nat.reduceLT, Nat.reduceBEq, reduceIte, reduceCtorEq, Int.reduceToNat, Nat.reduceShiftRight, Nat.reduceAnd, Nat.reduceBneDiff, Nat.reduceBNe]) (fun h1 => ?_) (fun h1 => ?_)
        · rw [ite_t h1] at h
          refine .seq ?_
          refine Rw.walk ?_
          simp only [wz, wd, ws, Nat.reduceAdd, Nat.reduceSub, Nat.reduceMul, Nat.reduceLeDiff, Nat.reduceEqDiff, Nat.reduceLT, Nat.reduceBEq, reduceIte, reduceCtorEq, Int.reduceToNat, Nat.reduceShiftRight, Nat.reduceAnd, Nat.reduceBneDiff, Nat.reduceBNe, c25r10, semI.eq_10, semI.eq_11, semI.eq_3, semI.eq_5, semI.eq_7]
          obtain rfl := Option.some.inj h; obtain rfl := hr _ rfl
          refine .ret ?_
          rw [← hR]
          simp only [wz, wd, ws, Nat.reduceAdd, Nat.reduceSub, Nat.reduceMul, Nat.reduceLeDiff, Nat.reduceEqDiff, Nat.reduceLT, Nat.reduceBEq, reduceIte, reduceCtorEq, Int.reduceToNat, Nat.reduceShiftRight, Nat.reduceAnd, Nat.reduceBneDiff, Nat.reduceBNe, rv25]
        · rw [ite_f h1] at h
          refine .skip ?_
          refine Rw.walk ?_
          simp only [wz, wd, ws, Nat.reduceAdd, Nat.reduceSub, Nat.reduceMul, Nat.reduceLeDiff, Nat.reduceEqDiff, Nat.reduceLT, Nat.reduceBEq, reduceIte, reduceCtorEq, Int.reduceToNat, Nat.reduceShiftRight, Nat.reduceAnd, Nat.reduceBneDiff, Nat.reduceBNe, c25r11, semI.eq_10, semI.eq_11, semI.eq_3, semI.eq_5, semI.eq_7]
          refine .eblk ?_
          refine Rw.walk ?_
          simp only [wz, wd, ws, Nat.reduceAdd, Nat.reduceSub, Nat.reduceMul, Nat.reduceLeDiff, Nat.reduceEqDiff, Nat.reduceLT, Nat.reduceBEq, reduceIte, reduceCtorEq, Int.reduceToNat, Nat.reduceShiftRight, Nat.reduceAnd, Nat.reduceBneDiff, Nat.reduceBNe, c25r6, semI.eq_10, semI.eq_11, semI.eq_3, semI.eq_5, semI.eq_7]
          refine .lp ?_
          refine .weak (Imp.co [] _ _ ?_ ?_ ?_ ?_ ?_) (ih ([] : Str) (IntKind.i64.wrap (i + 1)) _ h k_ hx hr) <;> simp only [wz, wd, ws, Nat.reduceAdd, Nat.reduceSub, Nat.reduceMul, Nat.reduceLeDiff, Nat.reduceEqDiff, Nat.reduceLT, Nat.reduceBEq, reduceIte, reduceCtorEq, Int.reduceToNat, Nat.reduceShiftRight, Nat.reduceAnd, Nat.reduceBneDiff, Nat.reduceBNe, wi, er_nil]
    · rw [ite_f h1] at h
      refine .exit rfl ?_
      obtain rfl := Option.some.inj h
      refine .weak (Imp.co [] _ _ ?_ ?_ ?_ ?_ ?_) (hx _ rfl) <;> simp only [wz, wd, ws, Nat.reduceAdd, Nat.reduceSub, Nat.reduceMul, Nat.reduceLeDiff, Nat.reduceEqDiff, Nat.reduceLT, Nat.reduceBEq, reduceIte, reduceCtorEq, Int.reduceToNat, Nat.reduceShiftRight, Nat.reduceAnd, Nat.reduceBneDiff, Nat.reduceBNe, wi, er_nil]
theorem f_ref03_Part_ok (s : Str) (y_ : Bool) (h : f_ref03_Part s = some y_) : Fun Tryd.prog glP 25 [.b (.s (.d (.str s)))] (.b (.s (.d (.bool y_)))) := by
  refine fun_walk [] Tryd.func25 Tryd.ntmps25 cc25 cr25 (by kernel_rfl) (by simp only [List.length_cons, List.length_nil]; decide) ?_
  generalize hR : Ret _ _ _ _ _ = R_
  simp only [wz, wd, ws, Nat.reduceAdd, Nat.reduceSub, Nat.reduceMul, Nat.reduceLeDiff, Nat.reduceEqDiff, Nat.reduceLT, Nat.reduceBEq, reduceIte, reduceCtorEq, Int.reduceToNat, Nat.reduceShiftRight, Nat.reduceAnd, Nat.reduceBneDiff, Nat.reduceBNe]
  unfold f_ref03_Part at h; unfold c25
  refine .seq ?_
  refine Rw.walk ?_
  simp only [wz, wd, ws, Nat.reduceAdd, Nat.reduceSub, Nat.reduceMul, Nat.reduceLeDiff, Nat.reduceEqDiff, Nat.reduceLT, Nat.reduceBEq, reduceIte, reduceCtorEq, Int.reduceToNat, Nat.reduceShiftRight, Nat.reduceAnd, Nat.reduceBneDiff, Nat.reduceBNe, c25r0, semI.eq_10, semI.eq_11, semI.eq_3, semI.eq_5, semI.eq_7]
  refine .seq ?_
  refine .seq ?_
  refine Rw.walk ?_
  simp only [wz, wd, ws, Nat.reduceAdd, Nat.reduceSub, Nat.reduceMul, Nat.reduceLeDiff, Nat.reduceEqDiff, Nat.reduceLT, Nat.reduceBEq, reduceIte, reduceCtorEq, Int.reduceToNat, Nat.reduceShiftRight, Nat.reduceAnd, Nat.reduceBneDiff, Nat.reduceBNe, c25r1, semI.eq_10, semI.eq_11, semI.eq_3, semI.eq_5, semI.eq_7]
  obtain ⟨g1, h⟩ := gd_iff.1 h
  refine Go2.of (se_idxS) ?_
  simp only [wz, wd, ws, Nat.reduceAdd, Nat.reduceSub, Nat.reduceMul, Nat.reduceLeDiff, Nat.reduceEqDiff, Nat.reduceLT, Nat.reduceBEq, reduceIte, reduceCtorEq, Int.reduceToNat, Nat.reduceShiftRight, Nat.reduceAnd, Nat.reduceBneDiff, Nat.reduceBNe, c25r1, semI.eq_10, semI.eq_11, semI.eq_3, semI.eq_5, semI.eq_7]
  repeat (refine And.intro ?_ ?_; · first | omega | exact g1 | (intro q; first | omega | (have q2 := g1 (by simpa using q); omega) | (have q2 := g1 q; omega) | (have q2 := g1 (by simpa using q); simp only [List.length_append, List.length_cons, List.length_nil] at q2 ⊢; omega)) | (intro q; simp only [wz, wd, ws, Nat.reduceAdd, Nat.reduceSub, Nat.reduceMul, Nat.reduceLeDiff, Nat.reduceEqDiff, Nat.reduceLT, Nat.reduceBEq, reduceIte, reduceCtorEq, Int.reduceToNat, Nat.reduceShiftRight, Nat.reduceAnd, Nat.reduceBneDiff, Nat.reduceBNe, q]; done))
  obtain ⟨t, e2, h⟩ := Option.bind_eq_some_iff.1 h
  refine call_funG [] rfl (by simp only [wz, wd, ws, Nat.reduceAdd, Nat.reduceSub, Nat.reduceMul, Nat.reduceLeDiff, Nat.reduceEqDiff, Nat.reduceLT, Nat.reduceBEq, reduceIte, reduceCtorEq, Int.reduceToNat, Nat.reduceShiftRight, Nat.reduceAnd, Nat.reduceBneDiff, Nat.reduceBNe]) rfl ?_ (fun q => (f_ref03_small_ok _ _ (gx_iff e2 (by simpa using q)))) rfl (fun i hi => by cases hi) ?_
  · simp only [wz, wd, ws, Nat.reduceAdd, Nat.reduceSub, Nat.reduceMul, Nat.reduceLeDiff, Nat.reduceEqDiff, Nat.reduceLT, Nat.reduceBEq, reduceIte, reduceCtorEq, Int.reduceToNat, Nat.reduceShiftRight, Nat.reduceAnd, Nat.reduceBneDiff, Nat.reduceBNe]
  simp only [wz, wd, ws, Nat.reduceAdd, Nat.reduceSub, Nat.reduceMul, Nat.reduceLeDiff, Nat.reduceEqDiff, Nat.reduceLT, Nat.reduceBEq, reduceIte, reduceCtorEq, Int.reduceToNat, Nat.reduceShiftRight, Nat.reduceAnd, Nat.reduceBneDiff, Nat.reduceBNe, c25r1, semI.eq_10, semI.eq_11, semI.eq_3, semI.eq_5, semI.eq_7]
  repeat (refine And.intro ?_ ?_; · first | omega | exact g1 | (intro q; first | omega | (have q2 := g1 (by simpa using q); omega) | (have q2 := g1 q; omega) | (have q2 := g1 (by simpa using q); simp only [List.length_append, List.length_cons, List.length_nil] at q2 ⊢; omega)) | (intro q; simp only [wz, wd, ws, Nat.reduceAdd, Nat.reduceSub, Nat.reduceMul, Nat.reduceLeDiff, Nat.reduceEqDiff, Nat.reduceLT, Nat.reduceBEq, reduceIte, reduceCtorEq, Int.reduceToNat, Nat.reduceShiftRight, Nat.reduceAnd, Nat.reduceBneDiff, Nat.reduceBNe, q]; done))
  obtain ⟨g3, h⟩ := gd_iff.1 h
  refine Go2.of (se_idxS) ?_
  simp only [wz, wd, ws, Nat.reduceAdd, Nat.reduceSub, Nat.reduceMul, Nat.reduceLeDiff, Nat.reduceEqDiff, Nat.reduceLT, Nat.reduceBEq, reduceIte, reduceCtorEq, Int.reduceToNat, Nat.reduceShiftRight, Nat.reduceAnd, Nat.reduceBneDiff, Nat.reduceBNe, c25r1, semI.eq_10, semI.eq_11, semI.eq_3, semI.eq_5, semI.eq_7]
  repeat (refine And.intro ?_ ?_; · first | omega | exact g1 | exact g3 | (intro q; first | omega | (have q2 := g1 (by simpa using q); omega) | (have q2 := g1 q; omega) | (have q2 := g3 (by simpa using q); omega) | (have q2 := g3 q; omega) | (have q2 := g1 (by simpa using q); simp only [List.length_append, List.length_cons, List.length_nil] at q2 ⊢; omega) | (have q2 := g3 (by simpa using q); simp only [List.length_append, List.length_cons, List.length_nil] at q2 ⊢; omega)) | (intro q; simp only [wz, wd, ws, Nat.reduceAdd, Nat.reduceSub, Nat.reduceMul, Nat.reduceLeDiff, Nat.reduceEqDiff, Nat.reduceLT, Nat.reduceBEq, reduceIte, reduceCtorEq, Int.reduceToNat, Nat.reduceShiftRight, Nat.reduceAnd, Nat.reduceBneDiff, Nat.reduceBNe, q]; done))
  obtain ⟨t2, e4, h⟩ := Option.bind_eq_some_iff.1 h
  refine call_funG [] rfl (by simp only [wz, wd, ws, Nat.reduceAdd, Nat.reduceSub, Nat.reduceMul, Nat.reduceLeDiff, Nat.reduceEqDiff, Nat.reduceLT, Nat.reduceBEq, reduceIte, reduceCtorEq, Int.reduceToNat, Nat.reduceShiftRight, Nat.reduceAnd, Nat.reduceBneDiff, Nat.reduceBNe]) rfl ?_ (fun q => (f_ref03_small_ok _ _ (gx_iff e4 (by simpa using q)))) rfl (fun i hi => by cases hi) ?_
  · simp only [wz, wd, ws, Nat.reduceAdd, Nat.reduceSub, Nat.reduceMul, Nat.reduceLeDiff, Nat.reduceEqDiff, Nat.reduceLT, Nat.reduceBEq, reduceIte, reduceCtorEq, Int.reduceToNat, Nat.reduceShiftRight, Nat.reduceAnd, Nat.reduceBneDiff, Nat.reduceBNe]
  simp only [wz, wd, ws, Nat.reduceAdd, Nat.reduceSub, Nat.reduceMul, Nat.reduceLeDiff, Nat.reduceEqDiff, Nat.reduceLT, Nat.reduceBEq, reduceIte, reduceCtorEq, Int.reduceToNat, Nat.reduceShiftRight, Nat.reduceAnd, Nat.reduceBneDiff, Nat.reduceBNe, c25r1, semI.eq_10, semI.eq_11, semI.eq_3, semI.eq_5, semI.eq_7]
  repeat (refine And.intro ?_ ?_; · first | omega | exact g1 | exact g3 | (intro q; first | omega | (have q2 := g1 (by simpa using q); omega) | (have q2 := g1 q; omega) | (have q2 := g3 (by simpa using q); omega) | (have q2 := g3 q; omega) | (have q2 := g1 (by simpa using q); simp only [List.length_append, List.length_cons, List.length_nil] at q2 ⊢; omega) | (have q2 := g3 (by simpa using q); simp only [List.length_append, List.length_cons, List.length_nil] at q2 ⊢; omega)) | (intro q; simp only [wz, wd, ws, Nat.reduceAdd, Nat.reduceSub, Nat.reduceMul, Nat.reduceLeDiff, Nat.reduceEqDiff, Nat.reduceLT, Nat.reduceBEq, reduceIte, reduceCtorEq, Int.reduceToNat, Nat.reduceShiftRight, Nat.reduceAnd, Nat.reduceBneDiff, Nat.reduceBNe, q]; done))
  refine .cond (p := (((s == ([] : Str)) || (!t)) || (!t2))) (by first | rfl | simp only [wz, wd, ws, Nat.reduceAdd, Nat.reduceSub, Nat.reduceMul, Nat.reduceLeDiff, Nat.reduceEqDiff, Nat.reduceLT, Nat.reduceBEq, reduceIte, reduceCtorEq, Int.reduceToNat, Nat.reduceShiftRight, Nat.reduceAnd, Nat.reduceBneDiff, Nat.reduceBNe]) (fun h1 => ?_) (fun h1 => ?_)
  · rw [ite_t h1] at h
    refine .seq ?_
    refine Rw.walk ?_
    simp only [wz, wd, ws, Nat.reduceAdd, Nat.reduceSub, Nat.reduceMul, Nat.reduceLeDiff, Nat.reduceEqDiff, Nat.reduceLT, Nat.reduceBEq, reduceIte, reduceCtorEq, Int.reduceToNat, Nat.reduceShiftRight, Nat.reduceAnd, Nat.reduceBneDiff, Nat.reduceBNe, c25r2, semI.eq_10, semI.eq_11, semI.eq_3, semI.eq_5, semI.eq_7]
    obtain rfl := Option.some.inj h
    refine .ret ?_
    rw [← hR]
    simp only [wz, wd, ws, Nat.reduceAdd, Nat.reduceSub, Nat.reduceMul, Nat.reduceLeDiff, Nat.reduceEqDiff, Nat.reduceLT, Nat.reduceBEq, reduceIte, reduceCtorEq, Int.reduceToNat, Nat.reduceShiftRight, Nat.reduceAnd, Nat.reduceBneDiff, Nat.reduceBNe, rv25]
  · rw [ite_f h1] at h
    refine .skip ?_
    refine .seq ?_
    refine Rw.walk ?_
    simp only [wz, wd, ws, Nat.reduceAdd, Nat.reduceSub, Nat.reduceMul, Nat.reduceLeDiff, Nat.reduceEqDiff, Nat.reduceLT, Nat.reduceBEq, reduceIte, reduceCtorEq, Int.reduceToNat, Nat.reduceShiftRight, Nat.reduceAnd, Nat.reduceBneDiff, Nat.reduceBNe, c25r3, semI.eq_10, semI.eq_11, semI.eq_3, semI.eq_5, semI.eq_7]
    refine .seq ?_
    refine .seq ?_
    refine Rw.walk ?_
    simp only [wz, wd, ws, Nat.reduceAdd, Nat.reduceSub, Nat.reduceMul, Nat.reduceLeDiff, Nat.reduceEqDiff, Nat.reduceLT, Nat.reduceBEq, reduceIte, reduceCtorEq, Int.reduceToNat, Nat.reduceShiftRight, Nat.reduceAnd, Nat.reduceBneDiff, Nat.reduceBNe, c25r4, semI.eq_10, semI.eq_11, semI.eq_3, semI.eq_5, semI.eq_7]
    refine .blk ?_
    obtain ⟨s2, hf, h⟩ := Option.bind_eq_some_iff.1 h
    refine .loop (.weak (Imp.co [] _ _ ?c1 ?c2 ?c3 ?c4 ?c5) (f_ref03_Part_l12_ok s _ _ hR _ _ _ _ hf _ ?_ ?_))
    case c1 | c2 | c3 | c4 | c5 => simp only [wz, wd, ws, Nat.reduceAdd, Nat.reduceSub, Nat.reduceMul, Nat.reduceLeDiff, Nat.reduceEqDiff, Nat.reduceLT, Nat.reduceBEq, reduceIte, reduceCtorEq, Int.reduceToNat, Nat.reduceShiftRight, Nat.reduceAnd, Nat.reduceBneDiff, Nat.reduceBNe, wi, er_nil]
    · intro s3 hs; subst hs; dsimp only at h
      refine .seq ?_
      refine Rw.walk ?_
      simp only [wz, wd, ws, Nat.reduceAdd, Nat.reduceSub, Nat.reduceMul, Nat.reduceLeDiff, Nat.reduceEqDiff, Nat.reduceLT, Nat.reduceBEq, reduceIte, reduceCtorEq, Int.reduceToNat, Nat.reduceShiftRight, Nat.reduceAnd, Nat.reduceBneDiff, Nat.reduceBNe, c25r12, semI.eq_10, semI.eq_11, semI.eq_3, semI.eq_5, semI.eq_7]
      obtain rfl := Option.some.inj h
      refine .ret ?_
      rw [← hR]
      simp only [wz, wd, ws, Nat.reduceAdd, Nat.reduceSub, Nat.reduceMul, Nat.reduceLeDiff, Nat.reduceEqDiff, Nat.reduceLT, Nat.reduceBEq, reduceIte, reduceCtorEq, Int.reduceToNat, Nat.reduceShiftRight, Nat.reduceAnd, Nat.reduceBneDiff, Nat.reduceBNe, rv25]
    · intro z hz; subst hz; dsimp only at h
      exact Option.some.inj h
-- 12 consignor/consignorref03.Repo
def c12r0 : List Opn := [
  ⟨(some 2), none, .mv (.c (.s (.d (.bool false))))⟩]
def c12r1 : List Opn := [
  ⟨(some 5), none, .mv (.t 0)⟩, 
  ⟨(some 6), none, .call (.fn 24) [(.t 5), (.c (.s (.d (.int .u8 47))))]⟩, 
  ⟨(some 7), none, .len (.sl 0) (.t 6)⟩, 
  ⟨(some 8), none, .mv (.c (.s (.d (.int .i64 0))))⟩]
def c12r2 : List Opn := [
  ⟨(some 9), none, .bin .lss (.t 8) (.t 7)⟩]
def c12r3 : List Opn := [
  ⟨(some 10), none, .iadr (.sl 1) (.t 6) (.t 8)⟩, 
  ⟨(some 11), none, .load false 1 (.t 10)⟩, 
  ⟨(some 4), none, .mv (.t 11)⟩]
def c12r4 : List Opn := [
  ⟨(some 12), none, .mv (.t 4)⟩, 
  ⟨(some 13), none, .call (.fn 25) [(.t 12)]⟩, 
  ⟨(some 14), none, .un .not (.t 13)⟩]
def c12r5 : List Opn := [
  ⟨(some 2), none, .mv (.c (.s (.d (.bool false))))⟩]
def c12r6 : List Opn := [
  ⟨(some 15), none, .bin .add (.t 8) (.c (.s (.d (.int .i64 1))))⟩, 
  ⟨(some 8), none, .mv (.t 15)⟩]
def c12l7 : C := .seq (.reg c12r2 none [0, 6, 7, 8, 9]) (.seq (.cond (.t 9) (.skip) (.exit 0)) (.seq (.blk 1 (.seq (.reg c12r3 none [0, 4, 6, 7, 8]) (.seq (.reg c12r4 none [0, 6, 7, 8, 14]) (.cond (.t 14) (.seq (.reg c12r5 none [2]) (.ret)) (.skip))))) (.reg c12r6 none [0, 6, 7, 8])))
def c12r7 : List Opn := [
  ⟨(some 16), none, .mv (.t 0)⟩, 
  ⟨(some 17), none, .len .str (.t 16)⟩, 
  ⟨(some 18), none, .bin .leq (.t 17) (.c (.s (.d (.int .i64 128))))⟩, 
  ⟨(some 2), none, .mv (.t 18)⟩]
def c12 : C := .seq (.reg c12r0 none [0]) (.seq (.seq (.reg c12r1 none [0, 6, 7, 8]) (.blk 0 (.loop c12l7))) (.seq (.reg c12r7 none [2]) (.ret)))
def k12 : List (Nat × List Nat) := [(7, [2]), (6, [0, 6, 7, 8]), (5, [2]), (4, [0, 6, 7, 8, 14]), (3, [0, 4, 6, 7, 8]), (2, [0, 6, 7, 8, 9]), (1, [0, 6, 7, 8]), (0, [0])]
theorem cc12 : (Tryd.f12.body).bind (cC Tryd.prog 19 k12) = some c12 := by kernel_rfl
def rv12 : List RV := [.t 2]
theorem cr12 : cRVs Tryd.prog Tryd.f12.results.toList = some rv12 := by kernel_rfl
theorem f_ref03_Repo_l7_ok (s : Str) (t : (List Str)) (y_ : Bool) (R_ : St → Prop) (hR : (Ret Tryd.prog glP [] rv12 (.b (.s (.d (.bool y_))))) = R_) : ∀ (m_ : Nat) (v8 : Int) (res_ : (Int) ⊕ (Bool)) (h : f_ref03_Repo_l7 s t m_ v8 = some res_) (k_ : List It) (hx : ∀ s_ : Int, res_ = .inl s_ → W Tryd.prog glP 19 k_ ⟨lkT [(0, .b (.s (.d (.str s)))), (6, .b (.s (.own 6 t.length))), (7, .b (.s (.d (.int .i64 (t.length : Int))))), (8, .b (.s (.d (.int .i64 s_))))], lkG [(6, ⟨1, er eS t, false⟩)]⟩ R_) (hr : ∀ z_ : Bool, res_ = .inr z_ → z_ = y_), W Tryd.prog glP 19 (.c c12l7 :: .lp c12l7 :: .blk 0 :: k_) ⟨lkT [(0, .b (.s (.d (.str s)))), (6, .b (.s (.own 6 t.length))), (7, .b (.s (.d (.int .i64 (t.length : Int))))), (8, .b (.s (.d (.int .i64 v8))))], lkG [(6, ⟨1, er eS t, false⟩)]⟩ R_ := by
  intro m_; induction m_ with
  | zero => intro v8 res_ h; rw [f_ref03_Repo_l7.eq_1] at h; cases h
  | succ m_ ih =>
    intro v8 res_ h k_ hx hr; rw [f_ref03_Repo_l7.eq_2] at h; refine W.cdef c12l7.eq_1 ?_
    refine .seq ?_
    refine Rw.walk ?_
    simp only [wz, wd, ws, Nat.reduceAdd, Nat.reduceSub, Nat.reduceMul, Nat.reduceLeDiff, Nat.reduceEqDiff, Nat.reduceLT, Nat.reduceBEq, reduceIte, reduceCtorEq, Int.reduceToNat, Nat.reduceShiftRight, Nat.reduceAnd, Nat.reduceBneDiff, Nat.reduceBNe, c12r2, semI.eq_10, semI.eq_11, semI.eq_3, semI.eq_5, semI.eq_7]
    refine .seq ?_
    refine .cond (p := (decide (v8 < (t.length : Int)))) (by first | rfl | simp only [wz, wd, ws, Nat.reduceAdd, Nat.reduceSub, Nat.reduceMul, Nat.reduceLeDiff, Nat.reduceEqDiff, Nat.reduceLT, Nat.reduceBEq, reduceIte, reduceCtorEq, Int.reduceToNat, Nat.reduceShiftRight, Nat.reduceAnd, Nat.reduceBneDiff, Nat.reduceBNe]) (fun h1 => ?_) (fun h1 => ?_)
    · rw [ite_t h1] at h
      refine .skip ?_
      refine .seq ?_
      refine .blk ?_
      refine .seq ?_
      refine Rw.walk ?_
      simp only [wz, wd, ws, Nat.reduceAdd, Nat.reduceSub, Nat.reduceMul, Nat.reduceLeDiff, Nat.reduceEqDiff, Nat.reduceLT, Nat.reduceBEq, reduceIte, reduceCtorEq, Int.reduceToNat, Nat.reduceShiftRight, Nat.reduceAnd, Nat.reduceBneDiff, Nat.reduceBNe, c12r3, semI.eq_10, semI.eq_11, semI.eq_3, semI.eq_5, semI.eq_7]
      obtain ⟨x, e2, h⟩ := Option.bind_eq_some_iff.1 h
      refine Go1.of (sem_iadrO (l := t) e2 (by rfl) (by rfl) (by rfl)) ?_
      simp only [wz, wd, ws, Nat.reduceAdd, Nat.reduceSub, Nat.reduceMul, Nat.reduceLeDiff, Nat.reduceEqDiff, Nat.reduceLT, Nat.reduceBEq, reduceIte, reduceCtorEq, Int.reduceToNat, Nat.reduceShiftRight, Nat.reduceAnd, Nat.reduceBneDiff, Nat.reduceBNe, c12r3, semI.eq_10, semI.eq_11, semI.eq_3, semI.eq_5, semI.eq_7, er_get e2]
      refine .seq ?_
      refine Rw.walk ?_
      simp only [wz, wd, ws, Nat.reduceAdd, Nat.reduceSub, Nat.reduceMul, Nat.reduceLeDiff, Nat.reduceEqDiff, Nat.reduceLT, Nat.reduceBEq, reduceIte, reduceCtorEq, Int.reduceToNat, Nat.reduceShiftRight, Nat.reduceAnd, Nat.reduceBneDiff, Nat.reduceBNe, c12r4, semI.eq_10, semI.eq_11, semI.eq_3, semI.eq_5, semI.eq_7, er_get e2]
      obtain ⟨t2, e3, h⟩ := Option.bind_eq_some_iff.1 h
      refine call_fun [] false ⟨trivial, trivial, trivial⟩ rfl ?_ (f_ref03_Part_ok _ _ e3) (fun _ => rfl) (fun i hi => by cases hi) ?_
      · simp only [wz, wd, ws, Nat.reduceAdd, Nat.reduceSub, Nat.reduceMul, Nat.reduceLeDiff, Nat.reduceEqDiff, Nat.reduceLT, Nat.reduceBEq, reduceIte, reduceCtorEq, Int.reduceToNat, Nat.reduceShiftRight, Nat.reduceAnd, Nat.reduceBneDiff, Nat.reduceBNe, er_get e2]
      simp only [wz, wd, ws, Nat.reduceAdd, Nat.reduceSub, Nat.reduceMul, Nat.reduceLeDiff, Nat.reduceEqDiff, Nat.reduceLT, Nat.reduceBEq, reduceIte, reduceCtorEq, Int.reduceToNat, Nat.reduceShiftRight, Nat.reduceAnd, Nat.reduceBneDiff, Nat.reduceBNe, c12r4, semI.eq_10, semI.eq_11, semI.eq_3, semI.eq_5, semI.eq_7, er_get e2]
      refine .cond (p := (!t2)) (by first | rfl | simp only [wz, wd, ws, Nat.reduceAdd, Nat.reduceSub, Nat.reduceMul, Nat.reduceLeDiff, Nat.reduceEqDiff, Nat.reduceLT, Nat.reduceBEq, reduceIte, reduceCtorEq, Int.reduceToNat, Nat.reduceShiftRight, Nat.reduceAnd, Nat.reduceBneDiff, Nat.reduceBNe]) (fun h1 => ?_) (fun h1 => ?_)
      · rw [ite_t h1] at h
        refine .seq ?_
        refine Rw.walk ?_
        simp only [wz, wd, ws, Nat.reduceAdd, Nat.reduceSub, Nat.reduceMul, Nat.reduceLeDiff, Nat.reduceEqDiff, Nat.reduceLT, Nat.reduceBEq, reduceIte, reduceCtorEq, Int.reduceToNat, Nat.reduceShiftRight, Nat.reduceAnd, Nat.reduceBneDiff, Nat.reduceBNe, c12r5, semI.eq_10, semI.eq_11, semI.eq_3, semI.eq_5, semI.eq_7, er_get e2]
        obtain rfl := Option.some.inj h; obtain rfl := hr _ rfl
        refine .ret ?_
        rw [← hR]
        simp only [wz, wd, ws, Nat.reduceAdd, Nat.reduceSub, Nat.reduceMul, Nat.reduceLeDiff, Nat.reduceEqDiff, Nat.reduceLT, Nat.reduceBEq, reduceIte, reduceCtorEq, Int.reduceToNat, Nat.reduceShiftRight, Nat.reduceAnd, Nat.reduceBneDiff, Nat.reduceBNe, rv12, er_get e2]
      · rw [ite_f h1] at h
        refine .skip ?_
        refine .eblk ?_
        refine Rw.walk ?_
        simp only [wz, wd, ws, Nat.reduceAdd, Nat.reduceSub, Nat.reduceMul, Nat.reduceLeDiff, Nat.reduceEqDiff, Nat.reduceLT, Nat.reduceBEq, reduceIte, reduceCtorEq, Int.reduceToNat, Nat.reduceShiftRight, Nat.reduceAnd, Nat.reduceBneDiff, Nat.reduceBNe, c12r6, semI.eq_10, semI.eq_11, semI.eq_3, semI.eq_5, semI.eq_7, er_get e2]
        refine .lp ?_
        refine .weak (Imp.co [] _ _ ?_ ?_ ?_ ?_ ?_) (ih (IntKind.i64.wrap (v8 + 1)) _ h k_ hx hr) <;> simp only [wz, wd, ws, Nat.reduceAdd, Nat.reduceSub, Nat.reduceMul, Nat.reduceLeDiff, Nat.reduceEqDiff, Nat.reduceLT, Nat.reduceBEq, reduceIte, reduceCtorEq, Int.reduceToNat, Nat.reduceShiftRight, Nat.reduceAnd, Nat.reduceBneDiff, Nat.reduceBNe, wi, er_nil]
    · rw [ite_f h1] at h
      refine .exit rfl ?_
      obtain rfl := Option.some.inj h
      refine .weak (Imp.co [] _ _ ?_ ?_ ?_ ?_ ?_) (hx _ rfl) <;> simp only [wz, wd, ws, Nat.reduceAdd, Nat.reduceSub, Nat.reduceMul, Nat.reduceLeDiff, Nat.reduceEqDiff, Nat.reduceLT, Nat.reduceBEq, reduceIte, reduceCtorEq, Int.reduceToNat, Nat.reduceShiftRight, Nat.reduceAnd, Nat.reduceBneDiff, Nat.reduceBNe, wi, er_nil]
theorem f_ref03_Repo_ok (s : Str) (y_ : Bool) (h : f_ref03_Repo s = some y_) : Fun Tryd.prog glP 12 [.b (.s (.d (.str s)))] (.b (.s (.d (.bool y_)))) := by
  refine fun_walk [] Tryd.func12 Tryd.ntmps12 cc12 cr12 (by kernel_rfl) (by simp only [List.length_cons, List.length_nil]; decide) ?_
  generalize hR : Ret _ _ _ _ _ = R_
  simp only [wz, wd, ws, Nat.reduceAdd, Nat.reduceSub, Nat.reduceMul, Nat.reduceLeDiff, Nat.reduceEqDiff, Nat.reduceLT, Nat.reduceBEq, reduceIte, reduceCtorEq, Int.reduceToNat, Nat.reduceShiftRight, Nat.reduceAnd, Nat.reduceBneDiff, Nat.reduceBNe]
  unfold f_ref03_Repo at h; unfold c12
  refine .seq ?_
  refine Rw.walk ?_
  simp only [wz, wd, ws, Nat.reduceAdd, Nat.reduceSub, Nat.reduceMul, Nat.reduceLeDiff, Nat.reduceEqDiff, Nat.reduceLT, Nat.reduceBEq, reduceIte, reduceCtorEq, Int.reduceToNat, Nat.reduceShiftRight, Nat.reduceAnd, Nat.reduceBneDiff, Nat.reduceBNe, c12r0, semI.eq_10, semI.eq_11, semI.eq_3, semI.eq_5, semI.eq_7]
  refine .seq ?_
  refine .seq ?_
  refine Rw.walk ?_
  simp only [wz, wd, ws, Nat.reduceAdd, Nat.reduceSub, Nat.reduceMul, Nat.reduceLeDiff, Nat.reduceEqDiff, Nat.reduceLT, Nat.reduceBEq, reduceIte, reduceCtorEq, Int.reduceToNat, Nat.reduceShiftRight, Nat.reduceAnd, Nat.reduceBneDiff, Nat.reduceBNe, c12r1, semI.eq_10, semI.eq_11, semI.eq_3, semI.eq_5, semI.eq_7]
  obtain ⟨t, e1, h⟩ := Option.bind_eq_some_iff.1 h
  refine call_funO' [] ⟨trivial, trivial, trivial, trivial⟩ rfl ?_ (f_ref03_Split_ok _ _ _ e1) rfl (.inl rfl) ?_
  · simp only [wz, wd, ws, Nat.reduceAdd, Nat.reduceSub, Nat.reduceMul, Nat.reduceLeDiff, Nat.reduceEqDiff, Nat.reduceLT, Nat.reduceBEq, reduceIte, reduceCtorEq, Int.reduceToNat, Nat.reduceShiftRight, Nat.reduceAnd, Nat.reduceBneDiff, Nat.reduceBNe]
  simp only [wz, wd, ws, Nat.reduceAdd, Nat.reduceSub, Nat.reduceMul, Nat.reduceLeDiff, Nat.reduceEqDiff, Nat.reduceLT, Nat.reduceBEq, reduceIte, reduceCtorEq, Int.reduceToNat, Nat.reduceShiftRight, Nat.reduceAnd, Nat.reduceBneDiff, Nat.reduceBNe, c12r1, semI.eq_10, semI.eq_11, semI.eq_3, semI.eq_5, semI.eq_7]
  refine .blk ?_
  obtain ⟨s2, hf, h⟩ := Option.bind_eq_some_iff.1 h
  refine .loop (.weak (Imp.co [] _ _ ?c1 ?c2 ?c3 ?c4 ?c5) (f_ref03_Repo_l7_ok s t _ _ hR _ _ _ hf _ ?_ ?_))
  case c1 | c2 | c3 | c4 | c5 => simp only [wz, wd, ws, Nat.reduceAdd, Nat.reduceSub, Nat.reduceMul, Nat.reduceLeDiff, Nat.reduceEqDiff, Nat.reduceLT, Nat.reduceBEq, reduceIte, reduceCtorEq, Int.reduceToNat, Nat.reduceShiftRight, Nat.reduceAnd, Nat.reduceBneDiff, Nat.reduceBNe, wi, er_nil]
  · intro s3 hs; subst hs; dsimp only at h
    refine .seq ?_
    refine Rw.walk ?_
    simp only [wz, wd, ws, Nat.reduceAdd, Nat.reduceSub, Nat.reduceMul, Nat.reduceLeDiff, Nat.reduceEqDiff, Nat.reduceLT, Nat.reduceBEq, reduceIte, reduceCtorEq, Int.reduceToNat, Nat.reduceShiftRight, Nat.reduceAnd, Nat.reduceBneDiff, Nat.reduceBNe, c12r7, semI.eq_10, semI.eq_11, semI.eq_3, semI.eq_5, semI.eq_7]
    obtain rfl := Option.some.inj h
    refine .ret ?_
    rw [← hR]
    simp only [wz, wd, ws, Nat.reduceAdd, Nat.reduceSub, Nat.reduceMul, Nat.reduceLeDiff, Nat.reduceEqDiff, Nat.reduceLT, Nat.reduceBEq, reduceIte, reduceCtorEq, Int.reduceToNat, Nat.reduceShiftRight, Nat.reduceAnd, Nat.reduceBneDiff, Nat.reduceBNe, rv12]
  · intro z hz; subst hz; dsimp only at h
    exact Option.some.inj h
-- 14 consignor/consignorref03.Tag
def c14r0 : List Opn := [
  ⟨(some 2), none, .mv (.c (.s (.d (.bool false))))⟩]
def c14r1 : List Opn := [
  ⟨(some 3), none, .mv (.c (.s (.d (.int .i64 0))))⟩]
def c14r2 : List Opn := [
  ⟨(some 5), none, .mv (.t 3)⟩, 
  ⟨(some 6), none, .mv (.t 0)⟩, 
  ⟨(some 7), none, .len .str (.t 6)⟩, 
  ⟨(some 8), none, .bin .lss (.t 5) (.t 7)⟩]
def c14r4 : List Opn := [
  ⟨(some 11), none, .mv (.t 0)⟩, 
  ⟨(some 12), none, .mv (.t 3)⟩, 
  ⟨(some 13), none, .idx .str (.t 11) (.t 12)⟩, 
  ⟨(some 4), none, .mv (.t 13)⟩]
def c14r5 : List Opn := [
  ⟨(some 14), none, .mv (.t 4)⟩, 
  ⟨(some 15), none, .call (.fn 27) [(.t 14)]⟩, 
  ⟨(some 16), none, .un .not (.t 15)⟩, 
  ⟨(some 17), none, .mv (.t 16)⟩, 
  ⟨(some 18), some (17, true), .mv (.t 4)⟩, 
  ⟨(some 19), some (17, true), .bin .lss (.t 18) (.c (.s (.d (.int .u8 65))))⟩, 
  ⟨(some 20), some (17, true), .mv (.t 19)⟩, 
  ⟨(some 21), some (20, false), .mv (.t 4)⟩, 
  ⟨(some 22), some (20, false), .bin .gtr (.t 21) (.c (.s (.d (.int .u8 90))))⟩, 
  ⟨(some 23), some (17, true), .pick (.t 20) (.c (.s (.d (.bool true)))) (.t 22)⟩, 
  ⟨(some 24), none, .pick (.t 17) (.t 23) (.c (.s (.d (.bool false))))⟩, 
  ⟨(some 25), none, .mv (.t 24)⟩, 
  ⟨(some 26), some (25, true), .mv (.t 4)⟩, 
  ⟨(some 27), some (25, true), .bin .neq (.t 26) (.c (.s (.d (.int .u8 95))))⟩, 
  ⟨(some 28), none, .pick (.t 25) (.t 27) (.c (.s (.d (.bool false))))⟩, 
  ⟨(some 29), none, .mv (.t 28)⟩, 
  ⟨(some 30), some (29, true), .mv (.t 4)⟩, 
  ⟨(some 31), some (29, true), .bin .neq (.t 30) (.c (.s (.d (.int .u8 46))))⟩, 
  ⟨(some 32), none, .pick (.t 29) (.t 31) (.c (.s (.d (.bool false))))⟩, 
  ⟨(some 33), none, .mv (.t 32)⟩, 
  ⟨(some 34), some (33, true), .mv (.t 4)⟩, 
  ⟨(some 35), some (33, true), .bin .neq (.t 34) (.c (.s (.d (.int .u8 45))))⟩, 
  ⟨(some 36), none, .pick (.t 33) (.t 35) (.c (.s (.d (.bool false))))⟩]
def c14r6 : List Opn := [
  ⟨(some 2), none, .mv (.c (.s (.d (.bool false))))⟩]
def c14r3 : List Opn := [
  ⟨(some 9), none, .mv (.t 3)⟩, 
  ⟨(some 10), none, .bin .add (.t 9) (.c (.s (.d (.int .i64 1))))⟩, 
  ⟨(some 3), none, .mv (.t 10)⟩]
def c14l7 : C := .seq (.seq (.reg c14r2 none [0, 3, 8]) (.cond (.t 8) (.skip) (.exit 0))) (.seq (.blk 1 (.seq (.reg c14r4 none [0, 3, 4]) (.seq (.reg c14r5 none [0, 3, 36]) (.cond (.t 36) (.seq (.reg c14r6 none [2]) (.ret)) (.skip))))) (.reg c14r3 none [0, 3]))
def c14r7 : List Opn := [
  ⟨(some 37), none, .mv (.t 0)⟩, 
  ⟨(some 38), none, .len .str (.t 37)⟩, 
  ⟨(some 39), none, .bin .gtr (.t 38) (.c (.s (.d (.int .i64 0))))⟩, 
  ⟨(some 40), none, .mv (.t 39)⟩, 
  ⟨(some 41), some (40, true), .mv (.t 0)⟩, 
  ⟨(some 42), some (40, true), .len .str (.t 41)⟩, 
  ⟨(some 43), some (40, true), .bin .leq (.t 42) (.c (.s (.d (.int .i64 128))))⟩, 
  ⟨(some 44), none, .pick (.t 40) (.t 43) (.c (.s (.d (.bool false))))⟩, 
  ⟨(some 45), none, .mv (.t 44)⟩, 
  ⟨(some 46), some (45, true), .mv (.t 0)⟩, 
  ⟨(some 47), some (45, true), .idx .str (.t 46) (.c (.s (.d (.int .i64 0))))⟩, 
  ⟨(some 48), some (45, true), .bin .neq (.t 47) (.c (.s (.d (.int .u8 46))))⟩, 
  ⟨(some 49), none, .pick (.t 45) (.t 48) (.c (.s (.d (.bool false))))⟩, 
  ⟨(some 50), none, .mv (.t 49)⟩, 
  ⟨(some 51), some (50, true), .mv (.t 0)⟩, 
  ⟨(some 52), some (50, true), .idx .str (.t 51) (.c (.s (.d (.int .i64 0))))⟩, 
  ⟨(some 53), some (50, true), .bin .neq (.t 52) (.c (.s (.d (.int .u8 45))))⟩, 
  ⟨(some 54), none, .pick (.t 50) (.t 53) (.c (.s (.d (.bool false))))⟩, 
  ⟨(some 2), none, .mv (.t 54)⟩]
def c14 : C := .seq (.reg c14r0 none [0]) (.seq (.seq (.reg c14r1 none [0, 3]) (.blk 0 (.loop c14l7))) (.seq (.reg c14r7 none [2]) (.ret)))
def k14 : List (Nat × List Nat) := [(7, [2]), (3, [0, 3]), (6, [2]), (5, [0, 3, 36]), (4, [0, 3, 4]), (2, [0, 3, 8]), (1, [0, 3]), (0, [0])]
theorem cc14 : (Tryd.f14.body).bind (cC Tryd.prog 55 k14) = some c14 := by kernel_rfl
def rv14 : List RV := [.t 2]
theorem cr14 : cRVs Tryd.prog Tryd.f14.results.toList = some rv14 := by kernel_rfl
theorem f_ref03_Tag_l7_ok (s : Str) (y_ : Bool) (R_ : St → Prop) (hR : (Ret Tryd.prog glP [] rv14 (.b (.s (.d (.bool y_))))) = R_) : ∀ (m_ : Nat) (i : Int) (res_ : (Int) ⊕ (Bool)) (h : f_ref03_Tag_l7 s m_ i = some res_) (k_ : List It) (hx : ∀ s_ : Int, res_ = .inl s_ → W Tryd.prog glP 55 k_ ⟨lkT [(0, .b (.s (.d (.str s)))), (3, .b (.s (.d (.int .i64 s_))))], lkG []⟩ R_) (hr : ∀ z_ : Bool, res_ = .inr z_ → z_ = y_), W Tryd.prog glP 55 (.c c14l7 :: .lp c14l7 :: .blk 0 :: k_) ⟨lkT [(0, .b (.s (.d (.str s)))), (3, .b (.s (.d (.int .i64 i))))], lkG []⟩ R_ := by
  intro m_; induction m_ with
  | zero => intro i res_ h; rw [f_ref03_Tag_l7.eq_1] at h; cases h
  | succ m_ ih =>
    intro i res_ h k_ hx hr; rw [f_ref03_Tag_l7.eq_2] at h; refine W.cdef c14l7.eq_1 ?_
    refine .seq ?_
    refine .seq ?_
    refine Rw.walk ?_
    simp only [wz, wd, ws, Nat.reduceAdd, Nat.reduceSub, Nat.reduceMul, Nat.reduceLeDiff, Nat.reduceEqDiff, Nat.reduceLT, Nat.reduceBEq, reduceIte, reduceCtorEq, Int.reduceToNat, Nat.reduceShiftRight, Nat.reduceAnd, Nat.reduceBneDiff, Nat.reduceBNe, c14r2, semI.eq_10, semI.eq_11, semI.eq_3, semI.eq_5, semI.eq_7]
    refine .cond (p := (decide (i < (s.length : Int)))) (by first | rfl | simp only [wz, wd, ws, Nat.reduceAdd, Nat.reduceSub, Nat.reduceMul, Nat.reduceLeDiff, Nat.reduceEqDiff, Nat.reduceLT, Nat.reduceBEq, reduceIte, reduceCtorEq, Int.reduceToNat, Nat.reduceShiftRight, Nat.reduceAnd, Nat.reduceBneDiff, Nat.reduceBNe]) (fun h1 => ?_) (fun h1 => ?_)
    · rw [ite_t h1] at h
      refine .skip ?_
      refine .seq ?_
      refine .blk ?_
      refine .seq ?_
      refine Rw.walk ?_
      simp only [wz, wd, ws, Nat.reduceAdd, Nat.reduceSub, Nat.reduceMul, Nat.reduceLeDiff, Nat.reduceEqDiff, Nat.reduceLT, Nat.reduceBEq, reduceIte, reduceCtorEq, Int.reduceToNat, Nat.reduceShiftRight, Nat.reduceAnd, Nat.reduceBneDiff, Nat.reduceBNe, c14r4, semI.eq_10, semI.eq_11, semI.eq_3, semI.eq_5, semI.eq_7]
      obtain ⟨c, e1, h⟩ := Option.bind_eq_some_iff.1 h
      refine Go1.of (sem_idx e1 (by rfl) (by rfl)) ?_
      simp only [wz, wd, ws, Nat.reduceAdd, Nat.reduceSub, Nat.reduceMul, Nat.reduceLeDiff, Nat.reduceEqDiff, Nat.reduceLT, Nat.reduceBEq, reduceIte, reduceCtorEq, Int.reduceToNat, Nat.reduceShiftRight, Nat.reduceAnd, Nat.reduceBneDiff, Nat.reduceBNe, c14r4, semI.eq_10, semI.eq_11, semI.eq_3, semI.eq_5, semI.eq_7]
      refine .seq ?_
      refine Rw.walk ?_
      simp only [wz, wd, ws, Nat.reduceAdd, Nat.reduceSub, Nat.reduceMul, Nat.reduceLeDiff, Nat.reduceEqDiff, Nat.reduceLT, Nat.reduceBEq, reduceIte, reduceCtorEq, Int.reduceToNat, Nat.reduceShiftRight, Nat.reduceAnd, Nat.reduceBneDiff, Nat.reduceBNe, c14r5, semI.eq_10, semI.eq_11, semI.eq_3, semI.eq_5, semI.eq_7]
      obtain ⟨t, e2, h⟩ := Option.bind_eq_some_iff.1 h
      refine call_fun [] false ⟨trivial, trivial, trivial⟩ rfl ?_ (f_ref03_small_ok _ _ e2) (fun _ => rfl) (fun i hi => by cases hi) ?_
      · simp only [wz, wd, ws, Nat.reduceAdd, Nat.reduceSub, Nat.reduceMul, Nat.reduceLeDiff, Nat.reduceEqDiff, Nat.reduceLT, Nat.reduceBEq, reduceIte, reduceCtorEq, Int.reduceToNat, Nat.reduceShiftRight, Nat.reduceAnd, Nat.reduceBneDiff, Nat.reduceBNe]
      simp only [wz, wd, ws, Nat.reduceAdd, Nat.reduceSub, Nat.reduceMul, Nat.reduceLeDiff, Nat.reduceEqDiff, Nat.reduceLT, Nat.reduceBEq, reduceIte, reduceCtorEq, Int.reduceToNat, Nat.reduceShiftRight, Nat.reduceAnd, Nat.reduceBneDiff, Nat.reduceBNe, c14r5, semI.eq_10, semI.eq_11, semI.eq_3, semI.eq_5, semI.eq_7]
      repeat (refine And.intro ?_ ?_; · first | omega | (intro q; simp only [wz, wd, ws, Nat.reduceAdd, Nat.reduceSub, Nat.reduceMul, Nat.reduceLeDiff, Nat.reduceEqDiff, Nat.reduceLT, Nat.reduceBEq, reduceIte, reduceCtorEq, Int.reduceToNat, Nat.reduceShiftRight, Nat.reduceAnd, Nat.reduceBneDiff, Nat.reduceBNe, q]; done))
      refine .cond (p := (((((!t) && ((decide ((bn c) < 65)) || (decide ((bn c) > 90)))) && ((bn c) != 95)) && ((bn c) != 46)) && ((bn c) != 45))) (by first | rfl | simp only [wz, wd, ws, Nat.reduceAdd, Nat.reduceSub, Nat.reduceMul, Nat.reduceLeDiff, Nat.reduceEqDiff, Nat.reduceLT, Nat.reduceBEq, reduceIte, reduceCtorEq, Int.reduceToNat, Nat.reduceShiftRight, Nat.reduceAnd, Nat.reduceBneDiff, Nat.reduceBNe]) (fun h1 => ?_) (fun h1 => ?_)
      · rw [ite_t h1] at h
        refine .seq ?_
        refine Rw.walk ?_
        simp only [wz, wd, ws, Nat.reduceAdd, Nat.reduceSub, Nat.reduceMul, Nat.reduceLeDiff, Nat.reduceEqDiff, Nat.reduceLT, Nat.reduceBEq, reduceIte, reduceCtorEq, Int.reduceToNat, Nat.reduceShiftRight, Nat.reduceAnd, Nat.reduceBneDiff, Nat.reduceBNe, c14r6, semI.eq_10, semI.eq_11, semI.eq_3, semI.eq_5, semI.eq_7]
        obtain rfl := Option.some.inj h; obtain rfl := hr _ rfl
        refine .ret ?_
        rw [← hR]
        simp only [wz, wd, ws, Nat.reduceAdd, Nat.reduceSub, Nat.reduceMul, Nat.reduceLeDiff, Nat.reduceEqDiff, Nat.reduceLT, Nat.reduceBEq, reduceIte, reduceCtorEq, Int.reduceToNat, Nat.reduceShiftRight, Nat.reduceAnd, Nat.reduceBneDiff, Nat.reduceBNe, rv14]
      · rw [ite_f h1] at h
        refine .skip ?_
        refine .eblk ?_
        refine Rw.walk ?_
        simp only [wz, wd, ws, Nat.reduceAdd, Nat.reduceSub, Nat.reduceMul, Nat.reduceLeDiff, Nat.reduceEqDiff, Nat.reduceLT, Nat.reduceBEq, reduceIte, reduceCtorEq, Int.reduceToNat, Nat.reduceShiftRight, Nat.reduceAnd, Nat.reduceBneDiff, Nat.reduceBNe, c14r3, semI.eq_10, semI.eq_11, semI.eq_3, semI.eq_5, semI.eq_7]
        refine .lp ?_
        refine .weak (Imp.co [] _ _ ?_ ?_ ?_ ?_ ?_) (ih (IntKind.i64.wrap (i + 1)) _ h k_ hx hr) <;> simp only [wz, wd, ws, Nat.reduceAdd, Nat.reduceSub, Nat.reduceMul, Nat.reduceLeDiff, Nat.reduceEqDiff, Nat.reduceLT, Nat.reduceBEq, reduceIte, reduceCtorEq, Int.reduceToNat, Nat.reduceShiftRight, Nat.reduceAnd, Nat.reduceBneDiff, Nat.reduceBNe, wi, er_nil]
    · rw [ite_f h1] at h
      refine .exit rfl ?_
      obtain rfl := Option.some.inj h
      refine .weak (Imp.co [] _ _ ?_ ?_ ?_ ?_ ?_) (hx _ rfl) <;> simp only [wz, wd, ws, Nat.reduceAdd, Nat.reduceSub, Nat.reduceMul, Nat.reduceLeDiff, Nat.reduceEqDiff, Nat.reduceLT, Nat.reduceBEq, reduceIte, reduceCtorEq, Int.reduceToNat, Nat.reduceShiftRight, Nat.reduceAnd, Nat.reduceBneDiff, Nat.reduceBNe, wi, er_nil]
theorem f_ref03_Tag_ok (s : Str) (y_ : Bool) (h : f_ref03_Tag s = some y_) : Fun Tryd.prog glP 14 [.b (.s (.d (.str s)))] (.b (.s (.d (.bool y_)))) := by
  refine fun_walk [] Tryd.func14 Tryd.ntmps14 cc14 cr14 (by kernel_rfl) (by simp only [List.length_cons, List.length_nil]; decide) ?_
  generalize hR : Ret _ _ _ _ _ = R_
  simp only [wz, wd, ws, Nat.reduceAdd, Nat.reduceSub, Nat.reduceMul, Nat.reduceLeDiff, Nat.reduceEqDiff, Nat.reduceLT, Nat.reduceBEq, reduceIte, reduceCtorEq, Int.reduceToNat, Nat.reduceShiftRight, Nat.reduceAnd, Nat.reduceBneDiff, Nat.reduceBNe]
  unfold f_ref03_Tag at h; unfold c14
  refine .seq ?_
  refine Rw.walk ?_
  simp only [wz, wd, ws, Nat.reduceAdd, Nat.reduceSub, Nat.reduceMul, Nat.reduceLeDiff, Nat.reduceEqDiff, Nat.reduceLT, Nat.reduceBEq, reduceIte, reduceCtorEq, Int.reduceToNat, Nat.reduceShiftRight, Nat.reduceAnd, Nat.reduceBneDiff, Nat.reduceBNe, c14r0, semI.eq_10, semI.eq_11, semI.eq_3, semI.eq_5, semI.eq_7]
  refine .seq ?_
  refine .seq ?_
  refine Rw.walk ?_
  simp only [wz, wd, ws, Nat.reduceAdd, Nat.reduceSub, Nat.reduceMul, Nat.reduceLeDiff, Nat.reduceEqDiff, Nat.reduceLT, Nat.reduceBEq, reduceIte, reduceCtorEq, Int.reduceToNat, Nat.reduceShiftRight, Nat.reduceAnd, Nat.reduceBneDiff, Nat.reduceBNe, c14r1, semI.eq_10, semI.eq_11, semI.eq_3, semI.eq_5, semI.eq_7]
  refine .blk ?_
  obtain ⟨s2, hf, h⟩ := Option.bind_eq_some_iff.1 h
  refine .loop (.weak (Imp.co [] _ _ ?c1 ?c2 ?c3 ?c4 ?c5) (f_ref03_Tag_l7_ok s _ _ hR _ _ _ hf _ ?_ ?_))
  case c1 | c2 | c3 | c4 | c5 => simp only [wz, wd, ws, Nat.reduceAdd, Nat.reduceSub, Nat.reduceMul, Nat.reduceLeDiff, Nat.reduceEqDiff, Nat.reduceLT, Nat.reduceBEq, reduceIte, reduceCtorEq, Int.reduceToNat, Nat.reduceShiftRight, Nat.reduceAnd, Nat.reduceBneDiff, Nat.reduceBNe, wi, er_nil]
  · intro s3 hs; subst hs; dsimp only at h
    refine .seq ?_
    refine Rw.walk ?_
    simp only [wz, wd, ws, Nat.reduceAdd, Nat.reduceSub, Nat.reduceMul, Nat.reduceLeDiff, Nat.reduceEqDiff, Nat.reduceLT, Nat.reduceBEq, reduceIte, reduceCtorEq, Int.reduceToNat, Nat.reduceShiftRight, Nat.reduceAnd, Nat.reduceBneDiff, Nat.reduceBNe, c14r7, semI.eq_10, semI.eq_11, semI.eq_3, semI.eq_5, semI.eq_7]
    repeat (refine And.intro ?_ ?_; · first | omega | (intro q; simp only [wz, wd, ws, Nat.reduceAdd, Nat.reduceSub, Nat.reduceMul, Nat.reduceLeDiff, Nat.reduceEqDiff, Nat.reduceLT, Nat.reduceBEq, reduceIte, reduceCtorEq, Int.reduceToNat, Nat.reduceShiftRight, Nat.reduceAnd, Nat.reduceBneDiff, Nat.reduceBNe, q]; done))
    obtain ⟨g3, h⟩ := gd_iff.1 h
    refine Go2.of (se_idxS) ?_
    simp only [wz, wd, ws, Nat.reduceAdd, Nat.reduceSub, Nat.reduceMul, Nat.reduceLeDiff, Nat.reduceEqDiff, Nat.reduceLT, Nat.reduceBEq, reduceIte, reduceCtorEq, Int.reduceToNat, Nat.reduceShiftRight, Nat.reduceAnd, Nat.reduceBneDiff, Nat.reduceBNe, c14r7, semI.eq_10, semI.eq_11, semI.eq_3, semI.eq_5, semI.eq_7]
    repeat (refine And.intro ?_ ?_; · first | omega | exact g3 | (intro q; first | omega | (have q2 := g3 (by simpa using q); omega) | (have q2 := g3 q; omega) | (have q2 := g3 (by simpa using q); simp only [List.length_append, List.length_cons, List.length_nil] at q2 ⊢; omega)) | (intro q; simp only [wz, wd, ws, Nat.reduceAdd, Nat.reduceSub, Nat.reduceMul, Nat.reduceLeDiff, Nat.reduceEqDiff, Nat.reduceLT, Nat.reduceBEq, reduceIte, reduceCtorEq, Int.reduceToNat, Nat.reduceShiftRight, Nat.reduceAnd, Nat.reduceBneDiff, Nat.reduceBNe, q]; done))
    obtain ⟨g4, h⟩ := gd_iff.1 h
    refine Go2.of (se_idxS) ?_
    simp only [wz, wd, ws, Nat.reduceAdd, Nat.reduceSub, Nat.reduceMul, Nat.reduceLeDiff, Nat.reduceEqDiff, Nat.reduceLT, Nat.reduceBEq, reduceIte, reduceCtorEq, Int.reduceToNat, Nat.reduceShiftRight, Nat.reduceAnd, Nat.reduceBneDiff, Nat.reduceBNe, c14r7, semI.eq_10, semI.eq_11, semI.eq_3, semI.eq_5, semI.eq_7]
    repeat (refine And.intro ?_ ?_; · first | omega | exact g3 | exact g4 | (intro q; first | omega | (have q2 := g3 (by simpa using q); omega) | (have q2 := g3 q; omega) | (have q2 := g4 (by simpa using q); omega) | (have q2 := g4 q; omega) | (have q2 := g3 (by simpa using q); simp only [List.length_append, List.length_cons, List.length_nil] at q2 ⊢; omega) | (have q2 := g4 (by simpa using q); simp only [List.length_append, List.length_cons, List.length_nil] at q2 ⊢; omega)) | (intro q; simp only [wz, wd, ws, Nat.reduceAdd, Nat.reduceSub, Nat.reduceMul, Nat.reduceLeDiff, Nat.reduceEqDiff, Nat.reduceLT, Nat.reduceBEq, reduceIte, reduceCtorEq, Int.reduceToNat, Nat.reduceShiftRight, Nat.reduceAnd, Nat.reduceBneDiff, Nat.reduceBNe, q]; done))
    obtain rfl := Option.some.inj h
    refine .ret ?_
    rw [← hR]
    simp only [wz, wd, ws, Nat.reduceAdd, Nat.reduceSub, Nat.reduceMul, Nat.reduceLeDiff, Nat.reduceEqDiff, Nat.reduceLT, Nat.reduceBEq, reduceIte, reduceCtorEq, Int.reduceToNat, Nat.reduceShiftRight, Nat.reduceAnd, Nat.reduceBneDiff, Nat.reduceBNe, rv14]
  · intro z hz; subst hz; dsimp only at h
    exact Option.some.inj h
-- 37 internal/stringslite.Cut
def c37r0 : List Opn := [
  ⟨(some 4), none, .mv (.c (.s (.d (.str []))))⟩, 
  ⟨(some 5), none, .mv (.c (.s (.d (.str []))))⟩, 
  ⟨(some 6), none, .mv (.c (.s (.d (.bool false))))⟩]
def c37r1 : List Opn := [
  ⟨(some 8), none, .mv (.t 0)⟩, 
  ⟨(some 9), none, .mv (.t 1)⟩, 
  ⟨(some 10), none, .call (.fn 49) [(.t 8), (.t 9)]⟩, 
  ⟨(some 7), none, .mv (.t 10)⟩]
def c37r2 : List Opn := [
  ⟨(some 11), none, .mv (.t 7)⟩, 
  ⟨(some 12), none, .bin .geq (.t 11) (.c (.s (.d (.int .i64 0))))⟩]
def c37r3 : List Opn := [
  ⟨(some 13), none, .mv (.t 0)⟩, 
  ⟨(some 14), none, .mv (.t 7)⟩, 
  ⟨(some 15), none, .slc .str (.t 13) none (some (.t 14)) none⟩, 
  ⟨(some 16), none, .mv (.t 0)⟩, 
  ⟨(some 17), none, .mv (.t 7)⟩, 
  ⟨(some 18), none, .mv (.t 1)⟩, 
  ⟨(some 19), none, .len .str (.t 18)⟩, 
  ⟨(some 20), none, .bin .add (.t 17) (.t 19)⟩, 
  ⟨(some 21), none, .slc .str (.t 16) (some (.t 20)) none none⟩, 
  ⟨(some 4), none, .mv (.t 15)⟩, 
  ⟨(some 5), none, .mv (.t 21)⟩, 
  ⟨(some 6), none, .mv (.c (.s (.d (.bool true))))⟩]
def c37r4 : List Opn := [
  ⟨(some 22), none, .mv (.t 0)⟩, 
  ⟨(some 4), none, .mv (.t 22)⟩, 
  ⟨(some 5), none, .mv (.c (.s (.d (.str []))))⟩, 
  ⟨(some 6), none, .mv (.c (.s (.d (.bool false))))⟩]
def c37 : C := .seq (.reg c37r0 none [0, 1]) (.seq (.seq (.reg c37r1 none [0, 1, 7]) (.seq (.reg c37r2 none [0, 1, 7, 12]) (.cond (.t 12) (.seq (.reg c37r3 (some [0, 0, 3, 0, 0, 0, 32, 112, 248, 7, 1023, 2047]) [4, 5, 6]) (.ret)) (.skip)))) (.seq (.reg c37r4 none [4, 5, 6]) (.ret)))
def k37 : List (Nat × List Nat) := [(4, [4, 5, 6]), (3, [4, 5, 6]), (2, [0, 1, 7, 12]), (1, [0, 1, 7]), (0, [0, 1])]
theorem cc37 : (Tryd.f37.body).bind (cC Tryd.prog 23 k37) = some c37 := by kernel_rfl
def rv37 : List RV := [.t 4, .t 5, .t 6]
theorem cr37 : cRVs Tryd.prog Tryd.f37.results.toList = some rv37 := by kernel_rfl
theorem f_internal_stringslite_Cut_ok (s : Str) (sep : Str) (y_ : Str × Str × Bool) (h : f_internal_stringslite_Cut s sep = some y_) : Fun Tryd.prog glP 37 [.b (.s (.d (.str s))), .b (.s (.d (.str sep)))] (.tup [.s (.d (.str y_.1)), .s (.d (.str y_.2.1)), .s (.d (.bool y_.2.2))]) := by
  refine fun_walk [] Tryd.func37 Tryd.ntmps37 cc37 cr37 (by kernel_rfl) (by simp only [List.length_cons, List.length_nil]; decide) ?_
  generalize hR : Ret _ _ _ _ _ = R_
  simp only [wz, wd, ws, Nat.reduceAdd, Nat.reduceSub, Nat.reduceMul, Nat.reduceLeDiff, Nat.reduceEqDiff, Nat.reduceLT, Nat.reduceBEq, reduceIte, reduceCtorEq, Int.reduceToNat, Nat.reduceShiftRight, Nat.reduceAnd, Nat.reduceBneDiff, Nat.reduceBNe]
  unfold f_internal_stringslite_Cut at h; unfold c37
  refine .seq ?_
  refine Rw.walk ?_
  simp only [wz, wd, ws, Nat.reduceAdd, Nat.reduceSub, Nat.reduceMul, Nat.reduceLeDiff, Nat.reduceEqDiff, Nat.reduceLT, Nat.reduceBEq, reduceIte, reduceCtorEq, Int.reduceToNat, Nat.reduceShiftRight, Nat.reduceAnd, Nat.reduceBneDiff, Nat.reduceBNe, c37r0, semI.eq_10, semI.eq_11, semI.eq_3, semI.eq_5, semI.eq_7]
  refine .seq ?_
  refine .seq ?_
  refine Rw.walk ?_
  simp only [wz, wd, ws, Nat.reduceAdd, Nat.reduceSub, Nat.reduceMul, Nat.reduceLeDiff, Nat.reduceEqDiff, Nat.reduceLT, Nat.reduceBEq, reduceIte, reduceCtorEq, Int.reduceToNat, Nat.reduceShiftRight, Nat.reduceAnd, Nat.reduceBneDiff, Nat.reduceBNe, c37r1, semI.eq_10, semI.eq_11, semI.eq_3, semI.eq_5, semI.eq_7]
  obtain ⟨t, e1, h⟩ := Option.bind_eq_some_iff.1 h
  refine call_fun [] false ⟨trivial, trivial, trivial, trivial⟩ rfl ?_ (f_internal_stringslite_Index_ok _ _ _ e1) (fun _ => rfl) (fun i hi => by cases hi) ?_
  · simp only [wz, wd, ws, Nat.reduceAdd, Nat.reduceSub, Nat.reduceMul, Nat.reduceLeDiff, Nat.reduceEqDiff, Nat.reduceLT, Nat.reduceBEq, reduceIte, reduceCtorEq, Int.reduceToNat, Nat.reduceShiftRight, Nat.reduceAnd, Nat.reduceBneDiff, Nat.reduceBNe]
  simp only [wz, wd, ws, Nat.reduceAdd, Nat.reduceSub, Nat.reduceMul, Nat.reduceLeDiff, Nat.reduceEqDiff, Nat.reduceLT, Nat.reduceBEq, reduceIte, reduceCtorEq, Int.reduceToNat, Nat.reduceShiftRight, Nat.reduceAnd, Nat.reduceBneDiff, Nat.reduceBNe, c37r1, semI.eq_10, semI.eq_11, semI.eq_3, semI.eq_5, semI.eq_7]
  refine .seq ?_
  refine Rw.walk ?_
  simp only [wz, wd, ws, Nat.reduceAdd, Nat.reduceSub, Nat.reduceMul, Nat.reduceLeDiff, Nat.reduceEqDiff, Nat.reduceLT, Nat.reduceBEq, reduceIte, reduceCtorEq, Int.reduceToNat, Nat.reduceShiftRight, Nat.reduceAnd, Nat.reduceBneDiff, Nat.reduceBNe, c37r2, semI.eq_10, semI.eq_11, semI.eq_3, semI.eq_5, semI.eq_7]
  refine .cond (p := (decide (t ≥ 0))) (by first | rfl | simp only [wz, wd, ws, Nat.reduceAdd, Nat.reduceSub, Nat.reduceMul, Nat.reduceLeDiff, Nat.reduceEqDiff, Nat.reduceLT, Nat.reduceBEq, reduceIte, reduceCtorEq, Int.reduceToNat, Nat.reduceShiftRight, Nat.reduceAnd, Nat.reduceBneDiff, Nat.reduceBNe]) (fun h1 => ?_) (fun h1 => ?_)
  · rw [ite_t h1] at h
    refine .seq ?_
    refine RwD.walk ?_
    obtain ⟨g2, h⟩ := gd_iff.1 h
    obtain ⟨g3, h⟩ := gd_iff.1 h
    simp only [wz, wd, ws, Nat.reduceAdd, Nat.reduceSub, Nat.reduceMul, Nat.reduceLeDiff, Nat.reduceEqDiff, Nat.reduceLT, Nat.reduceBEq, reduceIte, reduceCtorEq, Int.reduceToNat, Nat.reduceShiftRight, Nat.reduceAnd, Nat.reduceBneDiff, Nat.reduceBNe, c37r3, semI.eq_10, semI.eq_11, semI.eq_3, semI.eq_5, semI.eq_7]
    repeat (refine And.intro ?_ ?_; · first | omega | (intro q; simp only [wz, wd, ws, Nat.reduceAdd, Nat.reduceSub, Nat.reduceMul, Nat.reduceLeDiff, Nat.reduceEqDiff, Nat.reduceLT, Nat.reduceBEq, reduceIte, reduceCtorEq, Int.reduceToNat, Nat.reduceShiftRight, Nat.reduceAnd, Nat.reduceBneDiff, Nat.reduceBNe, q]; done))
    obtain rfl := Option.some.inj h
    refine .ret ?_
    rw [← hR]
    simp only [wz, wd, ws, Nat.reduceAdd, Nat.reduceSub, Nat.reduceMul, Nat.reduceLeDiff, Nat.reduceEqDiff, Nat.reduceLT, Nat.reduceBEq, reduceIte, reduceCtorEq, Int.reduceToNat, Nat.reduceShiftRight, Nat.reduceAnd, Nat.reduceBneDiff, Nat.reduceBNe, rv37]
  · rw [ite_f h1] at h
    refine .skip ?_
    refine .seq ?_
    refine Rw.walk ?_
    simp only [wz, wd, ws, Nat.reduceAdd, Nat.reduceSub, Nat.reduceMul, Nat.reduceLeDiff, Nat.reduceEqDiff, Nat.reduceLT, Nat.reduceBEq, reduceIte, reduceCtorEq, Int.reduceToNat, Nat.reduceShiftRight, Nat.reduceAnd, Nat.reduceBneDiff, Nat.reduceBNe, c37r4, semI.eq_10, semI.eq_11, semI.eq_3, semI.eq_5, semI.eq_7]
    obtain rfl := Option.some.inj h
    refine .ret ?_
    rw [← hR]
    simp only [wz, wd, ws, Nat.reduceAdd, Nat.reduceSub, Nat.reduceMul, Nat.reduceLeDiff, Nat.reduceEqDiff, Nat.reduceLT, Nat.reduceBEq, reduceIte, reduceCtorEq, Int.reduceToNat, Nat.reduceShiftRight, Nat.reduceAnd, Nat.reduceBneDiff, Nat.reduceBNe, rv37]
-- 29 strings.Cut
def c29r0 : List Opn := [
  ⟨(some 4), none, .mv (.c (.s (.d (.str []))))⟩, 
  ⟨(some 5), none, .mv (.c (.s (.d (.str []))))⟩, 
  ⟨(some 6), none, .mv (.c (.s (.d (.bool false))))⟩]
def c29r1 : List Opn := [
  ⟨(some 7), none, .mv (.t 0)⟩, 
  ⟨(some 8), none, .mv (.t 1)⟩, 
  ⟨(some 9), none, .call (.fn 37) [(.t 7), (.t 8)]⟩, 
  ⟨(some 10), none, .ext (.t 9) 0⟩, 
  ⟨(some 11), none, .ext (.t 9) 1⟩, 
  ⟨(some 12), none, .ext (.t 9) 2⟩, 
  ⟨(some 4), none, .mv (.t 10)⟩, 
  ⟨(some 5), none, .mv (.t 11)⟩, 
  ⟨(some 6), none, .mv (.t 12)⟩]
def c29 : C := .seq (.reg c29r0 none [0, 1]) (.seq (.reg c29r1 none [4, 5, 6]) (.ret))
def k29 : List (Nat × List Nat) := [(1, [4, 5, 6]), (0, [0, 1])]
theorem cc29 : (Tryd.f29.body).bind (cC Tryd.prog 13 k29) = some c29 := by kernel_rfl
def rv29 : List RV := [.t 4, .t 5, .t 6]
theorem cr29 : cRVs Tryd.prog Tryd.f29.results.toList = some rv29 := by kernel_rfl
theorem f_strings_Cut_ok (s : Str) (sep : Str) (y_ : Str × Str × Bool) (h : f_strings_Cut s sep = some y_) : Fun Tryd.prog glP 29 [.b (.s (.d (.str s))), .b (.s (.d (.str sep)))] (.tup [.s (.d (.str y_.1)), .s (.d (.str y_.2.1)), .s (.d (.bool y_.2.2))]) := by
  refine fun_walk [] Tryd.func29 Tryd.ntmps29 cc29 cr29 (by kernel_rfl) (by simp only [List.length_cons, List.length_nil]; decide) ?_
  generalize hR : Ret _ _ _ _ _ = R_
  simp only [wz, wd, ws, Nat.reduceAdd, Nat.reduceSub, Nat.reduceMul, Nat.reduceLeDiff, Nat.reduceEqDiff, Nat.reduceLT, Nat.reduceBEq, reduceIte, reduceCtorEq, Int.reduceToNat, Nat.reduceShiftRight, Nat.reduceAnd, Nat.reduceBneDiff, Nat.reduceBNe]
  unfold f_strings_Cut at h; unfold c29
  refine .seq ?_
  refine Rw.walk ?_
  simp only [wz, wd, ws, Nat.reduceAdd, Nat.reduceSub, Nat.reduceMul, Nat.reduceLeDiff, Nat.reduceEqDiff, Nat.reduceLT, Nat.reduceBEq, reduceIte, reduceCtorEq, Int.reduceToNat, Nat.reduceShiftRight, Nat.reduceAnd, Nat.reduceBneDiff, Nat.reduceBNe, c29r0, semI.eq_10, semI.eq_11, semI.eq_3, semI.eq_5, semI.eq_7]
  refine .seq ?_
  refine Rw.walk ?_
  simp only [wz, wd, ws, Nat.reduceAdd, Nat.reduceSub, Nat.reduceMul, Nat.reduceLeDiff, Nat.reduceEqDiff, Nat.reduceLT, Nat.reduceBEq, reduceIte, reduceCtorEq, Int.reduceToNat, Nat.reduceShiftRight, Nat.reduceAnd, Nat.reduceBneDiff, Nat.reduceBNe, c29r1, semI.eq_10, semI.eq_11, semI.eq_3, semI.eq_5, semI.eq_7]
  obtain ⟨t, e1, h⟩ := Option.bind_eq_some_iff.1 h
  refine call_fun [] false ⟨trivial, trivial, trivial, trivial⟩ rfl ?_ (f_internal_stringslite_Cut_ok _ _ _ e1) (fun _ => rfl) (fun i hi => by cases hi) ?_
  · simp only [wz, wd, ws, Nat.reduceAdd, Nat.reduceSub, Nat.reduceMul, Nat.reduceLeDiff, Nat.reduceEqDiff, Nat.reduceLT, Nat.reduceBEq, reduceIte, reduceCtorEq, Int.reduceToNat, Nat.reduceShiftRight, Nat.reduceAnd, Nat.reduceBneDiff, Nat.reduceBNe]
  simp only [wz, wd, ws, Nat.reduceAdd, Nat.reduceSub, Nat.reduceMul, Nat.reduceLeDiff, Nat.reduceEqDiff, Nat.reduceLT, Nat.reduceBEq, reduceIte, reduceCtorEq, Int.reduceToNat, Nat.reduceShiftRight, Nat.reduceAnd, Nat.reduceBneDiff, Nat.reduceBNe, c29r1, semI.eq_10, semI.eq_11, semI.eq_3, semI.eq_5, semI.eq_7]
  obtain rfl := Option.some.inj h
  refine .ret ?_
  rw [← hR]
  simp only [wz, wd, ws, Nat.reduceAdd, Nat.reduceSub, Nat.reduceMul, Nat.reduceLeDiff, Nat.reduceEqDiff, Nat.reduceLT, Nat.reduceBEq, reduceIte, reduceCtorEq, Int.reduceToNat, Nat.reduceShiftRight, Nat.reduceAnd, Nat.reduceBneDiff, Nat.reduceBNe, rv29]
-- 18 consignor/name.Parse
def c18r0 : List Opn := [
  ⟨(some 2), none, .new [(.d (.str [])), (.d (.str [])), (.d (.str []))]⟩, 
  ⟨(some 3), none, .mv (.c (.s (.d (.int .i64 0))))⟩]
def c18r1 : List Opn := [
  ⟨(some 4), none, .new [(.d (.str [])), (.d (.str [])), (.d (.str []))]⟩]
def c18r2 : List Opn := [
  ⟨(some 14), none, .mv (.t 0)⟩, 
  ⟨(some 15), none, .call (.fn 29) [(.t 14), (.c (.s (.d (.str [64]))))]⟩, 
  ⟨(some 13), none, .mv (.t 15)⟩, 
  ⟨(some 16), none, .ext (.t 13) 0⟩, 
  ⟨(some 17), none, .ext (.t 13) 1⟩, 
  ⟨(some 18), none, .ext (.t 13) 2⟩, 
  ⟨(some 5), none, .mv (.t 16)⟩, 
  ⟨(some 6), none, .mv (.t 17)⟩, 
  ⟨(some 7), none, .mv (.t 18)⟩]
def c18r3 : List Opn := [
  ⟨(some 19), none, .mv (.t 7)⟩]
def c18r4 : List Opn := [
  ⟨(some 20), none, .mv (.t 5)⟩, 
  ⟨(some 21), none, .mv (.t 6)⟩, 
  ⟨(some 22), none, .build [(.d (.str [])), (.d (.str [])), (.d (.str []))] [(0, 1, (.t 20)), (2, 1, (.t 21))]⟩, 
  ⟨none, none, .store 3 (.t 4) (.t 22)⟩]
def c18r5 : List Opn := [
  ⟨(some 24), none, .mv (.t 0)⟩, 
  ⟨(some 25), none, .call (.fn 29) [(.t 24), (.c (.s (.d (.str [58]))))]⟩, 
  ⟨(some 23), none, .mv (.t 25)⟩, 
  ⟨(some 26), none, .ext (.t 23) 0⟩, 
  ⟨(some 27), none, .ext (.t 23) 1⟩, 
  ⟨(some 28), none, .ext (.t 23) 2⟩, 
  ⟨(some 8), none, .mv (.t 26)⟩, 
  ⟨(some 9), none, .mv (.t 27)⟩, 
  ⟨(some 10), none, .mv (.t 28)⟩]
def c18r6 : List Opn := [
  ⟨(some 29), none, .mv (.t 8)⟩, 
  ⟨(some 30), none, .mv (.t 9)⟩, 
  ⟨(some 31), none, .build [(.d (.str [])), (.d (.str [])), (.d (.str []))] [(0, 1, (.t 29)), (1, 1, (.t 30))]⟩, 
  ⟨none, none, .store 3 (.t 4) (.t 31)⟩]
def c18r7 : List Opn := [
  ⟨(some 33), none, .load true 3 (.t 4)⟩, 
  ⟨(some 34), none, .call (.fn 10) [(.t 33)]⟩, 
  ⟨(some 32), none, .mv (.t 34)⟩, 
  ⟨(some 35), none, .ext (.t 32) 0⟩, 
  ⟨(some 36), none, .ext (.t 32) 1⟩, 
  ⟨(some 11), none, .mv (.t 35)⟩, 
  ⟨(some 12), none, .mv (.t 36)⟩]
def c18r8 : List Opn := [
  ⟨(some 37), none, .mv (.t 12)⟩, 
  ⟨(some 38), none, .bin .neq (.t 37) (.c (.s (.d (.int .i64 0))))⟩, 
  ⟨(some 39), none, .mv (.t 38)⟩, 
  ⟨(some 40), some (39, false), .mv (.t 11)⟩, 
  ⟨(some 41), some (39, false), .mv (.t 0)⟩, 
  ⟨(some 42), some (39, false), .bin .neq (.t 40) (.t 41)⟩, 
  ⟨(some 43), none, .pick (.t 39) (.c (.s (.d (.bool true)))) (.t 42)⟩]
def c18r9 : List Opn := [
  ⟨(some 44), none, .build [(.d (.str [])), (.d (.str [])), (.d (.str []))] []⟩, 
  ⟨none, none, .store 3 (.t 2) (.t 44)⟩, 
  ⟨(some 3), none, .mv (.c (.s (.d (.int .i64 5))))⟩]
def c18r10 : List Opn := [
  ⟨(some 45), none, .load true 3 (.t 4)⟩, 
  ⟨none, none, .store 3 (.t 2) (.t 45)⟩, 
  ⟨(some 3), none, .mv (.c (.s (.d (.int .i64 0))))⟩]
def c18 : C := .seq (.reg c18r0 none [0, 2]) (.seq (.reg c18r1 none [0, 2, 4]) (.seq (.seq (.reg c18r2 none [0, 2, 4, 5, 6, 7]) (.seq (.reg c18r3 none [0, 2, 4, 5, 6, 19]) (.cond (.t 19) (.reg c18r4 none [0, 2, 4]) (.seq (.reg c18r5 none [0, 2, 4, 8, 9]) (.reg c18r6 none [0, 2, 4]))))) (.seq (.seq (.reg c18r7 none [0, 2, 4, 11, 12]) (.seq (.reg c18r8 none [2, 4, 43]) (.cond (.t 43) (.seq (.reg c18r9 none [2, 3]) (.ret)) (.skip)))) (.seq (.reg c18r10 none [2, 3]) (.ret)))))
def k18 : List (Nat × List Nat) := [(10, [2, 3]), (9, [2, 3]), (8, [2, 4, 43]), (7, [0, 2, 4, 11, 12]), (4, [0, 2, 4]), (6, [0, 2, 4]), (5, [0, 2, 4, 8, 9]), (3, [0, 2, 4, 5, 6, 19]), (2, [0, 2, 4, 5, 6, 7]), (1, [0, 2, 4]), (0, [0, 2])]
theorem cc18 : (Tryd.f18.body).bind (cC Tryd.prog 46 k18) = some c18 := by kernel_rfl
def rv18 : List RV := [.c 2 true 3, .t 3]
theorem cr18 : cRVs Tryd.prog Tryd.f18.results.toList = some rv18 := by kernel_rfl
theorem f_name_Parse_ok (s : Str) (y_ : api_Ref × Int) (h : f_name_Parse s = some y_) : Fun Tryd.prog glP 18 [.b (.s (.d (.str s)))] (.tup [.agg ((e_api_Ref y_.1).map Lc.d), .s (.d (.int .i64 y_.2))]) := by
  refine fun_walk [] Tryd.func18 Tryd.ntmps18 cc18 cr18 (by kernel_rfl) (by simp only [List.length_cons, List.length_nil]; decide) ?_
  generalize hR : Ret _ _ _ _ _ = R_
  simp only [wz, wd, ws, Nat.reduceAdd, Nat.reduceSub, Nat.reduceMul, Nat.reduceLeDiff, Nat.reduceEqDiff, Nat.reduceLT, Nat.reduceBEq, reduceIte, reduceCtorEq, Int.reduceToNat, Nat.reduceShiftRight, Nat.reduceAnd, Nat.reduceBneDiff, Nat.reduceBNe, e_api_Ref]
  unfold f_name_Parse at h; unfold c18
  refine .seq ?_
  refine Rw.walk ?_
  simp only [wz, wd, ws, Nat.reduceAdd, Nat.reduceSub, Nat.reduceMul, Nat.reduceLeDiff, Nat.reduceEqDiff, Nat.reduceLT, Nat.reduceBEq, reduceIte, reduceCtorEq, Int.reduceToNat, Nat.reduceShiftRight, Nat.reduceAnd, Nat.reduceBneDiff, Nat.reduceBNe, c18r0, semI.eq_10, semI.eq_11, semI.eq_3, semI.eq_5, semI.eq_7, e_api_Ref]
  refine .seq ?_
  refine Rw.walk ?_
  simp only [wz, wd, ws, Nat.reduceAdd, Nat.reduceSub, Nat.reduceMul, Nat.reduceLeDiff, Nat.reduceEqDiff, Nat.reduceLT, Nat.reduceBEq, reduceIte, reduceCtorEq, Int.reduceToNat, Nat.reduceShiftRight, Nat.reduceAnd, Nat.reduceBneDiff, Nat.reduceBNe, c18r1, semI.eq_10, semI.eq_11, semI.eq_3, semI.eq_5, semI.eq_7, e_api_Ref]
  refine .seq ?_
  obtain ⟨s2, hf, h⟩ := Option.bind_eq_some_iff.1 h
  refine W.cut1 ⟨lkT [(0, .b (.s (.d (.str s)))), (2, .b (.s (.ptr 2 1 0 0))), (4, .b (.s (.ptr 4 1 0 0)))], lkG [(2, ⟨3, [[(.d (.str ([] : Str))), (.d (.str ([] : Str))), (.d (.str ([] : Str)))]], false⟩), (4, ⟨3, [[(.d (.str s2.1)), (.d (.str s2.2.1)), (.d (.str s2.2.2))]], false⟩)]⟩ ?_ (fun tail => ?_)
  · skip
    refine .seq ?_
    refine .seq ?_
    refine Rw.walk ?_
    simp only [wz, wd, ws, Nat.reduceAdd, Nat.reduceSub, Nat.reduceMul, Nat.reduceLeDiff, Nat.reduceEqDiff, Nat.reduceLT, Nat.reduceBEq, reduceIte, reduceCtorEq, Int.reduceToNat, Nat.reduceShiftRight, Nat.reduceAnd, Nat.reduceBneDiff, Nat.reduceBNe, c18r7, semI.eq_10, semI.eq_11, semI.eq_3, semI.eq_5, semI.eq_7, e_api_Ref]
    obtain ⟨t, e1, h⟩ := Option.bind_eq_some_iff.1 h
    refine call_fun [] false ⟨trivial, trivial, trivial⟩ rfl ?_ (f_name_Print_ok _ _ e1) (fun _ => rfl) (fun i hi => by cases hi) ?_
    · simp only [wz, wd, ws, Nat.reduceAdd, Nat.reduceSub, Nat.reduceMul, Nat.reduceLeDiff, Nat.reduceEqDiff, Nat.reduceLT, Nat.reduceBEq, reduceIte, reduceCtorEq, Int.reduceToNat, Nat.reduceShiftRight, Nat.reduceAnd, Nat.reduceBneDiff, Nat.reduceBNe, e_api_Ref]
    simp only [wz, wd, ws, Nat.reduceAdd, Nat.reduceSub, Nat.reduceMul, Nat.reduceLeDiff, Nat.reduceEqDiff, Nat.reduceLT, Nat.reduceBEq, reduceIte, reduceCtorEq, Int.reduceToNat, Nat.reduceShiftRight, Nat.reduceAnd, Nat.reduceBneDiff, Nat.reduceBNe, c18r7, semI.eq_10, semI.eq_11, semI.eq_3, semI.eq_5, semI.eq_7, e_api_Ref]
    refine .seq ?_
    refine Rw.walk ?_
    simp only [wz, wd, ws, Nat.reduceAdd, Nat.reduceSub, Nat.reduceMul, Nat.reduceLeDiff, Nat.reduceEqDiff, Nat.reduceLT, Nat.reduceBEq, reduceIte, reduceCtorEq, Int.reduceToNat, Nat.reduceShiftRight, Nat.reduceAnd, Nat.reduceBneDiff, Nat.reduceBNe, c18r8, semI.eq_10, semI.eq_11, semI.eq_3, semI.eq_5, semI.eq_7, e_api_Ref]
    repeat (refine And.intro ?_ ?_; · first | omega | (intro q; simp only [wz, wd, ws, Nat.reduceAdd, Nat.reduceSub, Nat.reduceMul, Nat.reduceLeDiff, Nat.reduceEqDiff, Nat.reduceLT, Nat.reduceBEq, reduceIte, reduceCtorEq, Int.reduceToNat, Nat.reduceShiftRight, Nat.reduceAnd, Nat.reduceBneDiff, Nat.reduceBNe, q]; done))
    refine .cond (p := ((t.2 != 0) || (!(t.1 == s)))) (by first | rfl | simp only [wz, wd, ws, Nat.reduceAdd, Nat.reduceSub, Nat.reduceMul, Nat.reduceLeDiff, Nat.reduceEqDiff, Nat.reduceLT, Nat.reduceBEq, reduceIte, reduceCtorEq, Int.reduceToNat, Nat.reduceShiftRight, Nat.reduceAnd, Nat.reduceBneDiff, Nat.reduceBNe]) (fun h1 => ?_) (fun h1 => ?_)
    · rw [ite_t h1] at h
      refine .seq ?_
      refine Rw.walk ?_
      simp only [wz, wd, ws, Nat.reduceAdd, Nat.reduceSub, Nat.reduceMul, Nat.reduceLeDiff, Nat.reduceEqDiff, Nat.reduceLT, Nat.reduceBEq, reduceIte, reduceCtorEq, Int.reduceToNat, Nat.reduceShiftRight, Nat.reduceAnd, Nat.reduceBneDiff, Nat.reduceBNe, c18r9, semI.eq_10, semI.eq_11, semI.eq_3, semI.eq_5, semI.eq_7, e_api_Ref]
      obtain rfl := Option.some.inj h
      refine .ret ?_
      rw [← hR]
      simp only [wz, wd, ws, Nat.reduceAdd, Nat.reduceSub, Nat.reduceMul, Nat.reduceLeDiff, Nat.reduceEqDiff, Nat.reduceLT, Nat.reduceBEq, reduceIte, reduceCtorEq, Int.reduceToNat, Nat.reduceShiftRight, Nat.reduceAnd, Nat.reduceBneDiff, Nat.reduceBNe, rv18, semI.eq_10, e_api_Ref]
    · rw [ite_f h1] at h
      refine .skip ?_
      refine .seq ?_
      refine Rw.walk ?_
      simp only [wz, wd, ws, Nat.reduceAdd, Nat.reduceSub, Nat.reduceMul, Nat.reduceLeDiff, Nat.reduceEqDiff, Nat.reduceLT, Nat.reduceBEq, reduceIte, reduceCtorEq, Int.reduceToNat, Nat.reduceShiftRight, Nat.reduceAnd, Nat.reduceBneDiff, Nat.reduceBNe, c18r10, semI.eq_10, semI.eq_11, semI.eq_3, semI.eq_5, semI.eq_7, e_api_Ref]
      obtain rfl := Option.some.inj h
      refine .ret ?_
      rw [← hR]
      simp only [wz, wd, ws, Nat.reduceAdd, Nat.reduceSub, Nat.reduceMul, Nat.reduceLeDiff, Nat.reduceEqDiff, Nat.reduceLT, Nat.reduceBEq, reduceIte, reduceCtorEq, Int.reduceToNat, Nat.reduceShiftRight, Nat.reduceAnd, Nat.reduceBneDiff, Nat.reduceBNe, rv18, semI.eq_10, e_api_Ref]
  replace h := hf
  refine .seq ?_
  refine Rw.walk ?_
  simp only [wz, wd, ws, Nat.reduceAdd, Nat.reduceSub, Nat.reduceMul, Nat.reduceLeDiff, Nat.reduceEqDiff, Nat.reduceLT, Nat.reduceBEq, reduceIte, reduceCtorEq, Int.reduceToNat, Nat.reduceShiftRight, Nat.reduceAnd, Nat.reduceBneDiff, Nat.reduceBNe, c18r2, semI.eq_10, semI.eq_11, semI.eq_3, semI.eq_5, semI.eq_7, e_api_Ref]
  obtain ⟨t, e2, h⟩ := Option.bind_eq_some_iff.1 h
  refine call_fun [] false ⟨trivial, trivial, trivial, trivial⟩ rfl ?_ (f_strings_Cut_ok _ _ _ e2) (fun _ => rfl) (fun i hi => by cases hi) ?_
  · simp only [wz, wd, ws, Nat.reduceAdd, Nat.reduceSub, Nat.reduceMul, Nat.reduceLeDiff, Nat.reduceEqDiff, Nat.reduceLT, Nat.reduceBEq, reduceIte, reduceCtorEq, Int.reduceToNat, Nat.reduceShiftRight, Nat.reduceAnd, Nat.reduceBneDiff, Nat.reduceBNe, e_api_Ref]
  simp only [wz, wd, ws, Nat.reduceAdd, Nat.reduceSub, Nat.reduceMul, Nat.reduceLeDiff, Nat.reduceEqDiff, Nat.reduceLT, Nat.reduceBEq, reduceIte, reduceCtorEq, Int.reduceToNat, Nat.reduceShiftRight, Nat.reduceAnd, Nat.reduceBneDiff, Nat.reduceBNe, c18r2, semI.eq_10, semI.eq_11, semI.eq_3, semI.eq_5, semI.eq_7, e_api_Ref]
  refine .seq ?_
  refine Rw.walk ?_
  simp only [wz, wd, ws, Nat.reduceAdd, Nat.reduceSub, Nat.reduceMul, Nat.reduceLeDiff, Nat.reduceEqDiff, Nat.reduceLT, Nat.reduceBEq, reduceIte, reduceCtorEq, Int.reduceToNat, Nat.reduceShiftRight, Nat.reduceAnd, Nat.reduceBneDiff, Nat.reduceBNe, c18r3, semI.eq_10, semI.eq_11, semI.eq_3, semI.eq_5, semI.eq_7, e_api_Ref]
  refine .cond (p := t.2.2) (by first | rfl | simp only [wz, wd, ws, Nat.reduceAdd, Nat.reduceSub, Nat.reduceMul, Nat.reduceLeDiff, Nat.reduceEqDiff, Nat.reduceLT, Nat.reduceBEq, reduceIte, reduceCtorEq, Int.reduceToNat, Nat.reduceShiftRight, Nat.reduceAnd, Nat.reduceBneDiff, Nat.reduceBNe]) (fun h1 => ?_) (fun h1 => ?_)
  · rw [ite_t h1] at h
    refine Rw.walk ?_
    simp only [wz, wd, ws, Nat.reduceAdd, Nat.reduceSub, Nat.reduceMul, Nat.reduceLeDiff, Nat.reduceEqDiff, Nat.reduceLT, Nat.reduceBEq, reduceIte, reduceCtorEq, Int.reduceToNat, Nat.reduceShiftRight, Nat.reduceAnd, Nat.reduceBneDiff, Nat.reduceBNe, c18r4, semI.eq_10, semI.eq_11, semI.eq_3, semI.eq_5, semI.eq_7, e_api_Ref]
    obtain rfl := Option.some.inj h
    refine .weak (Imp.co [] _ _ ?_ ?_ ?_ ?_ ?_) (tail) <;> simp only [wz, wd, ws, Nat.reduceAdd, Nat.reduceSub, Nat.reduceMul, Nat.reduceLeDiff, Nat.reduceEqDiff, Nat.reduceLT, Nat.reduceBEq, reduceIte, reduceCtorEq, Int.reduceToNat, Nat.reduceShiftRight, Nat.reduceAnd, Nat.reduceBneDiff, Nat.reduceBNe, wi, er_nil, e_api_Ref]
  · rw [ite_f h1] at h
    refine .seq ?_
    refine Rw.walk ?_
    simp only [wz, wd, ws, Nat.reduceAdd, Nat.reduceSub, Nat.reduceMul, Nat.reduceLeDiff, Nat.reduceEqDiff, Nat.reduceLT, Nat.reduceBEq, reduceIte, reduceCtorEq, Int.reduceToNat, Nat.reduceShiftRight, Nat.reduceAnd, Nat.reduceBneDiff, Nat.reduceBNe, c18r5, semI.eq_10, semI.eq_11, semI.eq_3, semI.eq_5, semI.eq_7, e_api_Ref]
    obtain ⟨t2, e3, h⟩ := Option.bind_eq_some_iff.1 h
    refine call_fun [] false ⟨trivial, trivial, trivial, trivial⟩ rfl ?_ (f_strings_Cut_ok _ _ _ e3) (fun _ => rfl) (fun i hi => by cases hi) ?_
    · simp only [wz, wd, ws, Nat.reduceAdd, Nat.reduceSub, Nat.reduceMul, Nat.reduceLeDiff, Nat.reduceEqDiff, Nat.reduceLT, Nat.reduceBEq, reduceIte, reduceCtorEq, Int.reduceToNat, Nat.reduceShiftRight, Nat.reduceAnd, Nat.reduceBneDiff, Nat.reduceBNe, e_api_Ref]
    simp only [wz, wd, ws, Nat.reduceAdd, Nat.reduceSub, Nat.reduceMul, Nat.reduceLeDiff, Nat.reduceEqDiff, Nat.reduceLT, Nat.reduceBEq, reduceIte, reduceCtorEq, Int.reduceToNat, Nat.reduceShiftRight, Nat.reduceAnd, Nat.reduceBneDiff, Nat.reduceBNe, c18r5, semI.eq_10, semI.eq_11, semI.eq_3, semI.eq_5, semI.eq_7, e_api_Ref]
    refine Rw.walk ?_
    simp only [wz, wd, ws, Nat.reduceAdd, Nat.reduceSub, Nat.reduceMul, Nat.reduceLeDiff, Nat.reduceEqDiff, Nat.reduceLT, Nat.reduceBEq, reduceIte, reduceCtorEq, Int.reduceToNat, Nat.reduceShiftRight, Nat.reduceAnd, Nat.reduceBneDiff, Nat.reduceBNe, c18r6, semI.eq_10, semI.eq_11, semI.eq_3, semI.eq_5, semI.eq_7, e_api_Ref]
    obtain rfl := Option.some.inj h
    refine .weak (Imp.co [] _ _ ?_ ?_ ?_ ?_ ?_) (tail) <;> simp only [wz, wd, ws, Nat.reduceAdd, Nat.reduceSub, Nat.reduceMul, Nat.reduceLeDiff, Nat.reduceEqDiff, Nat.reduceLT, Nat.reduceBEq, reduceIte, reduceCtorEq, Int.reduceToNat, Nat.reduceShiftRight, Nat.reduceAnd, Nat.reduceBneDiff, Nat.reduceBNe, wi, er_nil, e_api_Ref]
-- 15 consignor/consignorlaw03.alive
def c15r0 : List Opn := [
  ⟨(some 0), none, .mv (.c (.s (.d (.bool false))))⟩]
def c15r1 : List Opn := [
  ⟨(some 4), none, .call (.fn 18) [(.c (.s (.d (.str [108, 105, 98, 47, 103, 111, 95, 95, 120, 58, 49, 46, 48]))))]⟩, 
  ⟨(some 3), none, .mv (.t 4)⟩, 
  ⟨(some 5), none, .ext (.t 3) 0⟩, 
  ⟨(some 6), none, .ext (.t 3) 1⟩, 
  ⟨(some 1), none, .new [(.d (.str [])), (.d (.str [])), (.d (.str []))]⟩, 
  ⟨none, none, .store 3 (.t 1) (.t 5)⟩, 
  ⟨(some 2), none, .mv (.t 6)⟩]
def c15r2 : List Opn := [
  ⟨(some 7), none, .mv (.t 2)⟩, 
  ⟨(some 8), none, .bin .eql (.t 7) (.c (.s (.d (.int .i64 0))))⟩, 
  ⟨(some 9), none, .mv (.t 8)⟩, 
  ⟨(some 10), some (9, true), .load true 3 (.t 1)⟩, 
  ⟨(some 11), some (9, true), .build [(.d (.str [])), (.d (.str [])), (.d (.str []))] [(0, 1, (.c (.s (.d (.str [108, 105, 98, 47, 103, 111, 95, 95, 120]))))), (1, 1, (.c (.s (.d (.str [49, 46, 48])))))]⟩, 
  ⟨(some 12), some (9, true), .bagg .eql [.str, .str, .str] (.t 10) (.t 11)⟩, 
  ⟨(some 13), none, .pick (.t 9) (.t 12) (.c (.s (.d (.bool false))))⟩, 
  ⟨(some 14), none, .mv (.t 13)⟩, 
  ⟨(some 15), some (14, true), .call (.fn 11) [(.c (.s (.d (.str [97]))))]⟩, 
  ⟨(some 16), none, .pick (.t 14) (.t 15) (.c (.s (.d (.bool false))))⟩, 
  ⟨(some 0), none, .mv (.t 16)⟩]
def c15 : C := .seq (.reg c15r0 none []) (.seq (.reg c15r1 none [1, 2]) (.seq (.reg c15r2 none [0]) (.ret)))
def k15 : List (Nat × List Nat) := [(2, [0]), (1, [1, 2]), (0, [])]
theorem cc15 : (Tryd.f15.body).bind (cC Tryd.prog 17 k15) = some c15 := by kernel_rfl
def rv15 : List RV := [.t 0]
theorem cr15 : cRVs Tryd.prog Tryd.f15.results.toList = some rv15 := by kernel_rfl
theorem f_law03_alive_ok (y_ : Bool) (h : f_law03_alive = some y_) : Fun Tryd.prog glP 15 [] (.b (.s (.d (.bool y_)))) := by
  refine fun_walk [] Tryd.func15 Tryd.ntmps15 cc15 cr15 (by kernel_rfl) (by simp only [List.length_cons, List.length_nil]; decide) ?_
  generalize hR : Ret _ _ _ _ _ = R_
  simp only [wz, wd, ws, Nat.reduceAdd, Nat.reduceSub, Nat.reduceMul, Nat.reduceLeDiff, Nat.reduceEqDiff, Nat.reduceLT, Nat.reduceBEq, reduceIte, reduceCtorEq, Int.reduceToNat, Nat.reduceShiftRight, Nat.reduceAnd, Nat.reduceBneDiff, Nat.reduceBNe, e_api_Ref]
  unfold f_law03_alive at h; unfold c15
  refine .seq ?_
  refine Rw.walk ?_
  simp only [wz, wd, ws, Nat.reduceAdd, Nat.reduceSub, Nat.reduceMul, Nat.reduceLeDiff, Nat.reduceEqDiff, Nat.reduceLT, Nat.reduceBEq, reduceIte, reduceCtorEq, Int.reduceToNat, Nat.reduceShiftRight, Nat.reduceAnd, Nat.reduceBneDiff, Nat.reduceBNe, c15r0, semI.eq_10, semI.eq_11, semI.eq_3, semI.eq_5, semI.eq_7, e_api_Ref]
  refine .seq ?_
  refine Rw.walk ?_
  simp only [wz, wd, ws, Nat.reduceAdd, Nat.reduceSub, Nat.reduceMul, Nat.reduceLeDiff, Nat.reduceEqDiff, Nat.reduceLT, Nat.reduceBEq, reduceIte, reduceCtorEq, Int.reduceToNat, Nat.reduceShiftRight, Nat.reduceAnd, Nat.reduceBneDiff, Nat.reduceBNe, c15r1, semI.eq_10, semI.eq_11, semI.eq_3, semI.eq_5, semI.eq_7, e_api_Ref]
  obtain ⟨t, e1, h⟩ := Option.bind_eq_some_iff.1 h
  refine call_fun [] false ⟨trivial, trivial, trivial⟩ rfl ?_ (f_name_Parse_ok _ _ e1) (fun _ => rfl) (fun i hi => by cases hi) ?_
  · simp only [wz, wd, ws, Nat.reduceAdd, Nat.reduceSub, Nat.reduceMul, Nat.reduceLeDiff, Nat.reduceEqDiff, Nat.reduceLT, Nat.reduceBEq, reduceIte, reduceCtorEq, Int.reduceToNat, Nat.reduceShiftRight, Nat.reduceAnd, Nat.reduceBneDiff, Nat.reduceBNe, e_api_Ref]
  simp only [wz, wd, ws, Nat.reduceAdd, Nat.reduceSub, Nat.reduceMul, Nat.reduceLeDiff, Nat.reduceEqDiff, Nat.reduceLT, Nat.reduceBEq, reduceIte, reduceCtorEq, Int.reduceToNat, Nat.reduceShiftRight, Nat.reduceAnd, Nat.reduceBneDiff, Nat.reduceBNe, c15r1, semI.eq_10, semI.eq_11, semI.eq_3, semI.eq_5, semI.eq_7, e_api_Ref]
  refine .seq ?_
  refine Rw.walk ?_
  simp only [wz, wd, ws, Nat.reduceAdd, Nat.reduceSub, Nat.reduceMul, Nat.reduceLeDiff, Nat.reduceEqDiff, Nat.reduceLT, Nat.reduceBEq, reduceIte, reduceCtorEq, Int.reduceToNat, Nat.reduceShiftRight, Nat.reduceAnd, Nat.reduceBneDiff, Nat.reduceBNe, c15r2, semI.eq_10, semI.eq_11, semI.eq_3, semI.eq_5, semI.eq_7, e_api_Ref]
  refine call_alt (v := .b (.agg [(.d (.str t.1.Repo)), (.d (.str t.1.Tag)), (.d (.str t.1.Digest))])) rfl rfl (by simp only [wz, wd, ws, Nat.reduceAdd, Nat.reduceSub, Nat.reduceMul, Nat.reduceLeDiff, Nat.reduceEqDiff, Nat.reduceLT, Nat.reduceBEq, reduceIte, reduceCtorEq, Int.reduceToNat, Nat.reduceShiftRight, Nat.reduceAnd, Nat.reduceBneDiff, Nat.reduceBNe]) (fun q => ⟨_, by simp only [wz, wd, ws, Nat.reduceAdd, Nat.reduceSub, Nat.reduceMul, Nat.reduceLeDiff, Nat.reduceEqDiff, Nat.reduceLT, Nat.reduceBEq, reduceIte, reduceCtorEq, Int.reduceToNat, Nat.reduceShiftRight, Nat.reduceAnd, Nat.reduceBneDiff, Nat.reduceBNe, semI.eq_10, e_api_Ref], trivial⟩) ?_
  simp only [wz, wd, ws, Nat.reduceAdd, Nat.reduceSub, Nat.reduceMul, Nat.reduceLeDiff, Nat.reduceEqDiff, Nat.reduceLT, Nat.reduceBEq, reduceIte, reduceCtorEq, Int.reduceToNat, Nat.reduceShiftRight, Nat.reduceAnd, Nat.reduceBneDiff, Nat.reduceBNe, c15r2, semI.eq_10, semI.eq_11, semI.eq_3, semI.eq_5, semI.eq_7, e_api_Ref]
  repeat (refine And.intro ?_ ?_; · first | omega | (intro q; simp only [wz, wd, ws, Nat.reduceAdd, Nat.reduceSub, Nat.reduceMul, Nat.reduceLeDiff, Nat.reduceEqDiff, Nat.reduceLT, Nat.reduceBEq, reduceIte, reduceCtorEq, Int.reduceToNat, Nat.reduceShiftRight, Nat.reduceAnd, Nat.reduceBneDiff, Nat.reduceBNe, q]; done))
  obtain ⟨t2, e2, h⟩ := Option.bind_eq_some_iff.1 h
  refine call_funG [] rfl (by simp only [wz, wd, ws, Nat.reduceAdd, Nat.reduceSub, Nat.reduceMul, Nat.reduceLeDiff, Nat.reduceEqDiff, Nat.reduceLT, Nat.reduceBEq, reduceIte, reduceCtorEq, Int.reduceToNat, Nat.reduceShiftRight, Nat.reduceAnd, Nat.reduceBneDiff, Nat.reduceBNe]) rfl ?_ (fun q => (f_name_Repo_ok _ _ (gx_iff e2 (by simpa using q)))) rfl (fun i hi => by cases hi) ?_
  · simp only [wz, wd, ws, Nat.reduceAdd, Nat.reduceSub, Nat.reduceMul, Nat.reduceLeDiff, Nat.reduceEqDiff, Nat.reduceLT, Nat.reduceBEq, reduceIte, reduceCtorEq, Int.reduceToNat, Nat.reduceShiftRight, Nat.reduceAnd, Nat.reduceBneDiff, Nat.reduceBNe, e_api_Ref]
  simp only [wz, wd, ws, Nat.reduceAdd, Nat.reduceSub, Nat.reduceMul, Nat.reduceLeDiff, Nat.reduceEqDiff, Nat.reduceLT, Nat.reduceBEq, reduceIte, reduceCtorEq, Int.reduceToNat, Nat.reduceShiftRight, Nat.reduceAnd, Nat.reduceBneDiff, Nat.reduceBNe, c15r2, semI.eq_10, semI.eq_11, semI.eq_3, semI.eq_5, semI.eq_7, e_api_Ref]
  repeat (refine And.intro ?_ ?_; · first | omega | (intro q; simp only [wz, wd, ws, Nat.reduceAdd, Nat.reduceSub, Nat.reduceMul, Nat.reduceLeDiff, Nat.reduceEqDiff, Nat.reduceLT, Nat.reduceBEq, reduceIte, reduceCtorEq, Int.reduceToNat, Nat.reduceShiftRight, Nat.reduceAnd, Nat.reduceBneDiff, Nat.reduceBNe, q]; done))
  obtain rfl := Option.some.inj h
  refine .ret ?_
  rw [← hR]
  simp only [wz, wd, ws, Nat.reduceAdd, Nat.reduceSub, Nat.reduceMul, Nat.reduceLeDiff, Nat.reduceEqDiff, Nat.reduceLT, Nat.reduceBEq, reduceIte, reduceCtorEq, Int.reduceToNat, Nat.reduceShiftRight, Nat.reduceAnd, Nat.reduceBneDiff, Nat.reduceBNe, rv15, e_api_Ref]
-- 48 consignor/consignorref01.half
def c48r0 : List Opn := [
  ⟨(some 2), none, .mv (.c (.s (.d (.int .i64 0))))⟩]
def c48r1 : List Opn := [
  ⟨(some 3), none, .mv (.t 0)⟩, 
  ⟨(some 4), none, .bin .geq (.t 3) (.c (.s (.d (.int .u8 48))))⟩, 
  ⟨(some 5), none, .mv (.t 4)⟩, 
  ⟨(some 6), some (5, true), .mv (.t 0)⟩, 
  ⟨(some 7), some (5, true), .bin .leq (.t 6) (.c (.s (.d (.int .u8 57))))⟩, 
  ⟨(some 8), none, .pick (.t 5) (.t 7) (.c (.s (.d (.bool false))))⟩]
def c48r2 : List Opn := [
  ⟨(some 9), none, .mv (.t 0)⟩, 
  ⟨(some 10), none, .bin .sub (.t 9) (.c (.s (.d (.int .u8 48))))⟩, 
  ⟨(some 11), none, .cv (.toInt .i64) (.t 10)⟩, 
  ⟨(some 2), none, .mv (.t 11)⟩]
def c48r3 : List Opn := [
  ⟨(some 12), none, .mv (.t 0)⟩, 
  ⟨(some 13), none, .bin .geq (.t 12) (.c (.s (.d (.int .u8 97))))⟩, 
  ⟨(some 14), none, .mv (.t 13)⟩, 
  ⟨(some 15), some (14, true), .mv (.t 0)⟩, 
  ⟨(some 16), some (14, true), .bin .leq (.t 15) (.c (.s (.d (.int .u8 102))))⟩, 
  ⟨(some 17), none, .pick (.t 14) (.t 16) (.c (.s (.d (.bool false))))⟩]
def c48r4 : List Opn := [
  ⟨(some 18), none, .mv (.t 0)⟩, 
  ⟨(some 19), none, .bin .sub (.t 18) (.c (.s (.d (.int .u8 97))))⟩, 
  ⟨(some 20), none, .cv (.toInt .i64) (.t 19)⟩, 
  ⟨(some 21), none, .bin .add (.t 20) (.c (.s (.d (.int .i64 10))))⟩, 
  ⟨(some 2), none, .mv (.t 21)⟩]
def c48r5 : List Opn := [
  ⟨(some 2), none, .mv (.c (.s (.d (.int .i64 16))))⟩]
def c48 : C := .seq (.reg c48r0 none [0]) (.seq (.seq (.reg c48r1 none [0, 8]) (.cond (.t 8) (.seq (.reg c48r2 none [2]) (.ret)) (.skip))) (.seq (.seq (.reg c48r3 none [0, 17]) (.cond (.t 17) (.seq (.reg c48r4 none [2]) (.ret)) (.skip))) (.seq (.reg c48r5 none [2]) (.ret))))
def k48 : List (Nat × List Nat) := [(5, [2]), (4, [2]), (3, [0, 17]), (2, [2]), (1, [0, 8]), (0, [0])]
theorem cc48 : (Tryd.f48.body).bind (cC Tryd.prog 22 k48) = some c48 := by kernel_rfl
def rv48 : List RV := [.t 2]
theorem cr48 : cRVs Tryd.prog Tryd.f48.results.toList = some rv48 := by kernel_rfl
theorem f_ref01_half_ok (c : Int) (y_ : Int) (h : f_ref01_half c = some y_) : Fun Tryd.prog glP 48 [.b (.s (.d (.int .u8 c)))] (.b (.s (.d (.int .i64 y_)))) := by
  refine fun_walk [] Tryd.func48 Tryd.ntmps48 cc48 cr48 (by kernel_rfl) (by simp only [List.length_cons, List.length_nil]; decide) ?_
  generalize hR : Ret _ _ _ _ _ = R_
  simp only [wz, wd, ws, Nat.reduceAdd, Nat.reduceSub, Nat.reduceMul, Nat.reduceLeDiff, Nat.reduceEqDiff, Nat.reduceLT, Nat.reduceBEq, reduceIte, reduceCtorEq, Int.reduceToNat, Nat.reduceShiftRight, Nat.reduceAnd, Nat.reduceBneDiff, Nat.reduceBNe]
  unfold f_ref01_half at h; unfold c48
  refine .seq ?_
  refine Rw.walk ?_
  simp only [wz, wd, ws, Nat.reduceAdd, Nat.reduceSub, Nat.reduceMul, Nat.reduceLeDiff, Nat.reduceEqDiff, Nat.reduceLT, Nat.reduceBEq, reduceIte, reduceCtorEq, Int.reduceToNat, Nat.reduceShiftRight, Nat.reduceAnd, Nat.reduceBneDiff, Nat.reduceBNe, c48r0, semI.eq_10, semI.eq_11, semI.eq_3, semI.eq_5, semI.eq_7]
  refine .seq ?_
  refine .seq ?_
  refine Rw.walk ?_
  simp only [wz, wd, ws, Nat.reduceAdd, Nat.reduceSub, Nat.reduceMul, Nat.reduceLeDiff, Nat.reduceEqDiff, Nat.reduceLT, Nat.reduceBEq, reduceIte, reduceCtorEq, Int.reduceToNat, Nat.reduceShiftRight, Nat.reduceAnd, Nat.reduceBneDiff, Nat.reduceBNe, c48r1, semI.eq_10, semI.eq_11, semI.eq_3, semI.eq_5, semI.eq_7]
  repeat (refine And.intro ?_ ?_; · first | omega | (intro q; simp only [wz, wd, ws, Nat.reduceAdd, Nat.reduceSub, Nat.reduceMul, Nat.reduceLeDiff, Nat.reduceEqDiff, Nat.reduceLT, Nat.reduceBEq, reduceIte, reduceCtorEq, Int.reduceToNat, Nat.reduceShiftRight, Nat.reduceAnd, Nat.reduceBneDiff, Nat.reduceBNe, q]; done))
  refine .cond (p := ((decide (c ≥ 48)) && (decide (c ≤ 57)))) (by first | rfl | simp only [wz, wd, ws, Nat.reduceAdd, Nat.reduceSub, Nat.reduceMul, Nat.reduceLeDiff, Nat.reduceEqDiff, Nat.reduceLT, Nat.reduceBEq, reduceIte, reduceCtorEq, Int.reduceToNat, Nat.reduceShiftRight, Nat.reduceAnd, Nat.reduceBneDiff, Nat.reduceBNe]) (fun h1 => ?_) (fun h1 => ?_)
  · rw [ite_t h1] at h
    refine .seq ?_
    refine Rw.walk ?_
    simp only [wz, wd, ws, Nat.reduceAdd, Nat.reduceSub, Nat.reduceMul, Nat.reduceLeDiff, Nat.reduceEqDiff, Nat.reduceLT, Nat.reduceBEq, reduceIte, reduceCtorEq, Int.reduceToNat, Nat.reduceShiftRight, Nat.reduceAnd, Nat.reduceBneDiff, Nat.reduceBNe, c48r2, semI.eq_10, semI.eq_11, semI.eq_3, semI.eq_5, semI.eq_7]
    obtain rfl := Option.some.inj h
    refine .ret ?_
    rw [← hR]
    simp only [wz, wd, ws, Nat.reduceAdd, Nat.reduceSub, Nat.reduceMul, Nat.reduceLeDiff, Nat.reduceEqDiff, Nat.reduceLT, Nat.reduceBEq, reduceIte, reduceCtorEq, Int.reduceToNat, Nat.reduceShiftRight, Nat.reduceAnd, Nat.reduceBneDiff, Nat.reduceBNe, rv48]
  · rw [ite_f h1] at h
    refine .skip ?_
    refine .seq ?_
    refine .seq ?_
    refine Rw.walk ?_
    simp only [wz, wd, ws, Nat.reduceAdd, Nat.reduceSub, Nat.reduceMul, Nat.reduceLeDiff, Nat.reduceEqDiff, Nat.reduceLT, Nat.reduceBEq, reduceIte, reduceCtorEq, Int.reduceToNat, Nat.reduceShiftRight, Nat.reduceAnd, Nat.reduceBneDiff, Nat.reduceBNe, c48r3, semI.eq_10, semI.eq_11, semI.eq_3, semI.eq_5, semI.eq_7]
    repeat (refine And.intro ?_ ?_; · first | omega | (intro q; simp only [wz, wd, ws, Nat.reduceAdd, Nat.reduceSub, Nat.reduceMul, Nat.reduceLeDiff, Nat.reduceEqDiff, Nat.reduceLT, Nat.reduceBEq, reduceIte, reduceCtorEq, Int.reduceToNat, Nat.reduceShiftRight, Nat.reduceAnd, Nat.reduceBneDiff, Nat.reduceBNe, q]; done))
    refine .cond (p := ((decide (c ≥ 97)) && (decide (c ≤ 102)))) (by first | rfl | simp only [wz, wd, ws, Nat.reduceAdd, Nat.reduceSub, Nat.reduceMul, Nat.reduceLeDiff, Nat.reduceEqDiff, Nat.reduceLT, Nat.reduceBEq, reduceIte, reduceCtorEq, Int.reduceToNat, Nat.reduceShiftRight, Nat.reduceAnd, Nat.reduceBneDiff, Nat.reduceBNe]) (fun h1 => ?_) (fun h1 => ?_)
    · rw [ite_t h1] at h
      refine .seq ?_
      refine Rw.walk ?_
      simp only [wz, wd, ws, Nat.reduceAdd, Nat.reduceSub, Nat.reduceMul, Nat.reduceLeDiff, Nat.reduceEqDiff, Nat.reduceLT, Nat.reduceBEq, reduceIte, reduceCtorEq, Int.reduceToNat, Nat.reduceShiftRight, Nat.reduceAnd, Nat.reduceBneDiff, Nat.reduceBNe, c48r4, semI.eq_10, semI.eq_11, semI.eq_3, semI.eq_5, semI.eq_7]
      obtain rfl := Option.some.inj h
      refine .ret ?_
      rw [← hR]
      simp only [wz, wd, ws, Nat.reduceAdd, Nat.reduceSub, Nat.reduceMul, Nat.reduceLeDiff, Nat.reduceEqDiff, Nat.reduceLT, Nat.reduceBEq, reduceIte, reduceCtorEq, Int.reduceToNat, Nat.reduceShiftRight, Nat.reduceAnd, Nat.reduceBneDiff, Nat.reduceBNe, rv48]
    · rw [ite_f h1] at h
      refine .skip ?_
      refine .seq ?_
      refine Rw.walk ?_
      simp only [wz, wd, ws, Nat.reduceAdd, Nat.reduceSub, Nat.reduceMul, Nat.reduceLeDiff, Nat.reduceEqDiff, Nat.reduceLT, Nat.reduceBEq, reduceIte, reduceCtorEq, Int.reduceToNat, Nat.reduceShiftRight, Nat.reduceAnd, Nat.reduceBneDiff, Nat.reduceBNe, c48r5, semI.eq_10, semI.eq_11, semI.eq_3, semI.eq_5, semI.eq_7]
      obtain rfl := Option.some.inj h
      refine .ret ?_
      rw [← hR]
      simp only [wz, wd, ws, Nat.reduceAdd, Nat.reduceSub, Nat.reduceMul, Nat.reduceLeDiff, Nat.reduceEqDiff, Nat.reduceLT, Nat.reduceBEq, reduceIte, reduceCtorEq, Int.reduceToNat, Nat.reduceShiftRight, Nat.reduceAnd, Nat.reduceBneDiff, Nat.reduceBNe, rv48]
-- 36 consignor/consignorref01.Bytes
def c36r0 : List Opn := [
  ⟨(some 2), none, .mv (.c (.s (.d (.str []))))⟩, 
  ⟨(some 3), none, .mv (.c (.s (.d (.bool false))))⟩]
def c36r1 : List Opn := [
  ⟨(some 6), none, .bsl 1 []⟩, 
  ⟨(some 4), none, .mv (.t 6)⟩]
def c36r2 : List Opn := [
  ⟨(some 5), none, .mv (.c (.s (.d (.int .i64 0))))⟩]
def c36r3 : List Opn := [
  ⟨(some 7), none, .mv (.t 5)⟩, 
  ⟨(some 8), none, .bin .add (.t 7) (.c (.s (.d (.int .i64 1))))⟩, 
  ⟨(some 9), none, .mv (.t 0)⟩, 
  ⟨(some 10), none, .len .str (.t 9)⟩, 
  ⟨(some 11), none, .bin .lss (.t 8) (.t 10)⟩]
def c36r5 : List Opn := [
  ⟨(some 14), none, .mv (.t 0)⟩, 
  ⟨(some 15), none, .mv (.t 5)⟩, 
  ⟨(some 16), none, .idx .str (.t 14) (.t 15)⟩, 
  ⟨(some 17), none, .call (.fn 48) [(.t 16)]⟩, 
  ⟨(some 18), none, .bin .gtr (.t 17) (.c (.s (.d (.int .i64 15))))⟩, 
  ⟨(some 19), none, .mv (.t 18)⟩, 
  ⟨(some 20), some (19, false), .mv (.t 0)⟩, 
  ⟨(some 21), some (19, false), .mv (.t 5)⟩, 
  ⟨(some 22), some (19, false), .bin .add (.t 21) (.c (.s (.d (.int .i64 1))))⟩, 
  ⟨(some 23), some (19, false), .idx .str (.t 20) (.t 22)⟩, 
  ⟨(some 24), some (19, false), .call (.fn 48) [(.t 23)]⟩, 
  ⟨(some 25), some (19, false), .bin .gtr (.t 24) (.c (.s (.d (.int .i64 15))))⟩, 
  ⟨(some 26), none, .pick (.t 19) (.c (.s (.d (.bool true)))) (.t 25)⟩]
def c36r6 : List Opn := [
  ⟨(some 2), none, .mv (.c (.s (.d (.str []))))⟩, 
  ⟨(some 3), none, .mv (.c (.s (.d (.bool false))))⟩]
def c36r7 : List Opn := [
  ⟨(some 27), none, .mv (.t 4)⟩, 
  ⟨(some 28), none, .mv (.t 0)⟩, 
  ⟨(some 29), none, .mv (.t 5)⟩, 
  ⟨(some 30), none, .idx .str (.t 28) (.t 29)⟩, 
  ⟨(some 31), none, .call (.fn 48) [(.t 30)]⟩, 
  ⟨(some 32), none, .bin .mul (.c (.s (.d (.int .i64 16)))) (.t 31)⟩, 
  ⟨(some 33), none, .mv (.t 0)⟩, 
  ⟨(some 34), none, .mv (.t 5)⟩, 
  ⟨(some 35), none, .bin .add (.t 34) (.c (.s (.d (.int .i64 1))))⟩, 
  ⟨(some 36), none, .idx .str (.t 33) (.t 35)⟩, 
  ⟨(some 37), none, .call (.fn 48) [(.t 36)]⟩, 
  ⟨(some 38), none, .bin .add (.t 32) (.t 37)⟩, 
  ⟨(some 39), none, .cv (.toInt .u8) (.t 38)⟩, 
  ⟨(some 40), none, .bsl 1 [(.t 39)]⟩, 
  ⟨(some 41), none, .app 1 1 false (.t 27) (.t 40)⟩, 
  ⟨(some 4), none, .mv (.t 41)⟩]
def c36r4 : List Opn := [
  ⟨(some 12), none, .mv (.t 5)⟩, 
  ⟨(some 13), none, .bin .add (.t 12) (.c (.s (.d (.int .i64 2))))⟩, 
  ⟨(some 5), none, .mv (.t 13)⟩]
def c36l8 : C := .seq (.seq (.reg c36r3 none [0, 4, 5, 11]) (.cond (.t 11) (.skip) (.exit 0))) (.seq (.blk 1 (.seq (.seq (.reg c36r5 none [0, 4, 5, 26]) (.cond (.t 26) (.seq (.reg c36r6 none [2, 3]) (.ret)) (.skip))) (.reg c36r7 (some [0, 0, 0, 6, 14, 30, 0, 0, 128, 448, 990, 2046, 4094, 8190, 16383, 32767]) [0, 4, 5]))) (.reg c36r4 none [0, 4, 5]))
def c36r8 : List Opn := [
  ⟨(some 42), none, .mv (.t 4)⟩, 
  ⟨(some 43), none, .cv .b2s (.t 42)⟩, 
  ⟨(some 44), none, .mv (.t 0)⟩, 
  ⟨(some 45), none, .len .str (.t 44)⟩, 
  ⟨(some 46), none, .bin .rem (.t 45) (.c (.s (.d (.int .i64 2))))⟩, 
  ⟨(some 47), none, .bin .eql (.t 46) (.c (.s (.d (.int .i64 0))))⟩, 
  ⟨(some 2), none, .mv (.t 43)⟩, 
  ⟨(some 3), none, .mv (.t 47)⟩]
def c36 : C := .seq (.reg c36r0 none [0]) (.seq (.reg c36r1 none [0, 4]) (.seq (.seq (.reg c36r2 none [0, 4, 5]) (.blk 0 (.loop c36l8))) (.seq (.reg c36r8 none [2, 3]) (.ret))))
def k36 : List (Nat × List Nat) := [(8, [2, 3]), (4, [0, 4, 5]), (7, [0, 4, 5]), (6, [2, 3]), (5, [0, 4, 5, 26]), (3, [0, 4, 5, 11]), (2, [0, 4, 5]), (1, [0, 4]), (0, [0])]
theorem cc36 : (Tryd.f36.body).bind (cC Tryd.prog 48 k36) = some c36 := by kernel_rfl
def rv36 : List RV := [.t 2, .t 3]
theorem cr36 : cRVs Tryd.prog Tryd.f36.results.toList = some rv36 := by kernel_rfl
theorem f_ref01_Bytes_l8_ok (s : Str) (y_ : Str × Bool) (R_ : St → Prop) (hR : (Ret Tryd.prog glP [] rv36 (.tup [.s (.d (.str y_.1)), .s (.d (.bool y_.2))])) = R_) : ∀ (m_ : Nat) (i : Int) (b : (List Int)) (res_ : (Int × (List Int)) ⊕ (Str × Bool)) (h : f_ref01_Bytes_l8 s m_ i b = some res_) (k_ : List It) (hx : ∀ s_ : Int × (List Int), res_ = .inl s_ → W Tryd.prog glP 48 k_ ⟨lkT [(0, .b (.s (.d (.str s)))), (4, .b (.s (.own 6 s_.2.length))), (5, .b (.s (.d (.int .i64 s_.1))))], lkG [(6, ⟨1, er (eI .u8) s_.2, false⟩)]⟩ R_) (hr : ∀ z_ : Str × Bool, res_ = .inr z_ → z_ = y_), W Tryd.prog glP 48 (.c c36l8 :: .lp c36l8 :: .blk 0 :: k_) ⟨lkT [(0, .b (.s (.d (.str s)))), (4, .b (.s (.own 6 b.length))), (5, .b (.s (.d (.int .i64 i))))], lkG [(6, ⟨1, er (eI .u8) b, false⟩)]⟩ R_ := by
  intro m_; induction m_ with
  | zero => intro i b res_ h; rw [f_ref01_Bytes_l8.eq_1] at h; cases h
  | succ m_ ih =>
    intro i b res_ h k_ hx hr; rw [f_ref01_Bytes_l8.eq_2] at h; refine W.cdef c36l8.eq_1 ?_
    refine .seq ?_
    refine .seq ?_
    refine Rw.walk ?_
    simp only [wz, wd, ws, Nat.reduceAdd, Nat.reduceSub, Nat.reduceMul, Nat.reduceLeDiff, Nat.reduceEqDiff, Nat.reduceLT, Nat.reduceBEq, reduceIte, reduceCtorEq, Int.reduceToNat, Nat.reduceShiftRight, Nat.reduceAnd, Nat.reduceBneDiff, Nat.reduceBNe, c36r3, semI.eq_10, semI.eq_11, semI.eq_3, semI.eq_5, semI.eq_7]
    refine .cond (p := (decide ((IntKind.i64.wrap (i + 1)) < (s.length : Int)))) (by first | rfl | simp only [wz, wd, ws, Nat.reduceAdd, Nat.reduceSub, Nat.reduceMul, Nat.reduceLeDiff, Nat.reduceEqDiff, Nat.reduceLT, Nat.reduceBEq, reduceIte, reduceCtorEq, Int.reduceToNat, Nat.reduceShiftRight, Nat.reduceAnd, Nat.reduceBneDiff, Nat.reduceBNe]) (fun h1 => ?_) (fun h1 => ?_)
    · rw [ite_t h1] at h
      refine .skip ?_
      refine .seq ?_
      refine .blk ?_
      refine .seq ?_
      refine .seq ?_
      refine Rw.walk ?_
      simp only [wz, wd, ws, Nat.reduceAdd, Nat.reduceSub, Nat.reduceMul, Nat.reduceLeDiff, Nat.reduceEqDiff, Nat.reduceLT, Nat.reduceBEq, reduceIte, reduceCtorEq, Int.reduceToNat, Nat.reduceShiftRight, Nat.reduceAnd, Nat.reduceBneDiff, Nat.reduceBNe, c36r5, semI.eq_10, semI.eq_11, semI.eq_3, semI.eq_5, semI.eq_7]
      obtain ⟨c, e1, h⟩ := Option.bind_eq_some_iff.1 h
      refine Go1.of (sem_idx e1 (by rfl) (by rfl)) ?_
      simp only [wz, wd, ws, Nat.reduceAdd, Nat.reduceSub, Nat.reduceMul, Nat.reduceLeDiff, Nat.reduceEqDiff, Nat.reduceLT, Nat.reduceBEq, reduceIte, reduceCtorEq, Int.reduceToNat, Nat.reduceShiftRight, Nat.reduceAnd, Nat.reduceBneDiff, Nat.reduceBNe, c36r5, semI.eq_10, semI.eq_11, semI.eq_3, semI.eq_5, semI.eq_7]
      obtain ⟨t, e2, h⟩ := Option.bind_eq_some_iff.1 h
      refine call_fun [] false ⟨trivial, trivial, trivial⟩ rfl ?_ (f_ref01_half_ok _ _ e2) (fun _ => rfl) (fun i hi => by cases hi) ?_
      · simp only [wz, wd, ws, Nat.reduceAdd, Nat.reduceSub, Nat.reduceMul, Nat.reduceLeDiff, Nat.reduceEqDiff, Nat.reduceLT, Nat.reduceBEq, reduceIte, reduceCtorEq, Int.reduceToNat, Nat.reduceShiftRight, Nat.reduceAnd, Nat.reduceBneDiff, Nat.reduceBNe]
      simp only [wz, wd, ws, Nat.reduceAdd, Nat.reduceSub, Nat.reduceMul, Nat.reduceLeDiff, Nat.reduceEqDiff, Nat.reduceLT, Nat.reduceBEq, reduceIte, reduceCtorEq, Int.reduceToNat, Nat.reduceShiftRight, Nat.reduceAnd, Nat.reduceBneDiff, Nat.reduceBNe, c36r5, semI.eq_10, semI.eq_11, semI.eq_3, semI.eq_5, semI.eq_7]
      obtain ⟨g3, h⟩ := gd_iff.1 h
      refine Go2.of (se_idxS) ?_
      simp only [wz, wd, ws, Nat.reduceAdd, Nat.reduceSub, Nat.reduceMul, Nat.reduceLeDiff, Nat.reduceEqDiff, Nat.reduceLT, Nat.reduceBEq, reduceIte, reduceCtorEq, Int.reduceToNat, Nat.reduceShiftRight, Nat.reduceAnd, Nat.reduceBneDiff, Nat.reduceBNe, c36r5, semI.eq_10, semI.eq_11, semI.eq_3, semI.eq_5, semI.eq_7]
      repeat (refine And.intro ?_ ?_; · first | omega | exact g3 | (intro q; first | omega | (have q2 := g3 (by simpa using q); omega) | (have q2 := g3 q; omega) | (have q2 := g3 (by simpa using q); simp only [List.length_append, List.length_cons, List.length_nil] at q2 ⊢; omega)) | (intro q; simp only [wz, wd, ws, Nat.reduceAdd, Nat.reduceSub, Nat.reduceMul, Nat.reduceLeDiff, Nat.reduceEqDiff, Nat.reduceLT, Nat.reduceBEq, reduceIte, reduceCtorEq, Int.reduceToNat, Nat.reduceShiftRight, Nat.reduceAnd, Nat.reduceBneDiff, Nat.reduceBNe, q]; done))
      obtain ⟨t2, e4, h⟩ := Option.bind_eq_some_iff.1 h
      refine call_funG [] rfl (by simp only [wz, wd, ws, Nat.reduceAdd, Nat.reduceSub, Nat.reduceMul, Nat.reduceLeDiff, Nat.reduceEqDiff, Nat.reduceLT, Nat.reduceBEq, reduceIte, reduceCtorEq, Int.reduceToNat, Nat.reduceShiftRight, Nat.reduceAnd, Nat.reduceBneDiff, Nat.reduceBNe]) rfl ?_ (fun q => (f_ref01_half_ok _ _ (gx_iff e4 (by simpa using q)))) rfl (fun i hi => by cases hi) ?_
      · simp only [wz, wd, ws, Nat.reduceAdd, Nat.reduceSub, Nat.reduceMul, Nat.reduceLeDiff, Nat.reduceEqDiff, Nat.reduceLT, Nat.reduceBEq, reduceIte, reduceCtorEq, Int.reduceToNat, Nat.reduceShiftRight, Nat.reduceAnd, Nat.reduceBneDiff, Nat.reduceBNe]
      simp only [wz, wd, ws, Nat.reduceAdd, Nat.reduceSub, Nat.reduceMul, Nat.reduceLeDiff, Nat.reduceEqDiff, Nat.reduceLT, Nat.reduceBEq, reduceIte, reduceCtorEq, Int.reduceToNat, Nat.reduceShiftRight, Nat.reduceAnd, Nat.reduceBneDiff, Nat.reduceBNe, c36r5, semI.eq_10, semI.eq_11, semI.eq_3, semI.eq_5, semI.eq_7]
      repeat (refine And.intro ?_ ?_; · first | omega | exact g3 | (intro q; first | omega | (have q2 := g3 (by simpa using q); omega) | (have q2 := g3 q; omega) | (have q2 := g3 (by simpa using q); simp only [List.length_append, List.length_cons, List.length_nil] at q2 ⊢; omega)) | (intro q; simp only [wz, wd, ws, Nat.reduceAdd, Nat.reduceSub, Nat.reduceMul, Nat.reduceLeDiff, Nat.reduceEqDiff, Nat.reduceLT, Nat.reduceBEq, reduceIte, reduceCtorEq, Int.reduceToNat, Nat.reduceShiftRight, Nat.reduceAnd, Nat.reduceBneDiff, Nat.reduceBNe, q]; done))
      refine .cond (p := ((decide (t > 15)) || (decide (t2 > 15)))) (by first | rfl | simp only [wz, wd, ws, Nat.reduceAdd, Nat.reduceSub, Nat.reduceMul, Nat.reduceLeDiff, Nat.reduceEqDiff, Nat.reduceLT, Nat.reduceBEq, reduceIte, reduceCtorEq, Int.reduceToNat, Nat.reduceShiftRight, Nat.reduceAnd, Nat.reduceBneDiff, Nat.reduceBNe]) (fun h1 => ?_) (fun h1 => ?_)
      · rw [ite_t h1] at h
        refine .seq ?_
        refine Rw.walk ?_
        simp only [wz, wd, ws, Nat.reduceAdd, Nat.reduceSub, Nat.reduceMul, Nat.reduceLeDiff, Nat.reduceEqDiff, Nat.reduceLT, Nat.reduceBEq, reduceIte, reduceCtorEq, Int.reduceToNat, Nat.reduceShiftRight, Nat.reduceAnd, Nat.reduceBneDiff, Nat.reduceBNe, c36r6, semI.eq_10, semI.eq_11, semI.eq_3, semI.eq_5, semI.eq_7]
        obtain rfl := Option.some.inj h; obtain rfl := hr _ rfl
        refine .ret ?_
        rw [← hR]
        simp only [wz, wd, ws, Nat.reduceAdd, Nat.reduceSub, Nat.reduceMul, Nat.reduceLeDiff, Nat.reduceEqDiff, Nat.reduceLT, Nat.reduceBEq, reduceIte, reduceCtorEq, Int.reduceToNat, Nat.reduceShiftRight, Nat.reduceAnd, Nat.reduceBneDiff, Nat.reduceBNe, rv36]
      · rw [ite_f h1] at h
        refine .skip ?_
        refine RwD.walk ?_
        simp only [wz, wd, ws, Nat.reduceAdd, Nat.reduceSub, Nat.reduceMul, Nat.reduceLeDiff, Nat.reduceEqDiff, Nat.reduceLT, Nat.reduceBEq, reduceIte, reduceCtorEq, Int.reduceToNat, Nat.reduceShiftRight, Nat.reduceAnd, Nat.reduceBneDiff, Nat.reduceBNe, c36r7, semI.eq_10, semI.eq_11, semI.eq_3, semI.eq_5, semI.eq_7]
        obtain ⟨c2, e5, h⟩ := Option.bind_eq_some_iff.1 h
        refine GoD1.of (sem_idx e5 (by rfl) (by rfl)) ?_
        simp only [wz, wd, ws, Nat.reduceAdd, Nat.reduceSub, Nat.reduceMul, Nat.reduceLeDiff, Nat.reduceEqDiff, Nat.reduceLT, Nat.reduceBEq, reduceIte, reduceCtorEq, Int.reduceToNat, Nat.reduceShiftRight, Nat.reduceAnd, Nat.reduceBneDiff, Nat.reduceBNe, c36r7, semI.eq_10, semI.eq_11, semI.eq_3, semI.eq_5, semI.eq_7]
        obtain ⟨t3, e6, h⟩ := Option.bind_eq_some_iff.1 h
        refine call_fun [] false ⟨trivial, trivial, trivial⟩ rfl ?_ (f_ref01_half_ok _ _ e6) (fun _ => rfl) (fun i hi => by cases hi) ?_
        · simp only [wz, wd, ws, Nat.reduceAdd, Nat.reduceSub, Nat.reduceMul, Nat.reduceLeDiff, Nat.reduceEqDiff, Nat.reduceLT, Nat.reduceBEq, reduceIte, reduceCtorEq, Int.reduceToNat, Nat.reduceShiftRight, Nat.reduceAnd, Nat.reduceBneDiff, Nat.reduceBNe]
        simp only [wz, wd, ws, Nat.reduceAdd, Nat.reduceSub, Nat.reduceMul, Nat.reduceLeDiff, Nat.reduceEqDiff, Nat.reduceLT, Nat.reduceBEq, reduceIte, reduceCtorEq, Int.reduceToNat, Nat.reduceShiftRight, Nat.reduceAnd, Nat.reduceBneDiff, Nat.reduceBNe, c36r7, semI.eq_10, semI.eq_11, semI.eq_3, semI.eq_5, semI.eq_7]
        obtain ⟨c3, e7, h⟩ := Option.bind_eq_some_iff.1 h
        refine GoD1.of (sem_idx e7 (by rfl) (by rfl)) ?_
        simp only [wz, wd, ws, Nat.reduceAdd, Nat.reduceSub, Nat.reduceMul, Nat.reduceLeDiff, Nat.reduceEqDiff, Nat.reduceLT, Nat.reduceBEq, reduceIte, reduceCtorEq, Int.reduceToNat, Nat.reduceShiftRight, Nat.reduceAnd, Nat.reduceBneDiff, Nat.reduceBNe, c36r7, semI.eq_10, semI.eq_11, semI.eq_3, semI.eq_5, semI.eq_7]
        obtain ⟨t4, e8, h⟩ := Option.bind_eq_some_iff.1 h
        refine call_fun [] false ⟨trivial, trivial, trivial⟩ rfl ?_ (f_ref01_half_ok _ _ e8) (fun _ => rfl) (fun i hi => by cases hi) ?_
        · simp only [wz, wd, ws, Nat.reduceAdd, Nat.reduceSub, Nat.reduceMul, Nat.reduceLeDiff, Nat.reduceEqDiff, Nat.reduceLT, Nat.reduceBEq, reduceIte, reduceCtorEq, Int.reduceToNat, Nat.reduceShiftRight, Nat.reduceAnd, Nat.reduceBneDiff, Nat.reduceBNe]
        simp only [wz, wd, ws, Nat.reduceAdd, Nat.reduceSub, Nat.reduceMul, Nat.reduceLeDiff, Nat.reduceEqDiff, Nat.reduceLT, Nat.reduceBEq, reduceIte, reduceCtorEq, Int.reduceToNat, Nat.reduceShiftRight, Nat.reduceAnd, Nat.reduceBneDiff, Nat.reduceBNe, c36r7, semI.eq_10, semI.eq_11, semI.eq_3, semI.eq_5, semI.eq_7]
        refine GoD1.of (sem_bsl (enc := (eI .u8)) (m := ([(IntKind.u8.wrap (IntKind.i64.wrap ((IntKind.i64.wrap (16 * t3)) + t4)))] : List Int)) (eI_len _) (by rfl) (by rfl) (by rfl) ⟨trivial, trivial⟩) ?_
        simp only [wz, wd, ws, Nat.reduceAdd, Nat.reduceSub, Nat.reduceMul, Nat.reduceLeDiff, Nat.reduceEqDiff, Nat.reduceLT, Nat.reduceBEq, reduceIte, reduceCtorEq, Int.reduceToNat, Nat.reduceShiftRight, Nat.reduceAnd, Nat.reduceBneDiff, Nat.reduceBNe, c36r7, semI.eq_10, semI.eq_11, semI.eq_3, semI.eq_5, semI.eq_7]
        obtain ⟨g9, h⟩ := gd_iff.1 h
        refine GoD1.of (sem_app (enc := (eI .u8)) (l := b) (m := ([(IntKind.u8.wrap (IntKind.i64.wrap ((IntKind.i64.wrap (16 * t3)) + t4)))] : List Int)) (eI_len _) (by rfl) (by rfl) (newV_own (m := ([(IntKind.u8.wrap (IntKind.i64.wrap ((IntKind.i64.wrap (16 * t3)) + t4)))] : List Int)) (by rfl) (by rfl))) ?_
        simp only [wz, wd, ws, Nat.reduceAdd, Nat.reduceSub, Nat.reduceMul, Nat.reduceLeDiff, Nat.reduceEqDiff, Nat.reduceLT, Nat.reduceBEq, reduceIte, reduceCtorEq, Int.reduceToNat, Nat.reduceShiftRight, Nat.reduceAnd, Nat.reduceBneDiff, Nat.reduceBNe, c36r7, semI.eq_10, semI.eq_11, semI.eq_3, semI.eq_5, semI.eq_7]
        repeat (refine And.intro ?_ ?_; · first | omega | (intro q; simp only [wz, wd, ws, Nat.reduceAdd, Nat.reduceSub, Nat.reduceMul, Nat.reduceLeDiff, Nat.reduceEqDiff, Nat.reduceLT, Nat.reduceBEq, reduceIte, reduceCtorEq, Int.reduceToNat, Nat.reduceShiftRight, Nat.reduceAnd, Nat.reduceBneDiff, Nat.reduceBNe, q]; done))
        refine .eblk ?_
        refine Rw.walk ?_
        simp only [wz, wd, ws, Nat.reduceAdd, Nat.reduceSub, Nat.reduceMul, Nat.reduceLeDiff, Nat.reduceEqDiff, Nat.reduceLT, Nat.reduceBEq, reduceIte, reduceCtorEq, Int.reduceToNat, Nat.reduceShiftRight, Nat.reduceAnd, Nat.reduceBneDiff, Nat.reduceBNe, c36r4, semI.eq_10, semI.eq_11, semI.eq_3, semI.eq_5, semI.eq_7]
        refine .lp ?_
        refine .weak (Imp.co [] _ _ ?_ ?_ ?_ ?_ ?_) (ih (IntKind.i64.wrap (i + 2)) (b ++ ([(IntKind.u8.wrap (IntKind.i64.wrap ((IntKind.i64.wrap (16 * t3)) + t4)))] : List Int)) _ h k_ hx hr) <;> simp only [wz, wd, ws, Nat.reduceAdd, Nat.reduceSub, Nat.reduceMul, Nat.reduceLeDiff, Nat.reduceEqDiff, Nat.reduceLT, Nat.reduceBEq, reduceIte, reduceCtorEq, Int.reduceToNat, Nat.reduceShiftRight, Nat.reduceAnd, Nat.reduceBneDiff, Nat.reduceBNe, wi, er_nil]
    · rw [ite_f h1] at h
      refine .exit rfl ?_
      obtain rfl := Option.some.inj h
      refine .weak (Imp.co [] _ _ ?_ ?_ ?_ ?_ ?_) (hx _ rfl) <;> simp only [wz, wd, ws, Nat.reduceAdd, Nat.reduceSub, Nat.reduceMul, Nat.reduceLeDiff, Nat.reduceEqDiff, Nat.reduceLT, Nat.reduceBEq, reduceIte, reduceCtorEq, Int.reduceToNat, Nat.reduceShiftRight, Nat.reduceAnd, Nat.reduceBneDiff, Nat.reduceBNe, wi, er_nil]
theorem f_ref01_Bytes_ok (s : Str) (y_ : Str × Bool) (h : f_ref01_Bytes s = some y_) : Fun Tryd.prog glP 36 [.b (.s (.d (.str s)))] (.tup [.s (.d (.str y_.1)), .s (.d (.bool y_.2))]) := by
  refine fun_walk [] Tryd.func36 Tryd.ntmps36 cc36 cr36 (by kernel_rfl) (by simp only [List.length_cons, List.length_nil]; decide) ?_
  generalize hR : Ret _ _ _ _ _ = R_
  simp only [wz, wd, ws, Nat.reduceAdd, Nat.reduceSub, Nat.reduceMul, Nat.reduceLeDiff, Nat.reduceEqDiff, Nat.reduceLT, Nat.reduceBEq, reduceIte, reduceCtorEq, Int.reduceToNat, Nat.reduceShiftRight, Nat.reduceAnd, Nat.reduceBneDiff, Nat.reduceBNe]
  unfold f_ref01_Bytes at h; unfold c36
  refine .seq ?_
  refine Rw.walk ?_
  simp only [wz, wd, ws, Nat.reduceAdd, Nat.reduceSub, Nat.reduceMul, Nat.reduceLeDiff, Nat.reduceEqDiff, Nat.reduceLT, Nat.reduceBEq, reduceIte, reduceCtorEq, Int.reduceToNat, Nat.reduceShiftRight, Nat.reduceAnd, Nat.reduceBneDiff, Nat.reduceBNe, c36r0, semI.eq_10, semI.eq_11, semI.eq_3, semI.eq_5, semI.eq_7]
  refine .seq ?_
  refine Rw.walk ?_
  simp only [wz, wd, ws, Nat.reduceAdd, Nat.reduceSub, Nat.reduceMul, Nat.reduceLeDiff, Nat.reduceEqDiff, Nat.reduceLT, Nat.reduceBEq, reduceIte, reduceCtorEq, Int.reduceToNat, Nat.reduceShiftRight, Nat.reduceAnd, Nat.reduceBneDiff, Nat.reduceBNe, c36r1, semI.eq_10, semI.eq_11, semI.eq_3, semI.eq_5, semI.eq_7]
  refine Go1.of (sem_bsl (enc := (eI .u8)) (m := ([] : List Int)) (eI_len _) (by rfl) (by rfl) (by rfl) trivial) ?_
  simp only [wz, wd, ws, Nat.reduceAdd, Nat.reduceSub, Nat.reduceMul, Nat.reduceLeDiff, Nat.reduceEqDiff, Nat.reduceLT, Nat.reduceBEq, reduceIte, reduceCtorEq, Int.reduceToNat, Nat.reduceShiftRight, Nat.reduceAnd, Nat.reduceBneDiff, Nat.reduceBNe, c36r1, semI.eq_10, semI.eq_11, semI.eq_3, semI.eq_5, semI.eq_7]
  refine .seq ?_
  refine .seq ?_
  refine Rw.walk ?_
  simp only [wz, wd, ws, Nat.reduceAdd, Nat.reduceSub, Nat.reduceMul, Nat.reduceLeDiff, Nat.reduceEqDiff, Nat.reduceLT, Nat.reduceBEq, reduceIte, reduceCtorEq, Int.reduceToNat, Nat.reduceShiftRight, Nat.reduceAnd, Nat.reduceBneDiff, Nat.reduceBNe, c36r2, semI.eq_10, semI.eq_11, semI.eq_3, semI.eq_5, semI.eq_7]
  refine .blk ?_
  obtain ⟨s2, hf, h⟩ := Option.bind_eq_some_iff.1 h
  refine .loop (.weak (Imp.co [] _ _ ?c1 ?c2 ?c3 ?c4 ?c5) (f_ref01_Bytes_l8_ok s _ _ hR _ _ _ _ hf _ ?_ ?_))
  case c1 | c2 | c3 | c4 | c5 => simp only [wz, wd, ws, Nat.reduceAdd, Nat.reduceSub, Nat.reduceMul, Nat.reduceLeDiff, Nat.reduceEqDiff, Nat.reduceLT, Nat.reduceBEq, reduceIte, reduceCtorEq, Int.reduceToNat, Nat.reduceShiftRight, Nat.reduceAnd, Nat.reduceBneDiff, Nat.reduceBNe, wi, er_nil]
  · intro s3 hs; subst hs; dsimp only at h
    refine .seq ?_
    refine Rw.walk ?_
    simp only [wz, wd, ws, Nat.reduceAdd, Nat.reduceSub, Nat.reduceMul, Nat.reduceLeDiff, Nat.reduceEqDiff, Nat.reduceLT, Nat.reduceBEq, reduceIte, reduceCtorEq, Int.reduceToNat, Nat.reduceShiftRight, Nat.reduceAnd, Nat.reduceBneDiff, Nat.reduceBNe, c36r8, semI.eq_10, semI.eq_11, semI.eq_3, semI.eq_5, semI.eq_7]
    refine Go1.of (sem_b2s (n := s3.2) (rowsV_own (m := s3.2) (by rfl) (by rfl))) ?_
    simp only [wz, wd, ws, Nat.reduceAdd, Nat.reduceSub, Nat.reduceMul, Nat.reduceLeDiff, Nat.reduceEqDiff, Nat.reduceLT, Nat.reduceBEq, reduceIte, reduceCtorEq, Int.reduceToNat, Nat.reduceShiftRight, Nat.reduceAnd, Nat.reduceBneDiff, Nat.reduceBNe, c36r8, semI.eq_10, semI.eq_11, semI.eq_3, semI.eq_5, semI.eq_7]
    repeat (refine And.intro ?_ ?_; · first | omega | (intro q; simp only [wz, wd, ws, Nat.reduceAdd, Nat.reduceSub, Nat.reduceMul, Nat.reduceLeDiff, Nat.reduceEqDiff, Nat.reduceLT, Nat.reduceBEq, reduceIte, reduceCtorEq, Int.reduceToNat, Nat.reduceShiftRight, Nat.reduceAnd, Nat.reduceBneDiff, Nat.reduceBNe, q]; done))
    obtain rfl := Option.some.inj h
    refine .ret ?_
    rw [← hR]
    simp only [wz, wd, ws, Nat.reduceAdd, Nat.reduceSub, Nat.reduceMul, Nat.reduceLeDiff, Nat.reduceEqDiff, Nat.reduceLT, Nat.reduceBEq, reduceIte, reduceCtorEq, Int.reduceToNat, Nat.reduceShiftRight, Nat.reduceAnd, Nat.reduceBneDiff, Nat.reduceBNe, rv36]
  · intro z hz; subst hz; dsimp only at h
    exact Option.some.inj h
-- 28 consignor/consignorref02.Parse
def c28r0 : List Opn := [
  ⟨(some 2), none, .mv (.c (.s (.d (.str []))))⟩, 
  ⟨(some 3), none, .mv (.c (.s (.d (.bool false))))⟩]
def c28r1 : List Opn := [
  ⟨(some 4), none, .mv (.t 0)⟩, 
  ⟨(some 5), none, .len .str (.t 4)⟩, 
  ⟨(some 6), none, .bin .neq (.t 5) (.c (.s (.d (.int .i64 71))))⟩, 
  ⟨(some 7), none, .mv (.t 6)⟩, 
  ⟨(some 8), some (7, false), .mv (.t 0)⟩, 
  ⟨(some 9), some (7, false), .slc .str (.t 8) none (some (.c (.s (.d (.int .i64 7))))) none⟩, 
  ⟨(some 10), some (7, false), .bin .neq (.t 9) (.c (.s (.d (.str [115, 104, 97, 50, 53, 54, 58]))))⟩, 
  ⟨(some 11), none, .pick (.t 7) (.c (.s (.d (.bool true)))) (.t 10)⟩]
def c28r2 : List Opn := [
  ⟨(some 2), none, .mv (.c (.s (.d (.str []))))⟩, 
  ⟨(some 3), none, .mv (.c (.s (.d (.bool false))))⟩]
def c28r3 : List Opn := [
  ⟨(some 12), none, .mv (.t 0)⟩, 
  ⟨(some 13), none, .slc .str (.t 12) (some (.c (.s (.d (.int .i64 7))))) none none⟩, 
  ⟨(some 14), none, .call (.fn 36) [(.t 13)]⟩, 
  ⟨(some 15), none, .ext (.t 14) 0⟩, 
  ⟨(some 16), none, .ext (.t 14) 1⟩, 
  ⟨(some 2), none, .mv (.t 15)⟩, 
  ⟨(some 3), none, .mv (.t 16)⟩]
def c28 : C := .seq (.reg c28r0 none [0]) (.seq (.seq (.reg c28r1 none [0, 11]) (.cond (.t 11) (.seq (.reg c28r2 none [2, 3]) (.ret)) (.skip))) (.seq (.reg c28r3 none [2, 3]) (.ret)))
def k28 : List (Nat × List Nat) := [(3, [2, 3]), (2, [2, 3]), (1, [0, 11]), (0, [0])]
theorem cc28 : (Tryd.f28.body).bind (cC Tryd.prog 17 k28) = some c28 := by kernel_rfl
def rv28 : List RV := [.t 2, .t 3]
theorem cr28 : cRVs Tryd.prog Tryd.f28.results.toList = some rv28 := by kernel_rfl
theorem f_ref02_Parse_ok (s : Str) (y_ : Str × Bool) (h : f_ref02_Parse s = some y_) : Fun Tryd.prog glP 28 [.b (.s (.d (.str s)))] (.tup [.s (.d (.str y_.1)), .s (.d (.bool y_.2))]) := by
  refine fun_walk [] Tryd.func28 Tryd.ntmps28 cc28 cr28 (by kernel_rfl) (by simp only [List.length_cons, List.length_nil]; decide) ?_
  generalize hR : Ret _ _ _ _ _ = R_
  simp only [wz, wd, ws, Nat.reduceAdd, Nat.reduceSub, Nat.reduceMul, Nat.reduceLeDiff, Nat.reduceEqDiff, Nat.reduceLT, Nat.reduceBEq, reduceIte, reduceCtorEq, Int.reduceToNat, Nat.reduceShiftRight, Nat.reduceAnd, Nat.reduceBneDiff, Nat.reduceBNe]
  unfold f_ref02_Parse at h; unfold c28
  refine .seq ?_
  refine Rw.walk ?_
  simp only [wz, wd, ws, Nat.reduceAdd, Nat.reduceSub, Nat.reduceMul, Nat.reduceLeDiff, Nat.reduceEqDiff, Nat.reduceLT, Nat.reduceBEq, reduceIte, reduceCtorEq, Int.reduceToNat, Nat.reduceShiftRight, Nat.reduceAnd, Nat.reduceBneDiff, Nat.reduceBNe, c28r0, semI.eq_10, semI.eq_11, semI.eq_3, semI.eq_5, semI.eq_7]
  refine .seq ?_
  refine .seq ?_
  refine Rw.walk ?_
  obtain ⟨g1, h⟩ := gd_iff.1 h
  simp only [wz, wd, ws, Nat.reduceAdd, Nat.reduceSub, Nat.reduceMul, Nat.reduceLeDiff, Nat.reduceEqDiff, Nat.reduceLT, Nat.reduceBEq, reduceIte, reduceCtorEq, Int.reduceToNat, Nat.reduceShiftRight, Nat.reduceAnd, Nat.reduceBneDiff, Nat.reduceBNe, c28r1, semI.eq_10, semI.eq_11, semI.eq_3, semI.eq_5, semI.eq_7]
  repeat (refine And.intro ?_ ?_; · first | omega | exact g1 | (intro q; first | omega | (have q2 := g1 (by simpa using q); omega) | (have q2 := g1 q; omega) | (have q2 := g1 (by simpa using q); simp only [List.length_append, List.length_cons, List.length_nil] at q2 ⊢; omega)) | (intro q; simp only [wz, wd, ws, Nat.reduceAdd, Nat.reduceSub, Nat.reduceMul, Nat.reduceLeDiff, Nat.reduceEqDiff, Nat.reduceLT, Nat.reduceBEq, reduceIte, reduceCtorEq, Int.reduceToNat, Nat.reduceShiftRight, Nat.reduceAnd, Nat.reduceBneDiff, Nat.reduceBNe, q]; done))
  refine .cond (p := (((s.length : Int) != 71) || (!((cut s 0 7) == ([115, 104, 97, 50, 53, 54, 58] : Str))))) (by first | rfl | simp only [wz, wd, ws, Nat.reduceAdd, Nat.reduceSub, Nat.reduceMul, Nat.reduceLeDiff, Nat.reduceEqDiff, Nat.reduceLT, Nat.reduceBEq, reduceIte, reduceCtorEq, Int.reduceToNat, Nat.reduceShiftRight, Nat.reduceAnd, Nat.reduceBneDiff, Nat.reduceBNe]) (fun h1 => ?_) (fun h1 => ?_)
  · rw [ite_t h1] at h
    refine .seq ?_
    refine Rw.walk ?_
    simp only [wz, wd, ws, Nat.reduceAdd, Nat.reduceSub, Nat.reduceMul, Nat.reduceLeDiff, Nat.reduceEqDiff, Nat.reduceLT, Nat.reduceBEq, reduceIte, reduceCtorEq, Int.reduceToNat, Nat.reduceShiftRight, Nat.reduceAnd, Nat.reduceBneDiff, Nat.reduceBNe, c28r2, semI.eq_10, semI.eq_11, semI.eq_3, semI.eq_5, semI.eq_7]
    obtain rfl := Option.some.inj h
    refine .ret ?_
    rw [← hR]
    simp only [wz, wd, ws, Nat.reduceAdd, Nat.reduceSub, Nat.reduceMul, Nat.reduceLeDiff, Nat.reduceEqDiff, Nat.reduceLT, Nat.reduceBEq, reduceIte, reduceCtorEq, Int.reduceToNat, Nat.reduceShiftRight, Nat.reduceAnd, Nat.reduceBneDiff, Nat.reduceBNe, rv28]
  · rw [ite_f h1] at h
    refine .skip ?_
    refine .seq ?_
    refine Rw.walk ?_
    obtain ⟨g2, h⟩ := gd_iff.1 h
    simp only [wz, wd, ws, Nat.reduceAdd, Nat.reduceSub, Nat.reduceMul, Nat.reduceLeDiff, Nat.reduceEqDiff, Nat.reduceLT, Nat.reduceBEq, reduceIte, reduceCtorEq, Int.reduceToNat, Nat.reduceShiftRight, Nat.reduceAnd, Nat.reduceBneDiff, Nat.reduceBNe, c28r3, semI.eq_10, semI.eq_11, semI.eq_3, semI.eq_5, semI.eq_7]
    repeat (refine And.intro ?_ ?_; · first | omega | (intro q; simp only [wz, wd, ws, Nat.reduceAdd, Nat.reduceSub, Nat.reduceMul, Nat.reduceLeDiff, Nat.reduceEqDiff, Nat.reduceLT, Nat.reduceBEq, reduceIte, reduceCtorEq, Int.reduceToNat, Nat.reduceShiftRight, Nat.reduceAnd, Nat.reduceBneDiff, Nat.reduceBNe, q]; done))
    obtain ⟨t, e3, h⟩ := Option.bind_eq_some_iff.1 h
    refine call_fun [] false ⟨trivial, trivial, trivial⟩ rfl ?_ (f_ref01_Bytes_ok _ _ e3) (fun _ => rfl) (fun i hi => by cases hi) ?_
    · simp only [wz, wd, ws, Nat.reduceAdd, Nat.reduceSub, Nat.reduceMul, Nat.reduceLeDiff, Nat.reduceEqDiff, Nat.reduceLT, Nat.reduceBEq, reduceIte, reduceCtorEq, Int.reduceToNat, Nat.reduceShiftRight, Nat.reduceAnd, Nat.reduceBneDiff, Nat.reduceBNe]
    simp only [wz, wd, ws, Nat.reduceAdd, Nat.reduceSub, Nat.reduceMul, Nat.reduceLeDiff, Nat.reduceEqDiff, Nat.reduceLT, Nat.reduceBEq, reduceIte, reduceCtorEq, Int.reduceToNat, Nat.reduceShiftRight, Nat.reduceAnd, Nat.reduceBneDiff, Nat.reduceBNe, c28r3, semI.eq_10, semI.eq_11, semI.eq_3, semI.eq_5, semI.eq_7]
    obtain rfl := Option.some.inj h
    refine .ret ?_
    rw [← hR]
    simp only [wz, wd, ws, Nat.reduceAdd, Nat.reduceSub, Nat.reduceMul, Nat.reduceLeDiff, Nat.reduceEqDiff, Nat.reduceLT, Nat.reduceBEq, reduceIte, reduceCtorEq, Int.reduceToNat, Nat.reduceShiftRight, Nat.reduceAnd, Nat.reduceBneDiff, Nat.reduceBNe, rv28]
-- 16 consignor/consignorref03.Right
def c16r0 : List Opn := [
  ⟨(some 1), none, .box 3 (.t 0)⟩, 
  ⟨(some 2), none, .mv (.c (.s (.d (.bool false))))⟩]
def c16r1 : List Opn := [
  ⟨(some 6), none, .fadr 2 (.t 1)⟩, 
  ⟨(some 7), none, .load false 1 (.t 6)⟩, 
  ⟨(some 8), none, .call (.fn 28) [(.t 7)]⟩, 
  ⟨(some 5), none, .mv (.t 8)⟩, 
  ⟨(some 9), none, .ext (.t 5) 0⟩, 
  ⟨(some 10), none, .ext (.t 5) 1⟩, 
  ⟨(some 3), none, .mv (.t 9)⟩, 
  ⟨(some 4), none, .mv (.t 10)⟩]
def c16r2 : List Opn := [
  ⟨(some 11), none, .fadr 0 (.t 1)⟩, 
  ⟨(some 12), none, .load false 1 (.t 11)⟩, 
  ⟨(some 13), none, .call (.fn 12) [(.t 12)]⟩, 
  ⟨(some 14), none, .mv (.t 13)⟩, 
  ⟨(some 15), some (14, true), .fadr 2 (.t 1)⟩, 
  ⟨(some 16), some (14, true), .load false 1 (.t 15)⟩, 
  ⟨(some 17), some (14, true), .bin .eql (.t 16) (.c (.s (.d (.str []))))⟩, 
  ⟨(some 18), some (14, true), .mv (.t 17)⟩, 
  ⟨(some 19), some (18, true), .fadr 1 (.t 1)⟩, 
  ⟨(some 20), some (18, true), .load false 1 (.t 19)⟩, 
  ⟨(some 21), some (18, true), .call (.fn 14) [(.t 20)]⟩, 
  ⟨(some 22), some (14, true), .pick (.t 18) (.t 21) (.c (.s (.d (.bool false))))⟩, 
  ⟨(some 23), some (14, true), .mv (.t 22)⟩, 
  ⟨(some 24), some (23, false), .fadr 1 (.t 1)⟩, 
  ⟨(some 25), some (23, false), .load false 1 (.t 24)⟩, 
  ⟨(some 26), some (23, false), .bin .eql (.t 25) (.c (.s (.d (.str []))))⟩, 
  ⟨(some 27), some (23, false), .mv (.t 26)⟩, 
  ⟨(some 28), some (27, true), .mv (.t 4)⟩, 
  ⟨(some 29), some (23, false), .pick (.t 27) (.t 28) (.c (.s (.d (.bool false))))⟩, 
  ⟨(some 30), some (14, true), .pick (.t 23) (.c (.s (.d (.bool true)))) (.t 29)⟩, 
  ⟨(some 31), none, .pick (.t 14) (.t 30) (.c (.s (.d (.bool false))))⟩, 
  ⟨(some 2), none, .mv (.t 31)⟩]
def c16 : C := .seq (.reg c16r0 none [1]) (.seq (.reg c16r1 none [1, 4]) (.seq (.reg c16r2 none [2]) (.ret)))
def k16 : List (Nat × List Nat) := [(2, [2]), (1, [1, 4]), (0, [1])]
theorem cc16 : (Tryd.f16.body).bind (cC Tryd.prog 32 k16) = some c16 := by kernel_rfl
def rv16 : List RV := [.t 2]
theorem cr16 : cRVs Tryd.prog Tryd.f16.results.toList = some rv16 := by kernel_rfl
theorem f_ref03_Right_ok (rv : api_Ref) (y_ : Bool) (h : f_ref03_Right rv = some y_) : Fun Tryd.prog glP 16 [.b (.agg ((e_api_Ref rv).map Lc.d))] (.b (.s (.d (.bool y_)))) := by
  refine fun_walk [] Tryd.func16 Tryd.ntmps16 cc16 cr16 (by kernel_rfl) (by simp only [List.length_cons, List.length_nil]; decide) ?_
  generalize hR : Ret _ _ _ _ _ = R_
  simp only [wz, wd, ws, Nat.reduceAdd, Nat.reduceSub, Nat.reduceMul, Nat.reduceLeDiff, Nat.reduceEqDiff, Nat.reduceLT, Nat.reduceBEq, reduceIte, reduceCtorEq, Int.reduceToNat, Nat.reduceShiftRight, Nat.reduceAnd, Nat.reduceBneDiff, Nat.reduceBNe, e_api_Ref]
  unfold f_ref03_Right at h; unfold c16
  refine .seq ?_
  refine Rw.walk ?_
  simp only [wz, wd, ws, Nat.reduceAdd, Nat.reduceSub, Nat.reduceMul, Nat.reduceLeDiff, Nat.reduceEqDiff, Nat.reduceLT, Nat.reduceBEq, reduceIte, reduceCtorEq, Int.reduceToNat, Nat.reduceShiftRight, Nat.reduceAnd, Nat.reduceBneDiff, Nat.reduceBNe, c16r0, semI.eq_10, semI.eq_11, semI.eq_3, semI.eq_5, semI.eq_7, e_api_Ref]
  refine .seq ?_
  refine Rw.walk ?_
  simp only [wz, wd, ws, Nat.reduceAdd, Nat.reduceSub, Nat.reduceMul, Nat.reduceLeDiff, Nat.reduceEqDiff, Nat.reduceLT, Nat.reduceBEq, reduceIte, reduceCtorEq, Int.reduceToNat, Nat.reduceShiftRight, Nat.reduceAnd, Nat.reduceBneDiff, Nat.reduceBNe, c16r1, semI.eq_10, semI.eq_11, semI.eq_3, semI.eq_5, semI.eq_7, e_api_Ref]
  obtain ⟨t, e1, h⟩ := Option.bind_eq_some_iff.1 h
  refine call_fun [] false ⟨trivial, trivial, trivial⟩ rfl ?_ (f_ref02_Parse_ok _ _ e1) (fun _ => rfl) (fun i hi => by cases hi) ?_
  · simp only [wz, wd, ws, Nat.reduceAdd, Nat.reduceSub, Nat.reduceMul, Nat.reduceLeDiff, Nat.reduceEqDiff, Nat.reduceLT, Nat.reduceBEq, reduceIte, reduceCtorEq, Int.reduceToNat, Nat.reduceShiftRight, Nat.reduceAnd, Nat.reduceBneDiff, Nat.reduceBNe, e_api_Ref]
  simp only [wz, wd, ws, Nat.reduceAdd, Nat.reduceSub, Nat.reduceMul, Nat.reduceLeDiff, Nat.reduceEqDiff, Nat.reduceLT, Nat.reduceBEq, reduceIte, reduceCtorEq, Int.reduceToNat, Nat.reduceShiftRight, Nat.reduceAnd, Nat.reduceBneDiff, Nat.reduceBNe, c16r1, semI.eq_10, semI.eq_11, semI.eq_3, semI.eq_5, semI.eq_7, e_api_Ref]
  refine .seq ?_
  refine Rw.walk ?_
  simp only [wz, wd, ws, Nat.reduceAdd, Nat.reduceSub, Nat.reduceMul, Nat.reduceLeDiff, Nat.reduceEqDiff, Nat.reduceLT, Nat.reduceBEq, reduceIte, reduceCtorEq, Int.reduceToNat, Nat.reduceShiftRight, Nat.reduceAnd, Nat.reduceBneDiff, Nat.reduceBNe, c16r2, semI.eq_10, semI.eq_11, semI.eq_3, semI.eq_5, semI.eq_7, e_api_Ref]
  obtain ⟨t2, e2, h⟩ := Option.bind_eq_some_iff.1 h
  refine call_fun [] false ⟨trivial, trivial, trivial⟩ rfl ?_ (f_ref03_Repo_ok _ _ e2) (fun _ => rfl) (fun i hi => by cases hi) ?_
  · simp only [wz, wd, ws, Nat.reduceAdd, Nat.reduceSub, Nat.reduceMul, Nat.reduceLeDiff, Nat.reduceEqDiff, Nat.reduceLT, Nat.reduceBEq, reduceIte, reduceCtorEq, Int.reduceToNat, Nat.reduceShiftRight, Nat.reduceAnd, Nat.reduceBneDiff, Nat.reduceBNe, e_api_Ref]
  simp only [wz, wd, ws, Nat.reduceAdd, Nat.reduceSub, Nat.reduceMul, Nat.reduceLeDiff, Nat.reduceEqDiff, Nat.reduceLT, Nat.reduceBEq, reduceIte, reduceCtorEq, Int.reduceToNat, Nat.reduceShiftRight, Nat.reduceAnd, Nat.reduceBneDiff, Nat.reduceBNe, c16r2, semI.eq_10, semI.eq_11, semI.eq_3, semI.eq_5, semI.eq_7, e_api_Ref]
  refine call_alt (v := .b (.s (.d (.str rv.Digest)))) rfl rfl (by simp only [wz, wd, ws, Nat.reduceAdd, Nat.reduceSub, Nat.reduceMul, Nat.reduceLeDiff, Nat.reduceEqDiff, Nat.reduceLT, Nat.reduceBEq, reduceIte, reduceCtorEq, Int.reduceToNat, Nat.reduceShiftRight, Nat.reduceAnd, Nat.reduceBneDiff, Nat.reduceBNe]) (fun q => ⟨_, by simp only [wz, wd, ws, Nat.reduceAdd, Nat.reduceSub, Nat.reduceMul, Nat.reduceLeDiff, Nat.reduceEqDiff, Nat.reduceLT, Nat.reduceBEq, reduceIte, reduceCtorEq, Int.reduceToNat, Nat.reduceShiftRight, Nat.reduceAnd, Nat.reduceBneDiff, Nat.reduceBNe, semI.eq_10, e_api_Ref], trivial⟩) ?_
  simp only [wz, wd, ws, Nat.reduceAdd, Nat.reduceSub, Nat.reduceMul, Nat.reduceLeDiff, Nat.reduceEqDiff, Nat.reduceLT, Nat.reduceBEq, reduceIte, reduceCtorEq, Int.reduceToNat, Nat.reduceShiftRight, Nat.reduceAnd, Nat.reduceBneDiff, Nat.reduceBNe, c16r2, semI.eq_10, semI.eq_11, semI.eq_3, semI.eq_5, semI.eq_7, e_api_Ref]
  refine call_alt (v := .b (.s (.d (.str rv.Tag)))) rfl rfl (by simp only [wz, wd, ws, Nat.reduceAdd, Nat.reduceSub, Nat.reduceMul, Nat.reduceLeDiff, Nat.reduceEqDiff, Nat.reduceLT, Nat.reduceBEq, reduceIte, reduceCtorEq, Int.reduceToNat, Nat.reduceShiftRight, Nat.reduceAnd, Nat.reduceBneDiff, Nat.reduceBNe]) (fun q => ⟨_, by simp only [wz, wd, ws, Nat.reduceAdd, Nat.reduceSub, Nat.reduceMul, Nat.reduceLeDiff, Nat.reduceEqDiff, Nat.reduceLT, Nat.reduceBEq, reduceIte, reduceCtorEq, Int.reduceToNat, Nat.reduceShiftRight, Nat.reduceAnd, Nat.reduceBneDiff, Nat.reduceBNe, semI.eq_10, e_api_Ref], trivial⟩) ?_
  simp only [wz, wd, ws, Nat.reduceAdd, Nat.reduceSub, Nat.reduceMul, Nat.reduceLeDiff, Nat.reduceEqDiff, Nat.reduceLT, Nat.reduceBEq, reduceIte, reduceCtorEq, Int.reduceToNat, Nat.reduceShiftRight, Nat.reduceAnd, Nat.reduceBneDiff, Nat.reduceBNe, c16r2, semI.eq_10, semI.eq_11, semI.eq_3, semI.eq_5, semI.eq_7, e_api_Ref]
  obtain ⟨t3, e3, h⟩ := Option.bind_eq_some_iff.1 h
  refine call_funG [] rfl (by simp only [wz, wd, ws, Nat.reduceAdd, Nat.reduceSub, Nat.reduceMul, Nat.reduceLeDiff, Nat.reduceEqDiff, Nat.reduceLT, Nat.reduceBEq, reduceIte, reduceCtorEq, Int.reduceToNat, Nat.reduceShiftRight, Nat.reduceAnd, Nat.reduceBneDiff, Nat.reduceBNe]) rfl ?_ (fun q => (f_ref03_Tag_ok _ _ (gx_iff e3 (by simpa using q)))) rfl (fun i hi => by cases hi) ?_
  · simp only [wz, wd, ws, Nat.reduceAdd, Nat.reduceSub, Nat.reduceMul, Nat.reduceLeDiff, Nat.reduceEqDiff, Nat.reduceLT, Nat.reduceBEq, reduceIte, reduceCtorEq, Int.reduceToNat, Nat.reduceShiftRight, Nat.reduceAnd, Nat.reduceBneDiff, Nat.reduceBNe, e_api_Ref]
  simp only [wz, wd, ws, Nat.reduceAdd, Nat.reduceSub, Nat.reduceMul, Nat.reduceLeDiff, Nat.reduceEqDiff, Nat.reduceLT, Nat.reduceBEq, reduceIte, reduceCtorEq, Int.reduceToNat, Nat.reduceShiftRight, Nat.reduceAnd, Nat.reduceBneDiff, Nat.reduceBNe, c16r2, semI.eq_10, semI.eq_11, semI.eq_3, semI.eq_5, semI.eq_7, e_api_Ref]
  repeat (refine And.intro ?_ ?_; · first | omega | (intro q; simp only [wz, wd, ws, Nat.reduceAdd, Nat.reduceSub, Nat.reduceMul, Nat.reduceLeDiff, Nat.reduceEqDiff, Nat.reduceLT, Nat.reduceBEq, reduceIte, reduceCtorEq, Int.reduceToNat, Nat.reduceShiftRight, Nat.reduceAnd, Nat.reduceBneDiff, Nat.reduceBNe, q]; done))
  refine call_alt (v := .b (.s (.d (.str rv.Tag)))) rfl rfl (by simp only [wz, wd, ws, Nat.reduceAdd, Nat.reduceSub, Nat.reduceMul, Nat.reduceLeDiff, Nat.reduceEqDiff, Nat.reduceLT, Nat.reduceBEq, reduceIte, reduceCtorEq, Int.reduceToNat, Nat.reduceShiftRight, Nat.reduceAnd, Nat.reduceBneDiff, Nat.reduceBNe]) (fun q => ⟨_, by simp only [wz, wd, ws, Nat.reduceAdd, Nat.reduceSub, Nat.reduceMul, Nat.reduceLeDiff, Nat.reduceEqDiff, Nat.reduceLT, Nat.reduceBEq, reduceIte, reduceCtorEq, Int.reduceToNat, Nat.reduceShiftRight, Nat.reduceAnd, Nat.reduceBneDiff, Nat.reduceBNe, semI.eq_10, e_api_Ref], trivial⟩) ?_
  simp only [wz, wd, ws, Nat.reduceAdd, Nat.reduceSub, Nat.reduceMul, Nat.reduceLeDiff, Nat.reduceEqDiff, Nat.reduceLT, Nat.reduceBEq, reduceIte, reduceCtorEq, Int.reduceToNat, Nat.reduceShiftRight, Nat.reduceAnd, Nat.reduceBneDiff, Nat.reduceBNe, c16r2, semI.eq_10, semI.eq_11, semI.eq_3, semI.eq_5, semI.eq_7, e_api_Ref]
  repeat (refine And.intro ?_ ?_; · first | omega | (intro q; simp only [wz, wd, ws, Nat.reduceAdd, Nat.reduceSub, Nat.reduceMul, Nat.reduceLeDiff, Nat.reduceEqDiff, Nat.reduceLT, Nat.reduceBEq, reduceIte, reduceCtorEq, Int.reduceToNat, Nat.reduceShiftRight, Nat.reduceAnd, Nat.reduceBneDiff, Nat.reduceBNe, q]; done))
  obtain rfl := Option.some.inj h
  refine .ret ?_
  rw [← hR]
  simp only [wz, wd, ws, Nat.reduceAdd, Nat.reduceSub, Nat.reduceMul, Nat.reduceLeDiff, Nat.reduceEqDiff, Nat.reduceLT, Nat.reduceBEq, reduceIte, reduceCtorEq, Int.reduceToNat, Nat.reduceShiftRight, Nat.reduceAnd, Nat.reduceBneDiff, Nat.reduceBNe, rv16, e_api_Ref]
-- 17 consignor/consignorref03.Text
def c17r0 : List Opn := [
  ⟨(some 1), none, .box 3 (.t 0)⟩, 
  ⟨(some 2), none, .mv (.c (.s (.d (.str []))))⟩]
def c17r1 : List Opn := [
  ⟨(some 3), none, .fadr 2 (.t 1)⟩, 
  ⟨(some 4), none, .load false 1 (.t 3)⟩, 
  ⟨(some 5), none, .bin .eql (.t 4) (.c (.s (.d (.str []))))⟩]
def c17r2 : List Opn := [
  ⟨(some 6), none, .fadr 0 (.t 1)⟩, 
  ⟨(some 7), none, .load false 1 (.t 6)⟩, 
  ⟨(some 8), none, .bin .add (.t 7) (.c (.s (.d (.str [58]))))⟩, 
  ⟨(some 9), none, .fadr 1 (.t 1)⟩, 
  ⟨(some 10), none, .load false 1 (.t 9)⟩, 
  ⟨(some 11), none, .bin .add (.t 8) (.t 10)⟩, 
  ⟨(some 2), none, .mv (.t 11)⟩]
def c17r3 : List Opn := [
  ⟨(some 12), none, .fadr 0 (.t 1)⟩, 
  ⟨(some 13), none, .load false 1 (.t 12)⟩, 
  ⟨(some 14), none, .bin .add (.t 13) (.c (.s (.d (.str [64]))))⟩, 
  ⟨(some 15), none, .fadr 2 (.t 1)⟩, 
  ⟨(some 16), none, .load false 1 (.t 15)⟩, 
  ⟨(some 17), none, .bin .add (.t 14) (.t 16)⟩, 
  ⟨(some 2), none, .mv (.t 17)⟩]
def c17 : C := .seq (.reg c17r0 none [1]) (.seq (.seq (.reg c17r1 none [1, 5]) (.cond (.t 5) (.seq (.reg c17r2 none [2]) (.ret)) (.skip))) (.seq (.reg c17r3 none [2]) (.ret)))
def k17 : List (Nat × List Nat) := [(3, [2]), (2, [2]), (1, [1, 5]), (0, [1])]
theorem cc17 : (Tryd.f17.body).bind (cC Tryd.prog 18 k17) = some c17 := by kernel_rfl
def rv17 : List RV := [.t 2]
theorem cr17 : cRVs Tryd.prog Tryd.f17.results.toList = some rv17 := by kernel_rfl
theorem f_ref03_Text_ok (rv : api_Ref) (y_ : Str) (h : f_ref03_Text rv = some y_) : Fun Tryd.prog glP 17 [.b (.agg ((e_api_Ref rv).map Lc.d))] (.b (.s (.d (.str y_)))) := by
  refine fun_walk [] Tryd.func17 Tryd.ntmps17 cc17 cr17 (by kernel_rfl) (by simp only [List.length_cons, List.length_nil]; decide) ?_
  generalize hR : Ret _ _ _ _ _ = R_
  simp only [wz, wd, ws, Nat.reduceAdd, Nat.reduceSub, Nat.reduceMul, Nat.reduceLeDiff, Nat.reduceEqDiff, Nat.reduceLT, Nat.reduceBEq, reduceIte, reduceCtorEq, Int.reduceToNat, Nat.reduceShiftRight, Nat.reduceAnd, Nat.reduceBneDiff, Nat.reduceBNe, e_api_Ref]
  unfold f_ref03_Text at h; unfold c17
  refine .seq ?_
  refine Rw.walk ?_
  simp only [wz, wd, ws, Nat.reduceAdd, Nat.reduceSub, Nat.reduceMul, Nat.reduceLeDiff, Nat.reduceEqDiff, Nat.reduceLT, Nat.reduceBEq, reduceIte, reduceCtorEq, Int.reduceToNat, Nat.reduceShiftRight, Nat.reduceAnd, Nat.reduceBneDiff, Nat.reduceBNe, c17r0, semI.eq_10, semI.eq_11, semI.eq_3, semI.eq_5, semI.eq_7, e_api_Ref]
  refine .seq ?_
  refine .seq ?_
  refine Rw.walk ?_
  simp only [wz, wd, ws, Nat.reduceAdd, Nat.reduceSub, Nat.reduceMul, Nat.reduceLeDiff, Nat.reduceEqDiff, Nat.reduceLT, Nat.reduceBEq, reduceIte, reduceCtorEq, Int.reduceToNat, Nat.reduceShiftRight, Nat.reduceAnd, Nat.reduceBneDiff, Nat.reduceBNe, c17r1, semI.eq_10, semI.eq_11, semI.eq_3, semI.eq_5, semI.eq_7, e_api_Ref]
  refine .cond (p := (rv.Digest == ([] : Str))) (by first | rfl | simp only [wz, wd, ws, Nat.reduceAdd, Nat.reduceSub, Nat.reduceMul, Nat.reduceLeDiff, Nat.reduceEqDiff, Nat.reduceLT, Nat.reduceBEq, reduceIte, reduceCtorEq, Int.reduceToNat, Nat.reduceShiftRight, Nat.reduceAnd, Nat.reduceBneDiff, Nat.reduceBNe]) (fun h1 => ?_) (fun h1 => ?_)
  · rw [ite_t h1] at h
    refine .seq ?_
    refine Rw.walk ?_
    obtain ⟨g1, h⟩ := gd_iff.1 h
    obtain ⟨g2, h⟩ := gd_iff.1 h
    simp only [wz, wd, ws, Nat.reduceAdd, Nat.reduceSub, Nat.reduceMul, Nat.reduceLeDiff, Nat.reduceEqDiff, Nat.reduceLT, Nat.reduceBEq, reduceIte, reduceCtorEq, Int.reduceToNat, Nat.reduceShiftRight, Nat.reduceAnd, Nat.reduceBneDiff, Nat.reduceBNe, c17r2, semI.eq_10, semI.eq_11, semI.eq_3, semI.eq_5, semI.eq_7, e_api_Ref]
    repeat (refine And.intro ?_ ?_; · first | omega | (intro q; simp only [wz, wd, ws, Nat.reduceAdd, Nat.reduceSub, Nat.reduceMul, Nat.reduceLeDiff, Nat.reduceEqDiff, Nat.reduceLT, Nat.reduceBEq, reduceIte, reduceCtorEq, Int.reduceToNat, Nat.reduceShiftRight, Nat.reduceAnd, Nat.reduceBneDiff, Nat.reduceBNe, q]; done))
    obtain rfl := Option.some.inj h
    refine .ret ?_
    rw [← hR]
    simp only [wz, wd, ws, Nat.reduceAdd, Nat.reduceSub, Nat.reduceMul, Nat.reduceLeDiff, Nat.reduceEqDiff, Nat.reduceLT, Nat.reduceBEq, reduceIte, reduceCtorEq, Int.reduceToNat, Nat.reduceShiftRight, Nat.reduceAnd, Nat.reduceBneDiff, Nat.reduceBNe, rv17, e_api_Ref]
  · rw [ite_f h1] at h
    refine .skip ?_
    refine .seq ?_
    refine Rw.walk ?_
    obtain ⟨g3, h⟩ := gd_iff.1 h
    obtain ⟨g4, h⟩ := gd_iff.1 h
    simp only [wz, wd, ws, Nat.reduceAdd, Nat.reduceSub, Nat.reduceMul, Nat.reduceLeDiff, Nat.reduceEqDiff, Nat.reduceLT, Nat.reduceBEq, reduceIte, reduceCtorEq, Int.reduceToNat, Nat.reduceShiftRight, Nat.reduceAnd, Nat.reduceBneDiff, Nat.reduceBNe, c17r3, semI.eq_10, semI.eq_11, semI.eq_3, semI.eq_5, semI.eq_7, e_api_Ref]
    repeat (refine And.intro ?_ ?_; · first | omega | (intro q; simp only [wz, wd, ws, Nat.reduceAdd, Nat.reduceSub, Nat.reduceMul, Nat.reduceLeDiff, Nat.reduceEqDiff, Nat.reduceLT, Nat.reduceBEq, reduceIte, reduceCtorEq, Int.reduceToNat, Nat.reduceShiftRight, Nat.reduceAnd, Nat.reduceBneDiff, Nat.reduceBNe, q]; done))
    obtain rfl := Option.some.inj h
    refine .ret ?_
    rw [← hR]
    simp only [wz, wd, ws, Nat.reduceAdd, Nat.reduceSub, Nat.reduceMul, Nat.reduceLeDiff, Nat.reduceEqDiff, Nat.reduceLT, Nat.reduceBEq, reduceIte, reduceCtorEq, Int.reduceToNat, Nat.reduceShiftRight, Nat.reduceAnd, Nat.reduceBneDiff, Nat.reduceBNe, rv17, e_api_Ref]
end Go.Proofs.YtdcokepmblcdmaaDoor.V
end

section
/- Go functions compute what Lean functions do. -/
namespace Go.Proofs.YtdcokepmblcdmaaDoor.V
open Go Go.RowKit
set_option linter.unusedVariables false
set_option linter.unusedSimpArgs false
set_option maxHeartbeats 1000000
-- 3 consignor/consignorlaw03.NameMay
def c3r0 : List Opn := [
  ⟨(some 3), none, .box 3 (.t 1)⟩, 
  ⟨(some 4), none, .mv (.c (.s (.d (.bool false))))⟩]
def c3r1 : List Opn := [
  ⟨(some 7), none, .mv (.t 0)⟩, 
  ⟨(some 8), none, .call (.fn 9) [(.t 7)]⟩, 
  ⟨(some 0), none, .mv (.t 8)⟩]
def c3r2 : List Opn := [
  ⟨(some 9), none, .fadr 0 (.t 3)⟩, 
  ⟨(some 10), none, .load false 1 (.t 9)⟩, 
  ⟨(some 11), none, .call (.fn 9) [(.t 10)]⟩, 
  ⟨(some 12), none, .fadr 1 (.t 3)⟩, 
  ⟨(some 13), none, .load false 1 (.t 12)⟩, 
  ⟨(some 14), none, .call (.fn 9) [(.t 13)]⟩, 
  ⟨(some 15), none, .fadr 2 (.t 3)⟩, 
  ⟨(some 16), none, .load false 1 (.t 15)⟩, 
  ⟨(some 17), none, .call (.fn 9) [(.t 16)]⟩, 
  ⟨(some 18), none, .build [(.d (.str [])), (.d (.str [])), (.d (.str []))] [(0, 1, (.t 11)), (1, 1, (.t 14)), (2, 1, (.t 17))]⟩, 
  ⟨none, none, .store 3 (.t 3) (.t 18)⟩]
def c3r3 : List Opn := [
  ⟨(some 20), none, .load true 3 (.t 3)⟩, 
  ⟨(some 21), none, .call (.fn 10) [(.t 20)]⟩, 
  ⟨(some 19), none, .mv (.t 21)⟩, 
  ⟨(some 22), none, .ext (.t 19) 0⟩, 
  ⟨(some 23), none, .ext (.t 19) 1⟩, 
  ⟨(some 5), none, .mv (.t 22)⟩, 
  ⟨(some 6), none, .mv (.t 23)⟩]
def c3r4 : List Opn := [
  ⟨(some 24), none, .mv (.t 0)⟩, 
  ⟨(some 25), none, .call (.fn 11) [(.t 24)]⟩, 
  ⟨(some 26), none, .mv (.t 0)⟩, 
  ⟨(some 27), none, .call (.fn 12) [(.t 26)]⟩, 
  ⟨(some 28), none, .bbo .neq (.t 25) (.t 27)⟩, 
  ⟨(some 29), none, .mv (.t 28)⟩, 
  ⟨(some 30), some (29, false), .mv (.t 0)⟩, 
  ⟨(some 31), some (29, false), .call (.fn 13) [(.t 30)]⟩, 
  ⟨(some 32), some (29, false), .mv (.t 0)⟩, 
  ⟨(some 33), some (29, false), .call (.fn 14) [(.t 32)]⟩, 
  ⟨(some 34), some (29, false), .bbo .neq (.t 31) (.t 33)⟩, 
  ⟨(some 35), none, .pick (.t 29) (.c (.s (.d (.bool true)))) (.t 34)⟩, 
  ⟨(some 36), none, .mv (.t 35)⟩, 
  ⟨(some 37), some (36, false), .call (.fn 15) []⟩, 
  ⟨(some 38), some (36, false), .un .not (.t 37)⟩, 
  ⟨(some 39), none, .pick (.t 36) (.c (.s (.d (.bool true)))) (.t 38)⟩]
def c3r5 : List Opn := [
  ⟨(some 4), none, .mv (.c (.s (.d (.bool false))))⟩]
def c3r6 : List Opn := [
  ⟨(some 40), none, .load true 3 (.t 3)⟩, 
  ⟨(some 41), none, .call (.fn 16) [(.t 40)]⟩, 
  ⟨(some 42), none, .un .not (.t 41)⟩]
def c3r7 : List Opn := [
  ⟨(some 43), none, .mv (.t 6)⟩, 
  ⟨(some 44), none, .bin .eql (.t 43) (.c (.s (.d (.int .i64 1))))⟩, 
  ⟨(some 45), none, .mv (.t 44)⟩, 
  ⟨(some 46), some (45, true), .mv (.t 5)⟩, 
  ⟨(some 47), some (45, true), .bin .eql (.t 46) (.c (.s (.d (.str []))))⟩, 
  ⟨(some 48), none, .pick (.t 45) (.t 47) (.c (.s (.d (.bool false))))⟩, 
  ⟨(some 4), none, .mv (.t 48)⟩]
def c3r8 : List Opn := [
  ⟨(some 49), none, .mv (.t 6)⟩, 
  ⟨(some 50), none, .bin .eql (.t 49) (.c (.s (.d (.int .i64 0))))⟩, 
  ⟨(some 51), none, .mv (.t 50)⟩, 
  ⟨(some 52), some (51, true), .mv (.t 5)⟩, 
  ⟨(some 53), some (51, true), .load true 3 (.t 3)⟩, 
  ⟨(some 54), some (51, true), .call (.fn 17) [(.t 53)]⟩, 
  ⟨(some 55), some (51, true), .bin .eql (.t 52) (.t 54)⟩, 
  ⟨(some 56), none, .pick (.t 51) (.t 55) (.c (.s (.d (.bool false))))⟩, 
  ⟨(some 4), none, .mv (.t 56)⟩]
def c3 : C := .seq (.reg c3r0 none [0, 3]) (.seq (.reg c3r1 none [0, 3]) (.seq (.reg c3r2 (some [0, 1, 3, 0, 8, 31, 0, 64, 255, 511, 1023]) [0, 3]) (.seq (.reg c3r3 none [0, 3, 5, 6]) (.seq (.seq (.reg c3r4 none [3, 5, 6, 39]) (.cond (.t 39) (.seq (.reg c3r5 none [4]) (.ret)) (.skip))) (.seq (.seq (.reg c3r6 none [3, 5, 6, 42]) (.cond (.t 42) (.seq (.reg c3r7 none [4]) (.ret)) (.skip))) (.seq (.reg c3r8 none [4]) (.ret)))))))
def k3 : List (Nat × List Nat) := [(8, [4]), (7, [4]), (6, [3, 5, 6, 42]), (5, [4]), (4, [3, 5, 6, 39]), (3, [0, 3, 5, 6]), (2, [0, 3]), (1, [0, 3]), (0, [0, 3])]
theorem cc3 : (Tryd.f3.body).bind (cC Tryd.prog 57 k3) = some c3 := by kernel_rfl
def rv3 : List RV := [.t 4]
theorem cr3 : cRVs Tryd.prog Tryd.f3.results.toList = some rv3 := by kernel_rfl
theorem f_law03_NameMay_ok (s : Str) (rv : api_Ref) (y_ : Bool) (h : f_law03_NameMay s rv = some y_) : Fun Tryd.prog glP 3 [.b (.s (.d (.str s))), .b (.agg ((e_api_Ref rv).map Lc.d))] (.b (.s (.d (.bool y_)))) := by
  refine fun_walk [] Tryd.func3 Tryd.ntmps3 cc3 cr3 (by kernel_rfl) (by simp only [List.length_cons, List.length_nil]; decide) ?_
  generalize hR : Ret _ _ _ _ _ = R_
  simp only [wz, wd, ws, Nat.reduceAdd, Nat.reduceSub, Nat.reduceMul, Nat.reduceLeDiff, Nat.reduceEqDiff, Nat.reduceLT, Nat.reduceBEq, reduceIte, reduceCtorEq, Int.reduceToNat, Nat.reduceShiftRight, Nat.reduceAnd, Nat.reduceBneDiff, Nat.reduceBNe, e_api_Ref]
  unfold f_law03_NameMay at h; unfold c3
  refine .seq ?_
  refine Rw.walk ?_
  simp only [wz, wd, ws, Nat.reduceAdd, Nat.reduceSub, Nat.reduceMul, Nat.reduceLeDiff, Nat.reduceEqDiff, Nat.reduceLT, Nat.reduceBEq, reduceIte, reduceCtorEq, Int.reduceToNat, Nat.reduceShiftRight, Nat.reduceAnd, Nat.reduceBneDiff, Nat.reduceBNe, c3r0, semI.eq_10, semI.eq_11, semI.eq_3, semI.eq_5, semI.eq_7, e_api_Ref]
  refine .seq ?_
  refine Rw.walk ?_
  simp only [wz, wd, ws, Nat.reduceAdd, Nat.reduceSub, Nat.reduceMul, Nat.reduceLeDiff, Nat.reduceEqDiff, Nat.reduceLT, Nat.reduceBEq, reduceIte, reduceCtorEq, Int.reduceToNat, Nat.reduceShiftRight, Nat.reduceAnd, Nat.reduceBneDiff, Nat.reduceBNe, c3r1, semI.eq_10, semI.eq_11, semI.eq_3, semI.eq_5, semI.eq_7, e_api_Ref]
  obtain ⟨t, e1, h⟩ := Option.bind_eq_some_iff.1 h
  refine call_fun [] false ⟨trivial, trivial, trivial⟩ rfl ?_ (f_law03_short_ok _ _ e1) (fun _ => rfl) (fun i hi => by cases hi) ?_
  · simp only [wz, wd, ws, Nat.reduceAdd, Nat.reduceSub, Nat.reduceMul, Nat.reduceLeDiff, Nat.reduceEqDiff, Nat.reduceLT, Nat.reduceBEq, reduceIte, reduceCtorEq, Int.reduceToNat, Nat.reduceShiftRight, Nat.reduceAnd, Nat.reduceBneDiff, Nat.reduceBNe, e_api_Ref]
  simp only [wz, wd, ws, Nat.reduceAdd, Nat.reduceSub, Nat.reduceMul, Nat.reduceLeDiff, Nat.reduceEqDiff, Nat.reduceLT, Nat.reduceBEq, reduceIte, reduceCtorEq, Int.reduceToNat, Nat.reduceShiftRight, Nat.reduceAnd, Nat.reduceBneDiff, Nat.reduceBNe, c3r1, semI.eq_10, semI.eq_11, semI.eq_3, semI.eq_5, semI.eq_7, e_api_Ref]
  refine .seq ?_
  refine RwD.walk ?_
  simp only [wz, wd, ws, Nat.reduceAdd, Nat.reduceSub, Nat.reduceMul, Nat.reduceLeDiff, Nat.reduceEqDiff, Nat.reduceLT, Nat.reduceBEq, reduceIte, reduceCtorEq, Int.reduceToNat, Nat.reduceShiftRight, Nat.reduceAnd, Nat.reduceBneDiff, Nat.reduceBNe, c3r2, semI.eq_10, semI.eq_11, semI.eq_3, semI.eq_5, semI.eq_7, e_api_Ref]
  obtain ⟨t2, e2, h⟩ := Option.bind_eq_some_iff.1 h
  refine call_fun [] false ⟨trivial, trivial, trivial⟩ rfl ?_ (f_law03_short_ok _ _ e2) (fun _ => rfl) (fun i hi => by cases hi) ?_
  · simp only [wz, wd, ws, Nat.reduceAdd, Nat.reduceSub, Nat.reduceMul, Nat.reduceLeDiff, Nat.reduceEqDiff, Nat.reduceLT, Nat.reduceBEq, reduceIte, reduceCtorEq, Int.reduceToNat, Nat.reduceShiftRight, Nat.reduceAnd, Nat.reduceBneDiff, Nat.reduceBNe, e_api_Ref]
  simp only [wz, wd, ws, Nat.reduceAdd, Nat.reduceSub, Nat.reduceMul, Nat.reduceLeDiff, Nat.reduceEqDiff, Nat.reduceLT, Nat.reduceBEq, reduceIte, reduceCtorEq, Int.reduceToNat, Nat.reduceShiftRight, Nat.reduceAnd, Nat.reduceBneDiff, Nat.reduceBNe, c3r2, semI.eq_10, semI.eq_11, semI.eq_3, semI.eq_5, semI.eq_7, e_api_Ref]
  obtain ⟨t3, e3, h⟩ := Option.bind_eq_some_iff.1 h
  refine call_fun [] false ⟨trivial, trivial, trivial⟩ rfl ?_ (f_law03_short_ok _ _ e3) (fun _ => rfl) (fun i hi => by cases hi) ?_
  · simp only [wz, wd, ws, Nat.reduceAdd, Nat.reduceSub, Nat.reduceMul, Nat.reduceLeDiff, Nat.reduceEqDiff, Nat.reduceLT, Nat.reduceBEq, reduceIte, reduceCtorEq, Int.reduceToNat, Nat.reduceShiftRight, Nat.reduceAnd, Nat.reduceBneDiff, Nat.reduceBNe, e_api_Ref]
  simp only [wz, wd, ws, Nat.reduceAdd, Nat.reduceSub, Nat.reduceMul, Nat.reduceLeDiff, Nat.reduceEqDiff, Nat.reduceLT, Nat.reduceBEq, reduceIte, reduceCtorEq, Int.reduceToNat, Nat.reduceShiftRight, Nat.reduceAnd, Nat.reduceBneDiff, Nat.reduceBNe, c3r2, semI.eq_10, semI.eq_11, semI.eq_3, semI.eq_5, semI.eq_7, e_api_Ref]
  obtain ⟨t4, e4, h⟩ := Option.bind_eq_some_iff.1 h
  refine call_fun [] false ⟨trivial, trivial, trivial⟩ rfl ?_ (f_law03_short_ok _ _ e4) (fun _ => rfl) (fun i hi => by cases hi) ?_
  · simp only [wz, wd, ws, Nat.reduceAdd, Nat.reduceSub, Nat.reduceMul, Nat.reduceLeDiff, Nat.reduceEqDiff, Nat.reduceLT, Nat.reduceBEq, reduceIte, reduceCtorEq, Int.reduceToNat, Nat.reduceShiftRight, Nat.reduceAnd, Nat.reduceBneDiff, Nat.reduceBNe, e_api_Ref]
  simp only [wz, wd, ws, Nat.reduceAdd, Nat.reduceSub, Nat.reduceMul, Nat.reduceLeDiff, Nat.reduceEqDiff, Nat.reduceLT, Nat.reduceBEq, reduceIte, reduceCtorEq, Int.reduceToNat, Nat.reduceShiftRight, Nat.reduceAnd, Nat.reduceBneDiff, Nat.reduceBNe, c3r2, semI.eq_10, semI.eq_11, semI.eq_3, semI.eq_5, semI.eq_7, e_api_Ref]
  refine .seq ?_
  refine Rw.walk ?_
  simp only [wz, wd, ws, Nat.reduceAdd, Nat.reduceSub, Nat.reduceMul, Nat.reduceLeDiff, Nat.reduceEqDiff, Nat.reduceLT, Nat.reduceBEq, reduceIte, reduceCtorEq, Int.reduceToNat, Nat.reduceShiftRight, Nat.reduceAnd, Nat.reduceBneDiff, Nat.reduceBNe, c3r3, semI.eq_10, semI.eq_11, semI.eq_3, semI.eq_5, semI.eq_7, e_api_Ref]
  obtain ⟨t5, e5, h⟩ := Option.bind_eq_some_iff.1 h
  refine call_fun [] false ⟨trivial, trivial, trivial⟩ rfl ?_ (f_name_Print_ok _ _ e5) (fun _ => rfl) (fun i hi => by cases hi) ?_
  · simp only [wz, wd, ws, Nat.reduceAdd, Nat.reduceSub, Nat.reduceMul, Nat.reduceLeDiff, Nat.reduceEqDiff, Nat.reduceLT, Nat.reduceBEq, reduceIte, reduceCtorEq, Int.reduceToNat, Nat.reduceShiftRight, Nat.reduceAnd, Nat.reduceBneDiff, Nat.reduceBNe, e_api_Ref]
  simp only [wz, wd, ws, Nat.reduceAdd, Nat.reduceSub, Nat.reduceMul, Nat.reduceLeDiff, Nat.reduceEqDiff, Nat.reduceLT, Nat.reduceBEq, reduceIte, reduceCtorEq, Int.reduceToNat, Nat.reduceShiftRight, Nat.reduceAnd, Nat.reduceBneDiff, Nat.reduceBNe, c3r3, semI.eq_10, semI.eq_11, semI.eq_3, semI.eq_5, semI.eq_7, e_api_Ref]
  refine .seq ?_
  refine .seq ?_
  refine Rw.walk ?_
  simp only [wz, wd, ws, Nat.reduceAdd, Nat.reduceSub, Nat.reduceMul, Nat.reduceLeDiff, Nat.reduceEqDiff, Nat.reduceLT, Nat.reduceBEq, reduceIte, reduceCtorEq, Int.reduceToNat, Nat.reduceShiftRight, Nat.reduceAnd, Nat.reduceBneDiff, Nat.reduceBNe, c3r4, semI.eq_10, semI.eq_11, semI.eq_3, semI.eq_5, semI.eq_7, e_api_Ref]
  obtain ⟨t6, e6, h⟩ := Option.bind_eq_some_iff.1 h
  refine call_fun [] false ⟨trivial, trivial, trivial⟩ rfl ?_ (f_name_Repo_ok _ _ e6) (fun _ => rfl) (fun i hi => by cases hi) ?_
  · simp only [wz, wd, ws, Nat.reduceAdd, Nat.reduceSub, Nat.reduceMul, Nat.reduceLeDiff, Nat.reduceEqDiff, Nat.reduceLT, Nat.reduceBEq, reduceIte, reduceCtorEq, Int.reduceToNat, Nat.reduceShiftRight, Nat.reduceAnd, Nat.reduceBneDiff, Nat.reduceBNe, e_api_Ref]
  simp only [wz, wd, ws, Nat.reduceAdd, Nat.reduceSub, Nat.reduceMul, Nat.reduceLeDiff, Nat.reduceEqDiff, Nat.reduceLT, Nat.reduceBEq, reduceIte, reduceCtorEq, Int.reduceToNat, Nat.reduceShiftRight, Nat.reduceAnd, Nat.reduceBneDiff, Nat.reduceBNe, c3r4, semI.eq_10, semI.eq_11, semI.eq_3, semI.eq_5, semI.eq_7, e_api_Ref]
  obtain ⟨t7, e7, h⟩ := Option.bind_eq_some_iff.1 h
  refine call_fun [] false ⟨trivial, trivial, trivial⟩ rfl ?_ (f_ref03_Repo_ok _ _ e7) (fun _ => rfl) (fun i hi => by cases hi) ?_
  · simp only [wz, wd, ws, Nat.reduceAdd, Nat.reduceSub, Nat.reduceMul, Nat.reduceLeDiff, Nat.reduceEqDiff, Nat.reduceLT, Nat.reduceBEq, reduceIte, reduceCtorEq, Int.reduceToNat, Nat.reduceShiftRight, Nat.reduceAnd, Nat.reduceBneDiff, Nat.reduceBNe, e_api_Ref]
  simp only [wz, wd, ws, Nat.reduceAdd, Nat.reduceSub, Nat.reduceMul, Nat.reduceLeDiff, Nat.reduceEqDiff, Nat.reduceLT, Nat.reduceBEq, reduceIte, reduceCtorEq, Int.reduceToNat, Nat.reduceShiftRight, Nat.reduceAnd, Nat.reduceBneDiff, Nat.reduceBNe, c3r4, semI.eq_10, semI.eq_11, semI.eq_3, semI.eq_5, semI.eq_7, e_api_Ref]
  obtain ⟨t8, e8, h⟩ := Option.bind_eq_some_iff.1 h
  refine call_funG [] rfl (by simp only [wz, wd, ws, Nat.reduceAdd, Nat.reduceSub, Nat.reduceMul, Nat.reduceLeDiff, Nat.reduceEqDiff, Nat.reduceLT, Nat.reduceBEq, reduceIte, reduceCtorEq, Int.reduceToNat, Nat.reduceShiftRight, Nat.reduceAnd, Nat.reduceBneDiff, Nat.reduceBNe]) rfl ?_ (fun q => (f_name_Tag_ok _ _ (gx_iff e8 (by simpa using q)))) rfl (fun i hi => by cases hi) ?_
  · simp only [wz, wd, ws, Nat.reduceAdd, Nat.reduceSub, Nat.reduceMul, Nat.reduceLeDiff, Nat.reduceEqDiff, Nat.reduceLT, Nat.reduceBEq, reduceIte, reduceCtorEq, Int.reduceToNat, Nat.reduceShiftRight, Nat.reduceAnd, Nat.reduceBneDiff, Nat.reduceBNe, e_api_Ref]
  simp only [wz, wd, ws, Nat.reduceAdd, Nat.reduceSub, Nat.reduceMul, Nat.reduceLeDiff, Nat.reduceEqDiff, Nat.reduceLT, Nat.reduceBEq, reduceIte, reduceCtorEq, Int.reduceToNat, Nat.reduceShiftRight, Nat.reduceAnd, Nat.reduceBneDiff, Nat.reduceBNe, c3r4, semI.eq_10, semI.eq_11, semI.eq_3, semI.eq_5, semI.eq_7, e_api_Ref]
  obtain ⟨t9, e9, h⟩ := Option.bind_eq_some_iff.1 h
  refine call_funG [] rfl (by simp only [wz, wd, ws, Nat.reduceAdd, Nat.reduceSub, Nat.reduceMul, Nat.reduceLeDiff, Nat.reduceEqDiff, Nat.reduceLT, Nat.reduceBEq, reduceIte, reduceCtorEq, Int.reduceToNat, Nat.reduceShiftRight, Nat.reduceAnd, Nat.reduceBneDiff, Nat.reduceBNe]) rfl ?_ (fun q => (f_ref03_Tag_ok _ _ (gx_iff e9 (by simpa using q)))) rfl (fun i hi => by cases hi) ?_
  · simp only [wz, wd, ws, Nat.reduceAdd, Nat.reduceSub, Nat.reduceMul, Nat.reduceLeDiff, Nat.reduceEqDiff, Nat.reduceLT, Nat.reduceBEq, reduceIte, reduceCtorEq, Int.reduceToNat, Nat.reduceShiftRight, Nat.reduceAnd, Nat.reduceBneDiff, Nat.reduceBNe, e_api_Ref]
  simp only [wz, wd, ws, Nat.reduceAdd, Nat.reduceSub, Nat.reduceMul, Nat.reduceLeDiff, Nat.reduceEqDiff, Nat.reduceLT, Nat.reduceBEq, reduceIte, reduceCtorEq, Int.reduceToNat, Nat.reduceShiftRight, Nat.reduceAnd, Nat.reduceBneDiff, Nat.reduceBNe, c3r4, semI.eq_10, semI.eq_11, semI.eq_3, semI.eq_5, semI.eq_7, e_api_Ref]
  repeat (refine And.intro ?_ ?_; · first | omega | (intro q; simp only [wz, wd, ws, Nat.reduceAdd, Nat.reduceSub, Nat.reduceMul, Nat.reduceLeDiff, Nat.reduceEqDiff, Nat.reduceLT, Nat.reduceBEq, reduceIte, reduceCtorEq, Int.reduceToNat, Nat.reduceShiftRight, Nat.reduceAnd, Nat.reduceBneDiff, Nat.reduceBNe, q]; done))
  obtain ⟨t10, e10, h⟩ := Option.bind_eq_some_iff.1 h
  refine call_funG [] rfl (by simp only [wz, wd, ws, Nat.reduceAdd, Nat.reduceSub, Nat.reduceMul, Nat.reduceLeDiff, Nat.reduceEqDiff, Nat.reduceLT, Nat.reduceBEq, reduceIte, reduceCtorEq, Int.reduceToNat, Nat.reduceShiftRight, Nat.reduceAnd, Nat.reduceBneDiff, Nat.reduceBNe]) rfl ?_ (fun q => (f_law03_alive_ok _ (gx_iff e10 (by simpa using q)))) rfl (fun i hi => by cases hi) ?_
  · simp only [wz, wd, ws, Nat.reduceAdd, Nat.reduceSub, Nat.reduceMul, Nat.reduceLeDiff, Nat.reduceEqDiff, Nat.reduceLT, Nat.reduceBEq, reduceIte, reduceCtorEq, Int.reduceToNat, Nat.reduceShiftRight, Nat.reduceAnd, Nat.reduceBneDiff, Nat.reduceBNe, e_api_Ref]
  simp only [wz, wd, ws, Nat.reduceAdd, Nat.reduceSub, Nat.reduceMul, Nat.reduceLeDiff, Nat.reduceEqDiff, Nat.reduceLT, Nat.reduceBEq, reduceIte, reduceCtorEq, Int.reduceToNat, Nat.reduceShiftRight, Nat.reduceAnd, Nat.reduceBneDiff, Nat.reduceBNe, c3r4, semI.eq_10, semI.eq_11, semI.eq_3, semI.eq_5, semI.eq_7, e_api_Ref]
  repeat (refine And.intro ?_ ?_; · first | omega | (intro q; simp only [wz, wd, ws, Nat.reduceAdd, Nat.reduceSub, Nat.reduceMul, Nat.reduceLeDiff, Nat.reduceEqDiff, Nat.reduceLT, Nat.reduceBEq, reduceIte, reduceCtorEq, Int.reduceToNat, Nat.reduceShiftRight, Nat.reduceAnd, Nat.reduceBneDiff, Nat.reduceBNe, q]; done))
  refine .cond (p := (((!(t6 == t7)) || (!(t8 == t9))) || (!t10))) (by first | rfl | simp only [wz, wd, ws, Nat.reduceAdd, Nat.reduceSub, Nat.reduceMul, Nat.reduceLeDiff, Nat.reduceEqDiff, Nat.reduceLT, Nat.reduceBEq, reduceIte, reduceCtorEq, Int.reduceToNat, Nat.reduceShiftRight, Nat.reduceAnd, Nat.reduceBneDiff, Nat.reduceBNe]) (fun h1 => ?_) (fun h1 => ?_)
  · rw [ite_t h1] at h
    refine .seq ?_
    refine Rw.walk ?_
    simp only [wz, wd, ws, Nat.reduceAdd, Nat.reduceSub, Nat.reduceMul, Nat.reduceLeDiff, Nat.reduceEqDiff, Nat.reduceLT, Nat.reduceBEq, reduceIte, reduceCtorEq, Int.reduceToNat, Nat.reduceShiftRight, Nat.reduceAnd, Nat.reduceBneDiff, Nat.reduceBNe, c3r5, semI.eq_10, semI.eq_11, semI.eq_3, semI.eq_5, semI.eq_7, e_api_Ref]
    obtain rfl := Option.some.inj h
    refine .ret ?_
    rw [← hR]
    simp only [wz, wd, ws, Nat.reduceAdd, Nat.reduceSub, Nat.reduceMul, Nat.reduceLeDiff, Nat.reduceEqDiff, Nat.reduceLT, Nat.reduceBEq, reduceIte, reduceCtorEq, Int.reduceToNat, Nat.reduceShiftRight, Nat.reduceAnd, Nat.reduceBneDiff, Nat.reduceBNe, rv3, e_api_Ref]
  · rw [ite_f h1] at h
    refine .skip ?_
    refine .seq ?_
    refine .seq ?_
    refine Rw.walk ?_
    simp only [wz, wd, ws, Nat.reduceAdd, Nat.reduceSub, Nat.reduceMul, Nat.reduceLeDiff, Nat.reduceEqDiff, Nat.reduceLT, Nat.reduceBEq, reduceIte, reduceCtorEq, Int.reduceToNat, Nat.reduceShiftRight, Nat.reduceAnd, Nat.reduceBneDiff, Nat.reduceBNe, c3r6, semI.eq_10, semI.eq_11, semI.eq_3, semI.eq_5, semI.eq_7, e_api_Ref]
    obtain ⟨t11, e11, h⟩ := Option.bind_eq_some_iff.1 h
    refine call_fun [] false ⟨trivial, trivial, trivial⟩ rfl ?_ (f_ref03_Right_ok _ _ e11) (fun _ => rfl) (fun i hi => by cases hi) ?_
    · simp only [wz, wd, ws, Nat.reduceAdd, Nat.reduceSub, Nat.reduceMul, Nat.reduceLeDiff, Nat.reduceEqDiff, Nat.reduceLT, Nat.reduceBEq, reduceIte, reduceCtorEq, Int.reduceToNat, Nat.reduceShiftRight, Nat.reduceAnd, Nat.reduceBneDiff, Nat.reduceBNe, e_api_Ref]
    simp only [wz, wd, ws, Nat.reduceAdd, Nat.reduceSub, Nat.reduceMul, Nat.reduceLeDiff, Nat.reduceEqDiff, Nat.reduceLT, Nat.reduceBEq, reduceIte, reduceCtorEq, Int.reduceToNat, Nat.reduceShiftRight, Nat.reduceAnd, Nat.reduceBneDiff, Nat.reduceBNe, c3r6, semI.eq_10, semI.eq_11, semI.eq_3, semI.eq_5, semI.eq_7, e_api_Ref]
    refine .cond (p := (!t11)) (by first | rfl | simp only [wz, wd, ws, Nat.reduceAdd, Nat.reduceSub, Nat.reduceMul, Nat.reduceLeDiff, Nat.reduceEqDiff, Nat.reduceLT, Nat.reduceBEq, reduceIte, reduceCtorEq, Int.reduceToNat, Nat.reduceShiftRight, Nat.reduceAnd, Nat.reduceBneDiff, Nat.reduceBNe]) (fun h1 => ?_) (fun h1 => ?_)
    · rw [ite_t h1] at h
      refine .seq ?_
      refine Rw.walk ?_
      simp only [wz, wd, ws, Nat.reduceAdd, Nat.reduceSub, Nat.reduceMul, Nat.reduceLeDiff, Nat.reduceEqDiff, Nat.reduceLT, Nat.reduceBEq, reduceIte, reduceCtorEq, Int.reduceToNat, Nat.reduceShiftRight, Nat.reduceAnd, Nat.reduceBneDiff, Nat.reduceBNe, c3r7, semI.eq_10, semI.eq_11, semI.eq_3, semI.eq_5, semI.eq_7, e_api_Ref]
      repeat (refine And.intro ?_ ?_; · first | omega | (intro q; simp only [wz, wd, ws, Nat.reduceAdd, Nat.reduceSub, Nat.reduceMul, Nat.reduceLeDiff, Nat.reduceEqDiff, Nat.reduceLT, Nat.reduceBEq, reduceIte, reduceCtorEq, Int.reduceToNat, Nat.reduceShiftRight, Nat.reduceAnd, Nat.reduceBneDiff, Nat.reduceBNe, q]; done))
      obtain rfl := Option.some.inj h
      refine .ret ?_
      rw [← hR]
      simp only [wz, wd, ws, Nat.reduceAdd, Nat.reduceSub, Nat.reduceMul, Nat.reduceLeDiff, Nat.reduceEqDiff, Nat.reduceLT, Nat.reduceBEq, reduceIte, reduceCtorEq, Int.reduceToNat, Nat.reduceShiftRight, Nat.reduceAnd, Nat.reduceBneDiff, Nat.reduceBNe, rv3, e_api_Ref]
    · rw [ite_f h1] at h
      refine .skip ?_
      refine .seq ?_
      refine Rw.walk ?_
      simp only [wz, wd, ws, Nat.reduceAdd, Nat.reduceSub, Nat.reduceMul, Nat.reduceLeDiff, Nat.reduceEqDiff, Nat.reduceLT, Nat.reduceBEq, reduceIte, reduceCtorEq, Int.reduceToNat, Nat.reduceShiftRight, Nat.reduceAnd, Nat.reduceBneDiff, Nat.reduceBNe, c3r8, semI.eq_10, semI.eq_11, semI.eq_3, semI.eq_5, semI.eq_7, e_api_Ref]
      refine call_alt (v := .b (.agg [(.d (.str t2)), (.d (.str t3)), (.d (.str t4))])) rfl rfl (by simp only [wz, wd, ws, Nat.reduceAdd, Nat.reduceSub, Nat.reduceMul, Nat.reduceLeDiff, Nat.reduceEqDiff, Nat.reduceLT, Nat.reduceBEq, reduceIte, reduceCtorEq, Int.reduceToNat, Nat.reduceShiftRight, Nat.reduceAnd, Nat.reduceBneDiff, Nat.reduceBNe]) (fun q => ⟨_, by simp only [wz, wd, ws, Nat.reduceAdd, Nat.reduceSub, Nat.reduceMul, Nat.reduceLeDiff, Nat.reduceEqDiff, Nat.reduceLT, Nat.reduceBEq, reduceIte, reduceCtorEq, Int.reduceToNat, Nat.reduceShiftRight, Nat.reduceAnd, Nat.reduceBneDiff, Nat.reduceBNe, semI.eq_10, e_api_Ref], trivial⟩) ?_
      simp only [wz, wd, ws, Nat.reduceAdd, Nat.reduceSub, Nat.reduceMul, Nat.reduceLeDiff, Nat.reduceEqDiff, Nat.reduceLT, Nat.reduceBEq, reduceIte, reduceCtorEq, Int.reduceToNat, Nat.reduceShiftRight, Nat.reduceAnd, Nat.reduceBneDiff, Nat.reduceBNe, c3r8, semI.eq_10, semI.eq_11, semI.eq_3, semI.eq_5, semI.eq_7, e_api_Ref]
      obtain ⟨t12, e12, h⟩ := Option.bind_eq_some_iff.1 h
      refine call_funG [] rfl (by simp only [wz, wd, ws, Nat.reduceAdd, Nat.reduceSub, Nat.reduceMul, Nat.reduceLeDiff, Nat.reduceEqDiff, Nat.reduceLT, Nat.reduceBEq, reduceIte, reduceCtorEq, Int.reduceToNat, Nat.reduceShiftRight, Nat.reduceAnd, Nat.reduceBneDiff, Nat.reduceBNe]) rfl ?_ (fun q => (f_ref03_Text_ok _ _ (gx_iff e12 (by simpa using q)))) rfl (fun i hi => by cases hi) ?_
      · simp only [wz, wd, ws, Nat.reduceAdd, Nat.reduceSub, Nat.reduceMul, Nat.reduceLeDiff, Nat.reduceEqDiff, Nat.reduceLT, Nat.reduceBEq, reduceIte, reduceCtorEq, Int.reduceToNat, Nat.reduceShiftRight, Nat.reduceAnd, Nat.reduceBneDiff, Nat.reduceBNe, e_api_Ref]
      simp only [wz, wd, ws, Nat.reduceAdd, Nat.reduceSub, Nat.reduceMul, Nat.reduceLeDiff, Nat.reduceEqDiff, Nat.reduceLT, Nat.reduceBEq, reduceIte, reduceCtorEq, Int.reduceToNat, Nat.reduceShiftRight, Nat.reduceAnd, Nat.reduceBneDiff, Nat.reduceBNe, c3r8, semI.eq_10, semI.eq_11, semI.eq_3, semI.eq_5, semI.eq_7, e_api_Ref]
      repeat (refine And.intro ?_ ?_; · first | omega | (intro q; simp only [wz, wd, ws, Nat.reduceAdd, Nat.reduceSub, Nat.reduceMul, Nat.reduceLeDiff, Nat.reduceEqDiff, Nat.reduceLT, Nat.reduceBEq, reduceIte, reduceCtorEq, Int.reduceToNat, Nat.reduceShiftRight, Nat.reduceAnd, Nat.reduceBneDiff, Nat.reduceBNe, q]; done))
      obtain rfl := Option.some.inj h
      refine .ret ?_
      rw [← hR]
      simp only [wz, wd, ws, Nat.reduceAdd, Nat.reduceSub, Nat.reduceMul, Nat.reduceLeDiff, Nat.reduceEqDiff, Nat.reduceLT, Nat.reduceBEq, reduceIte, reduceCtorEq, Int.reduceToNat, Nat.reduceShiftRight, Nat.reduceAnd, Nat.reduceBneDiff, Nat.reduceBNe, rv3, e_api_Ref]
-- 19 consignor/consignorref03.Parse
def c19r0 : List Opn := [
  ⟨(some 2), none, .new [(.d (.str [])), (.d (.str [])), (.d (.str []))]⟩, 
  ⟨(some 3), none, .mv (.c (.s (.d (.bool false))))⟩]
def c19r1 : List Opn := [
  ⟨(some 4), none, .mv (.c (.s (.d (.int .i64 0))))⟩]
def c19r2 : List Opn := [
  ⟨(some 6), none, .mv (.t 4)⟩, 
  ⟨(some 7), none, .mv (.t 0)⟩, 
  ⟨(some 8), none, .len .str (.t 7)⟩, 
  ⟨(some 9), none, .bin .lss (.t 6) (.t 8)⟩]
def c19r4 : List Opn := [
  ⟨(some 12), none, .mv (.t 0)⟩, 
  ⟨(some 13), none, .mv (.t 4)⟩, 
  ⟨(some 14), none, .slc .str (.t 12) none (some (.t 13)) none⟩, 
  ⟨(some 15), none, .mv (.t 0)⟩, 
  ⟨(some 16), none, .mv (.t 4)⟩, 
  ⟨(some 17), none, .bin .add (.t 16) (.c (.s (.d (.int .i64 1))))⟩, 
  ⟨(some 18), none, .slc .str (.t 15) (some (.t 17)) none none⟩, 
  ⟨(some 19), none, .build [(.d (.str [])), (.d (.str [])), (.d (.str []))] [(0, 1, (.t 14)), (1, 1, (.t 18))]⟩, 
  ⟨(some 5), none, .new [(.d (.str [])), (.d (.str [])), (.d (.str []))]⟩, 
  ⟨none, none, .store 3 (.t 5) (.t 19)⟩]
def c19r5 : List Opn := [
  ⟨(some 20), none, .mv (.t 0)⟩, 
  ⟨(some 21), none, .mv (.t 4)⟩, 
  ⟨(some 22), none, .idx .str (.t 20) (.t 21)⟩, 
  ⟨(some 23), none, .bin .eql (.t 22) (.c (.s (.d (.int .u8 64))))⟩]
def c19r6 : List Opn := [
  ⟨(some 24), none, .mv (.t 0)⟩, 
  ⟨(some 25), none, .mv (.t 4)⟩, 
  ⟨(some 26), none, .slc .str (.t 24) none (some (.t 25)) none⟩, 
  ⟨(some 27), none, .mv (.t 0)⟩, 
  ⟨(some 28), none, .mv (.t 4)⟩, 
  ⟨(some 29), none, .bin .add (.t 28) (.c (.s (.d (.int .i64 1))))⟩, 
  ⟨(some 30), none, .slc .str (.t 27) (some (.t 29)) none none⟩, 
  ⟨(some 31), none, .build [(.d (.str [])), (.d (.str [])), (.d (.str []))] [(0, 1, (.t 26)), (2, 1, (.t 30))]⟩, 
  ⟨none, none, .store 3 (.t 5) (.t 31)⟩]
def c19r7 : List Opn := [
  ⟨(some 32), none, .load true 3 (.t 5)⟩, 
  ⟨(some 33), none, .call (.fn 16) [(.t 32)]⟩, 
  ⟨(some 34), none, .mv (.t 33)⟩, 
  ⟨(some 35), some (34, true), .load true 3 (.t 5)⟩, 
  ⟨(some 36), some (34, true), .call (.fn 17) [(.t 35)]⟩, 
  ⟨(some 37), some (34, true), .mv (.t 0)⟩, 
  ⟨(some 38), some (34, true), .bin .eql (.t 36) (.t 37)⟩, 
  ⟨(some 39), none, .pick (.t 34) (.t 38) (.c (.s (.d (.bool false))))⟩]
def c19r8 : List Opn := [
  ⟨(some 40), none, .load true 3 (.t 5)⟩, 
  ⟨none, none, .store 3 (.t 2) (.t 40)⟩, 
  ⟨(some 3), none, .mv (.c (.s (.d (.bool true))))⟩]
def c19r3 : List Opn := [
  ⟨(some 10), none, .mv (.t 4)⟩, 
  ⟨(some 11), none, .bin .add (.t 10) (.c (.s (.d (.int .i64 1))))⟩, 
  ⟨(some 4), none, .mv (.t 11)⟩]
def c19l9 : C := .seq (.seq (.reg c19r2 none [0, 2, 4, 9]) (.cond (.t 9) (.skip) (.exit 0))) (.seq (.blk 1 (.seq (.reg c19r4 (some [0, 0, 3, 0, 0, 16, 56, 127, 0, 511]) [0, 2, 4, 5]) (.seq (.seq (.reg c19r5 none [0, 2, 4, 5, 23]) (.cond (.t 23) (.reg c19r6 (some [0, 0, 3, 0, 0, 16, 56, 127, 255]) [0, 2, 4, 5]) (.skip))) (.seq (.reg c19r7 none [0, 2, 4, 5, 39]) (.cond (.t 39) (.seq (.reg c19r8 none [2, 3]) (.ret)) (.skip)))))) (.reg c19r3 none [0, 2, 4]))
def c19r9 : List Opn := [
  ⟨(some 41), none, .build [(.d (.str [])), (.d (.str [])), (.d (.str []))] []⟩, 
  ⟨none, none, .store 3 (.t 2) (.t 41)⟩, 
  ⟨(some 3), none, .mv (.c (.s (.d (.bool false))))⟩]
def c19 : C := .seq (.reg c19r0 none [0, 2]) (.seq (.seq (.reg c19r1 none [0, 2, 4]) (.blk 0 (.loop c19l9))) (.seq (.reg c19r9 none [2, 3]) (.ret)))
def k19 : List (Nat × List Nat) := [(9, [2, 3]), (3, [0, 2, 4]), (8, [2, 3]), (7, [0, 2, 4, 5, 39]), (6, [0, 2, 4, 5]), (5, [0, 2, 4, 5, 23]), (4, [0, 2, 4, 5]), (2, [0, 2, 4, 9]), (1, [0, 2, 4]), (0, [0, 2])]
theorem cc19 : (Tryd.f19.body).bind (cC Tryd.prog 42 k19) = some c19 := by kernel_rfl
def rv19 : List RV := [.c 2 true 3, .t 3]
theorem cr19 : cRVs Tryd.prog Tryd.f19.results.toList = some rv19 := by kernel_rfl
theorem f_ref03_Parse_l9_ok (s : Str) (y_ : api_Ref × Bool) (R_ : St → Prop) (hR : (Ret Tryd.prog glP [] rv19 (.tup [.agg ((e_api_Ref y_.1).map Lc.d), .s (.d (.bool y_.2))])) = R_) : ∀ (m_ : Nat) (i : Int) (res_ : (Int) ⊕ (api_Ref × Bool)) (h : f_ref03_Parse_l9 s m_ i = some res_) (k_ : List It) (hx : ∀ s_ : Int, res_ = .inl s_ → W Tryd.prog glP 42 k_ ⟨lkT [(0, .b (.s (.d (.str s)))), (2, .b (.s (.ptr 2 1 0 0))), (4, .b (.s (.d (.int .i64 s_))))], lkG [(2, ⟨3, [[(.d (.str ([] : Str))), (.d (.str ([] : Str))), (.d (.str ([] : Str)))]], false⟩)]⟩ R_) (hr : ∀ z_ : api_Ref × Bool, res_ = .inr z_ → z_ = y_), W Tryd.prog glP 42 (.c c19l9 :: .lp c19l9 :: .blk 0 :: k_) ⟨lkT [(0, .b (.s (.d (.str s)))), (2, .b (.s (.ptr 2 1 0 0))), (4, .b (.s (.d (.int .i64 i))))], lkG [(2, ⟨3, [[(.d (.str ([] : Str))), (.d (.str ([] : Str))), (.d (.str ([] : Str)))]], false⟩)]⟩ R_ := by
  intro m_; induction m_ with
  | zero => intro i res_ h; rw [f_ref03_Parse_l9.eq_1] at h; cases h
  | succ m_ ih =>
    intro i res_ h k_ hx hr; rw [f_ref03_Parse_l9.eq_2] at h; refine W.cdef c19l9.eq_1 ?_
    refine .seq ?_
    refine .seq ?_
    refine Rw.walk ?_
    simp only [wz, wd, ws, Nat.reduceAdd, Nat.reduceSub, Nat.reduceMul, Nat.reduceLeDiff, Nat.reduceEqDiff, Nat.reduceLT, Nat.reduceBEq, reduceIte, reduceCtorEq, Int.reduceToNat, Nat.reduceShiftRight, Nat.reduceAnd, Nat.reduceBneDiff, Nat.reduceBNe, c19r2, semI.eq_10, semI.eq_11, semI.eq_3, semI.eq_5, semI.eq_7, e_api_Ref]
    refine .cond (p := (decide (i < (s.length : Int)))) (by first | rfl | simp only [wz, wd, ws, Nat.reduceAdd, Nat.reduceSub, Nat.reduceMul, Nat.reduceLeDiff, Nat.reduceEqDiff, Nat.reduceLT, Nat.reduceBEq, reduceIte, reduceCtorEq, Int.reduceToNat, Nat.reduceShiftRight, Nat.reduceAnd, Nat.reduceBneDiff, Nat.reduceBNe]) (fun h1 => ?_) (fun h1 => ?_)
    · rw [ite_t h1] at h
      refine .skip ?_
      refine .seq ?_
      refine .blk ?_
      refine .seq ?_
      refine RwD.walk ?_
      obtain ⟨g1, h⟩ := gd_iff.1 h
      obtain ⟨g2, h⟩ := gd_iff.1 h
      simp only [wz, wd, ws, Nat.reduceAdd, Nat.reduceSub, Nat.reduceMul, Nat.reduceLeDiff, Nat.reduceEqDiff, Nat.reduceLT, Nat.reduceBEq, reduceIte, reduceCtorEq, Int.reduceToNat, Nat.reduceShiftRight, Nat.reduceAnd, Nat.reduceBneDiff, Nat.reduceBNe, c19r4, semI.eq_10, semI.eq_11, semI.eq_3, semI.eq_5, semI.eq_7, e_api_Ref]
      repeat (refine And.intro ?_ ?_; · first | omega | (intro q; simp only [wz, wd, ws, Nat.reduceAdd, Nat.reduceSub, Nat.reduceMul, Nat.reduceLeDiff, Nat.reduceEqDiff, Nat.reduceLT, Nat.reduceBEq, reduceIte, reduceCtorEq, Int.reduceToNat, Nat.reduceShiftRight, Nat.reduceAnd, Nat.reduceBneDiff, Nat.reduceBNe, q]; done))
      refine .seq ?_
      obtain ⟨s2, hf, h⟩ := Option.bind_eq_some_iff.1 h
      refine W.cut1 ⟨lkT [(0, .b (.s (.d (.str s)))), (2, .b (.s (.ptr 2 1 0 0))), (4, .b (.s (.d (.int .i64 i)))), (5, .b (.s (.ptr 5 1 0 0)))], lkG [(2, ⟨3, [[(.d (.str ([] : Str))), (.d (.str ([] : Str))), (.d (.str ([] : Str)))]], false⟩), (5, ⟨3, [[(.d (.str (cut s 0 i))), (.d (.str s2.1)), (.d (.str s2.2))]], false⟩)]⟩ ?_ (fun tail => ?_)
      · skip
        refine .seq ?_
        refine Rw.walk ?_
        simp only [wz, wd, ws, Nat.reduceAdd, Nat.reduceSub, Nat.reduceMul, Nat.reduceLeDiff, Nat.reduceEqDiff, Nat.reduceLT, Nat.reduceBEq, reduceIte, reduceCtorEq, Int.reduceToNat, Nat.reduceShiftRight, Nat.reduceAnd, Nat.reduceBneDiff, Nat.reduceBNe, c19r7, semI.eq_10, semI.eq_11, semI.eq_3, semI.eq_5, semI.eq_7, e_api_Ref]
        obtain ⟨t, e3, h⟩ := Option.bind_eq_some_iff.1 h
        refine call_fun [] false ⟨trivial, trivial, trivial⟩ rfl ?_ (f_ref03_Right_ok _ _ e3) (fun _ => rfl) (fun i hi => by cases hi) ?_
        · simp only [wz, wd, ws, Nat.reduceAdd, Nat.reduceSub, Nat.reduceMul, Nat.reduceLeDiff, Nat.reduceEqDiff, Nat.reduceLT, Nat.reduceBEq, reduceIte, reduceCtorEq, Int.reduceToNat, Nat.reduceShiftRight, Nat.reduceAnd, Nat.reduceBneDiff, Nat.reduceBNe, e_api_Ref]
        simp only [wz, wd, ws, Nat.reduceAdd, Nat.reduceSub, Nat.reduceMul, Nat.reduceLeDiff, Nat.reduceEqDiff, Nat.reduceLT, Nat.reduceBEq, reduceIte, reduceCtorEq, Int.reduceToNat, Nat.reduceShiftRight, Nat.reduceAnd, Nat.reduceBneDiff, Nat.reduceBNe, c19r7, semI.eq_10, semI.eq_11, semI.eq_3, semI.eq_5, semI.eq_7, e_api_Ref]
        refine call_alt (v := .b (.agg [(.d (.str (cut s 0 i))), (.d (.str s2.1)), (.d (.str s2.2))])) rfl rfl (by simp only [wz, wd, ws, Nat.reduceAdd, Nat.reduceSub, Nat.reduceMul, Nat.reduceLeDiff, Nat.reduceEqDiff, Nat.reduceLT, Nat.reduceBEq, reduceIte, reduceCtorEq, Int.reduceToNat, Nat.reduceShiftRight, Nat.reduceAnd, Nat.reduceBneDiff, Nat.reduceBNe]) (fun q => ⟨_, by simp only [wz, wd, ws, Nat.reduceAdd, Nat.reduceSub, Nat.reduceMul, Nat.reduceLeDiff, Nat.reduceEqDiff, Nat.reduceLT, Nat.reduceBEq, reduceIte, reduceCtorEq, Int.reduceToNat, Nat.reduceShiftRight, Nat.reduceAnd, Nat.reduceBneDiff, Nat.reduceBNe, semI.eq_10, e_api_Ref], trivial⟩) ?_
        simp only [wz, wd, ws, Nat.reduceAdd, Nat.reduceSub, Nat.reduceMul, Nat.reduceLeDiff, Nat.reduceEqDiff, Nat.reduceLT, Nat.reduceBEq, reduceIte, reduceCtorEq, Int.reduceToNat, Nat.reduceShiftRight, Nat.reduceAnd, Nat.reduceBneDiff, Nat.reduceBNe, c19r7, semI.eq_10, semI.eq_11, semI.eq_3, semI.eq_5, semI.eq_7, e_api_Ref]
        obtain ⟨t2, e4, h⟩ := Option.bind_eq_some_iff.1 h
        refine call_funG [] rfl (by simp only [wz, wd, ws, Nat.reduceAdd, Nat.reduceSub, Nat.reduceMul, Nat.reduceLeDiff, Nat.reduceEqDiff, Nat.reduceLT, Nat.reduceBEq, reduceIte, reduceCtorEq, Int.reduceToNat, Nat.reduceShiftRight, Nat.reduceAnd, Nat.reduceBneDiff, Nat.reduceBNe]) rfl ?_ (fun q => (f_ref03_Text_ok _ _ (gx_iff e4 (by simpa using q)))) rfl (fun i hi => by cases hi) ?_
        · simp only [wz, wd, ws, Nat.reduceAdd, Nat.reduceSub, Nat.reduceMul, Nat.reduceLeDiff, Nat.reduceEqDiff, Nat.reduceLT, Nat.reduceBEq, reduceIte, reduceCtorEq, Int.reduceToNat, Nat.reduceShiftRight, Nat.reduceAnd, Nat.reduceBneDiff, Nat.reduceBNe, e_api_Ref]
        simp only [wz, wd, ws, Nat.reduceAdd, Nat.reduceSub, Nat.reduceMul, Nat.reduceLeDiff, Nat.reduceEqDiff, Nat.reduceLT, Nat.reduceBEq, reduceIte, reduceCtorEq, Int.reduceToNat, Nat.reduceShiftRight, Nat.reduceAnd, Nat.reduceBneDiff, Nat.reduceBNe, c19r7, semI.eq_10, semI.eq_11, semI.eq_3, semI.eq_5, semI.eq_7, e_api_Ref]
        repeat (refine And.intro ?_ ?_; · first | omega | (intro q; simp only [wz, wd, ws, Nat.reduceAdd, Nat.reduceSub, Nat.reduceMul, Nat.reduceLeDiff, Nat.reduceEqDiff, Nat.reduceLT, Nat.reduceBEq, reduceIte, reduceCtorEq, Int.reduceToNat, Nat.reduceShiftRight, Nat.reduceAnd, Nat.reduceBneDiff, Nat.reduceBNe, q]; done))
        refine .cond (p := (t && (t2 == s))) (by first | rfl | simp only [wz, wd, ws, Nat.reduceAdd, Nat.reduceSub, Nat.reduceMul, Nat.reduceLeDiff, Nat.reduceEqDiff, Nat.reduceLT, Nat.reduceBEq, reduceIte, reduceCtorEq, Int.reduceToNat, Nat.reduceShiftRight, Nat.reduceAnd, Nat.reduceBneDiff, Nat.reduceBNe]) (fun h1 => ?_) (fun h1 => ?_)
        · rw [ite_t h1] at h
          refine .seq ?_
          refine Rw.walk ?_
          simp only [wz, wd, ws, Nat.reduceAdd, Nat.reduceSub, Nat.reduceMul, Nat.reduceLeDiff, Nat.reduceEqDiff, Nat.reduceLT, Nat.reduceBEq, reduceIte, reduceCtorEq, Int.reduceToNat, Nat.reduceShiftRight, Nat.reduceAnd, Nat.reduceBneDiff, Nat.reduceBNe, c19r8, semI.eq_10, semI.eq_11, semI.eq_3, semI.eq_5, semI.eq_7, e_api_Ref]
          obtain rfl := Option.some.inj h; obtain rfl := hr _ rfl
          refine .ret ?_
          rw [← hR]
          simp only [wz, wd, ws, Nat.reduceAdd, Nat.reduceSub, Nat.reduceMul, Nat.reduceLeDiff, Nat.reduceEqDiff, Nat.reduceLT, Nat.reduceBEq, reduceIte, reduceCtorEq, Int.reduceToNat, Nat.reduceShiftRight, Nat.reduceAnd, Nat.reduceBneDiff, Nat.reduceBNe, rv19, semI.eq_10, e_api_Ref]
        · rw [ite_f h1] at h
          refine .skip ?_
          refine .eblk ?_
          refine Rw.walk ?_
          simp only [wz, wd, ws, Nat.reduceAdd, Nat.reduceSub, Nat.reduceMul, Nat.reduceLeDiff, Nat.reduceEqDiff, Nat.reduceLT, Nat.reduceBEq, reduceIte, reduceCtorEq, Int.reduceToNat, Nat.reduceShiftRight, Nat.reduceAnd, Nat.reduceBneDiff, Nat.reduceBNe, c19r3, semI.eq_10, semI.eq_11, semI.eq_3, semI.eq_5, semI.eq_7, e_api_Ref]
          refine .lp ?_
          refine .weak (Imp.co [] _ _ ?_ ?_ ?_ ?_ ?_) (ih (IntKind.i64.wrap (i + 1)) _ h k_ hx hr) <;> simp only [wz, wd, ws, Nat.reduceAdd, Nat.reduceSub, Nat.reduceMul, Nat.reduceLeDiff, Nat.reduceEqDiff, Nat.reduceLT, Nat.reduceBEq, reduceIte, reduceCtorEq, Int.reduceToNat, Nat.reduceShiftRight, Nat.reduceAnd, Nat.reduceBneDiff, Nat.reduceBNe, wi, er_nil, e_api_Ref]
      replace h := hf
      refine .seq ?_
      refine Rw.walk ?_
      simp only [wz, wd, ws, Nat.reduceAdd, Nat.reduceSub, Nat.reduceMul, Nat.reduceLeDiff, Nat.reduceEqDiff, Nat.reduceLT, Nat.reduceBEq, reduceIte, reduceCtorEq, Int.reduceToNat, Nat.reduceShiftRight, Nat.reduceAnd, Nat.reduceBneDiff, Nat.reduceBNe, c19r5, semI.eq_10, semI.eq_11, semI.eq_3, semI.eq_5, semI.eq_7, e_api_Ref]
      obtain ⟨c, e5, h⟩ := Option.bind_eq_some_iff.1 h
      refine Go1.of (sem_idx e5 (by rfl) (by rfl)) ?_
      simp only [wz, wd, ws, Nat.reduceAdd, Nat.reduceSub, Nat.reduceMul, Nat.reduceLeDiff, Nat.reduceEqDiff, Nat.reduceLT, Nat.reduceBEq, reduceIte, reduceCtorEq, Int.reduceToNat, Nat.reduceShiftRight, Nat.reduceAnd, Nat.reduceBneDiff, Nat.reduceBNe, c19r5, semI.eq_10, semI.eq_11, semI.eq_3, semI.eq_5, semI.eq_7, e_api_Ref]
      refine .cond (p := ((bn c) == 64)) (by first | rfl | simp only [wz, wd, ws, Nat.reduceAdd, Nat.reduceSub, Nat.reduceMul, Nat.reduceLeDiff, Nat.reduceEqDiff, Nat.reduceLT, Nat.reduceBEq, reduceIte, reduceCtorEq, Int.reduceToNat, Nat.reduceShiftRight, Nat.reduceAnd, Nat.reduceBneDiff, Nat.reduceBNe]) (fun h1 => ?_) (fun h1 => ?_)
      · rw [ite_t h1] at h
        refine RwD.walk ?_
        obtain ⟨g6, h⟩ := gd_iff.1 h
        obtain ⟨g7, h⟩ := gd_iff.1 h
        simp only [wz, wd, ws, Nat.reduceAdd, Nat.reduceSub, Nat.reduceMul, Nat.reduceLeDiff, Nat.reduceEqDiff, Nat.reduceLT, Nat.reduceBEq, reduceIte, reduceCtorEq, Int.reduceToNat, Nat.reduceShiftRight, Nat.reduceAnd, Nat.reduceBneDiff, Nat.reduceBNe, c19r6, semI.eq_10, semI.eq_11, semI.eq_3, semI.eq_5, semI.eq_7, e_api_Ref]
        repeat (refine And.intro ?_ ?_; · first | omega | (intro q; simp only [wz, wd, ws, Nat.reduceAdd, Nat.reduceSub, Nat.reduceMul, Nat.reduceLeDiff, Nat.reduceEqDiff, Nat.reduceLT, Nat.reduceBEq, reduceIte, reduceCtorEq, Int.reduceToNat, Nat.reduceShiftRight, Nat.reduceAnd, Nat.reduceBneDiff, Nat.reduceBNe, q]; done))
        obtain rfl := Option.some.inj h
        refine .weak (Imp.co [] _ _ ?_ ?_ ?_ ?_ ?_) (tail) <;> simp only [wz, wd, ws, Nat.reduceAdd, Nat.reduceSub, Nat.reduceMul, Nat.reduceLeDiff, Nat.reduceEqDiff, Nat.reduceLT, Nat.reduceBEq, reduceIte, reduceCtorEq, Int.reduceToNat, Nat.reduceShiftRight, Nat.reduceAnd, Nat.reduceBneDiff, Nat.reduceBNe, wi, er_nil, e_api_Ref]
      · rw [ite_f h1] at h
        refine .skip ?_
        obtain rfl := Option.some.inj h
        refine .weak (Imp.co [] _ _ ?_ ?_ ?_ ?_ ?_) (tail) <;> simp only [wz, wd, ws, Nat.reduceAdd, Nat.reduceSub, Nat.reduceMul, Nat.reduceLeDiff, Nat.reduceEqDiff, Nat.reduceLT, Nat.reduceBEq, reduceIte, reduceCtorEq, Int.reduceToNat, Nat.reduceShiftRight, Nat.reduceAnd, Nat.reduceBneDiff, Nat.reduceBNe, wi, er_nil, e_api_Ref]
    · rw [ite_f h1] at h
      refine .exit rfl ?_
      obtain rfl := Option.some.inj h
      refine .weak (Imp.co [] _ _ ?_ ?_ ?_ ?_ ?_) (hx _ rfl) <;> simp only [wz, wd, ws, Nat.reduceAdd, Nat.reduceSub, Nat.reduceMul, Nat.reduceLeDiff, Nat.reduceEqDiff, Nat.reduceLT, Nat.reduceBEq, reduceIte, reduceCtorEq, Int.reduceToNat, Nat.reduceShiftRight, Nat.reduceAnd, Nat.reduceBneDiff, Nat.reduceBNe, wi, er_nil, e_api_Ref]
theorem f_ref03_Parse_ok (s : Str) (y_ : api_Ref × Bool) (h : f_ref03_Parse s = some y_) : Fun Tryd.prog glP 19 [.b (.s (.d (.str s)))] (.tup [.agg ((e_api_Ref y_.1).map Lc.d), .s (.d (.bool y_.2))]) := by
  refine fun_walk [] Tryd.func19 Tryd.ntmps19 cc19 cr19 (by kernel_rfl) (by simp only [List.length_cons, List.length_nil]; decide) ?_
  generalize hR : Ret _ _ _ _ _ = R_
  simp only [wz, wd, ws, Nat.reduceAdd, Nat.reduceSub, Nat.reduceMul, Nat.reduceLeDiff, Nat.reduceEqDiff, Nat.reduceLT, Nat.reduceBEq, reduceIte, reduceCtorEq, Int.reduceToNat, Nat.reduceShiftRight, Nat.reduceAnd, Nat.reduceBneDiff, Nat.reduceBNe, e_api_Ref]
  unfold f_ref03_Parse at h; unfold c19
  refine .seq ?_
  refine Rw.walk ?_
  simp only [wz, wd, ws, Nat.reduceAdd, Nat.reduceSub, Nat.reduceMul, Nat.reduceLeDiff, Nat.reduceEqDiff, Nat.reduceLT, Nat.reduceBEq, reduceIte, reduceCtorEq, Int.reduceToNat, Nat.reduceShiftRight, Nat.reduceAnd, Nat.reduceBneDiff, Nat.reduceBNe, c19r0, semI.eq_10, semI.eq_11, semI.eq_3, semI.eq_5, semI.eq_7, e_api_Ref]
  refine .seq ?_
  refine .seq ?_
  refine Rw.walk ?_
  simp only [wz, wd, ws, Nat.reduceAdd, Nat.reduceSub, Nat.reduceMul, Nat.reduceLeDiff, Nat.reduceEqDiff, Nat.reduceLT, Nat.reduceBEq, reduceIte, reduceCtorEq, Int.reduceToNat, Nat.reduceShiftRight, Nat.reduceAnd, Nat.reduceBneDiff, Nat.reduceBNe, c19r1, semI.eq_10, semI.eq_11, semI.eq_3, semI.eq_5, semI.eq_7, e_api_Ref]
  refine .blk ?_
  obtain ⟨s2, hf, h⟩ := Option.bind_eq_some_iff.1 h
  refine .loop (.weak (Imp.co [] _ _ ?c1 ?c2 ?c3 ?c4 ?c5) (f_ref03_Parse_l9_ok s _ _ hR _ _ _ hf _ ?_ ?_))
  case c1 | c2 | c3 | c4 | c5 => simp only [wz, wd, ws, Nat.reduceAdd, Nat.reduceSub, Nat.reduceMul, Nat.reduceLeDiff, Nat.reduceEqDiff, Nat.reduceLT, Nat.reduceBEq, reduceIte, reduceCtorEq, Int.reduceToNat, Nat.reduceShiftRight, Nat.reduceAnd, Nat.reduceBneDiff, Nat.reduceBNe, wi, er_nil, e_api_Ref]
  · intro s3 hs; subst hs; dsimp only at h
    refine .seq ?_
    refine Rw.walk ?_
    simp only [wz, wd, ws, Nat.reduceAdd, Nat.reduceSub, Nat.reduceMul, Nat.reduceLeDiff, Nat.reduceEqDiff, Nat.reduceLT, Nat.reduceBEq, reduceIte, reduceCtorEq, Int.reduceToNat, Nat.reduceShiftRight, Nat.reduceAnd, Nat.reduceBneDiff, Nat.reduceBNe, c19r9, semI.eq_10, semI.eq_11, semI.eq_3, semI.eq_5, semI.eq_7, e_api_Ref]
    obtain rfl := Option.some.inj h
    refine .ret ?_
    rw [← hR]
    simp only [wz, wd, ws, Nat.reduceAdd, Nat.reduceSub, Nat.reduceMul, Nat.reduceLeDiff, Nat.reduceEqDiff, Nat.reduceLT, Nat.reduceBEq, reduceIte, reduceCtorEq, Int.reduceToNat, Nat.reduceShiftRight, Nat.reduceAnd, Nat.reduceBneDiff, Nat.reduceBNe, rv19, semI.eq_10, e_api_Ref]
  · intro z hz; subst hz; dsimp only at h
    exact Option.some.inj h
-- 4 consignor/consignorlaw03.NameParses
def c4r0 : List Opn := [
  ⟨(some 2), none, .mv (.c (.s (.d (.bool false))))⟩]
def c4r1 : List Opn := [
  ⟨(some 7), none, .mv (.t 0)⟩, 
  ⟨(some 8), none, .call (.fn 9) [(.t 7)]⟩, 
  ⟨(some 0), none, .mv (.t 8)⟩]
def c4r2 : List Opn := [
  ⟨(some 10), none, .mv (.t 0)⟩, 
  ⟨(some 11), none, .call (.fn 18) [(.t 10)]⟩, 
  ⟨(some 9), none, .mv (.t 11)⟩, 
  ⟨(some 12), none, .ext (.t 9) 0⟩, 
  ⟨(some 13), none, .ext (.t 9) 1⟩, 
  ⟨(some 3), none, .new [(.d (.str [])), (.d (.str [])), (.d (.str []))]⟩, 
  ⟨none, none, .store 3 (.t 3) (.t 12)⟩, 
  ⟨(some 4), none, .mv (.t 13)⟩]
def c4r3 : List Opn := [
  ⟨(some 15), none, .mv (.t 0)⟩, 
  ⟨(some 16), none, .call (.fn 19) [(.t 15)]⟩, 
  ⟨(some 14), none, .mv (.t 16)⟩, 
  ⟨(some 17), none, .ext (.t 14) 0⟩, 
  ⟨(some 18), none, .ext (.t 14) 1⟩, 
  ⟨(some 5), none, .new [(.d (.str [])), (.d (.str [])), (.d (.str []))]⟩, 
  ⟨none, none, .store 3 (.t 5) (.t 17)⟩, 
  ⟨(some 6), none, .mv (.t 18)⟩]
def c4r4 : List Opn := [
  ⟨(some 19), none, .call (.fn 15) []⟩, 
  ⟨(some 20), none, .mv (.t 19)⟩, 
  ⟨(some 21), some (20, true), .load true 3 (.t 3)⟩, 
  ⟨(some 22), some (20, true), .load true 3 (.t 5)⟩, 
  ⟨(some 23), some (20, true), .bagg .eql [.str, .str, .str] (.t 21) (.t 22)⟩, 
  ⟨(some 24), none, .pick (.t 20) (.t 23) (.c (.s (.d (.bool false))))⟩, 
  ⟨(some 25), none, .mv (.t 24)⟩, 
  ⟨(some 26), some (25, true), .mv (.t 4)⟩, 
  ⟨(some 27), some (25, true), .bin .eql (.t 26) (.c (.s (.d (.int .i64 0))))⟩, 
  ⟨(some 28), some (25, true), .mv (.t 6)⟩, 
  ⟨(some 29), some (25, true), .bbo .eql (.t 27) (.t 28)⟩, 
  ⟨(some 30), none, .pick (.t 25) (.t 29) (.c (.s (.d (.bool false))))⟩, 
  ⟨(some 31), none, .mv (.t 30)⟩, 
  ⟨(some 32), some (31, true), .mv (.t 6)⟩, 
  ⟨(some 33), some (31, true), .mv (.t 32)⟩, 
  ⟨(some 34), some (33, false), .mv (.t 4)⟩, 
  ⟨(some 35), some (33, false), .bin .eql (.t 34) (.c (.s (.d (.int .i64 5))))⟩, 
  ⟨(some 36), some (31, true), .pick (.t 33) (.c (.s (.d (.bool true)))) (.t 35)⟩, 
  ⟨(some 37), none, .pick (.t 31) (.t 36) (.c (.s (.d (.bool false))))⟩, 
  ⟨(some 2), none, .mv (.t 37)⟩]
def c4 : C := .seq (.reg c4r0 none [0]) (.seq (.reg c4r1 none [0]) (.seq (.reg c4r2 none [0, 3, 4]) (.seq (.reg c4r3 none [3, 4, 5, 6]) (.seq (.reg c4r4 none [2]) (.ret)))))
def k4 : List (Nat × List Nat) := [(4, [2]), (3, [3, 4, 5, 6]), (2, [0, 3, 4]), (1, [0]), (0, [0])]
theorem cc4 : (Tryd.f4.body).bind (cC Tryd.prog 38 k4) = some c4 := by kernel_rfl
def rv4 : List RV := [.t 2]
theorem cr4 : cRVs Tryd.prog Tryd.f4.results.toList = some rv4 := by kernel_rfl
theorem f_law03_NameParses_ok (s : Str) (y_ : Bool) (h : f_law03_NameParses s = some y_) : Fun Tryd.prog glP 4 [.b (.s (.d (.str s)))] (.b (.s (.d (.bool y_)))) := by
  refine fun_walk [] Tryd.func4 Tryd.ntmps4 cc4 cr4 (by kernel_rfl) (by simp only [List.length_cons, List.length_nil]; decide) ?_
  generalize hR : Ret _ _ _ _ _ = R_
  simp only [wz, wd, ws, Nat.reduceAdd, Nat.reduceSub, Nat.reduceMul, Nat.reduceLeDiff, Nat.reduceEqDiff, Nat.reduceLT, Nat.reduceBEq, reduceIte, reduceCtorEq, Int.reduceToNat, Nat.reduceShiftRight, Nat.reduceAnd, Nat.reduceBneDiff, Nat.reduceBNe, e_api_Ref]
  unfold f_law03_NameParses at h; unfold c4
  refine .seq ?_
  refine Rw.walk ?_
  simp only [wz, wd, ws, Nat.reduceAdd, Nat.reduceSub, Nat.reduceMul, Nat.reduceLeDiff, Nat.reduceEqDiff, Nat.reduceLT, Nat.reduceBEq, reduceIte, reduceCtorEq, Int.reduceToNat, Nat.reduceShiftRight, Nat.reduceAnd, Nat.reduceBneDiff, Nat.reduceBNe, c4r0, semI.eq_10, semI.eq_11, semI.eq_3, semI.eq_5, semI.eq_7, e_api_Ref]
  refine .seq ?_
  refine Rw.walk ?_
  simp only [wz, wd, ws, Nat.reduceAdd, Nat.reduceSub, Nat.reduceMul, Nat.reduceLeDiff, Nat.reduceEqDiff, Nat.reduceLT, Nat.reduceBEq, reduceIte, reduceCtorEq, Int.reduceToNat, Nat.reduceShiftRight, Nat.reduceAnd, Nat.reduceBneDiff, Nat.reduceBNe, c4r1, semI.eq_10, semI.eq_11, semI.eq_3, semI.eq_5, semI.eq_7, e_api_Ref]
  obtain ⟨t, e1, h⟩ := Option.bind_eq_some_iff.1 h
  refine call_fun [] false ⟨trivial, trivial, trivial⟩ rfl ?_ (f_law03_short_ok _ _ e1) (fun _ => rfl) (fun i hi => by cases hi) ?_
  · simp only [wz, wd, ws, Nat.reduceAdd, Nat.reduceSub, Nat.reduceMul, Nat.reduceLeDiff, Nat.reduceEqDiff, Nat.reduceLT, Nat.reduceBEq, reduceIte, reduceCtorEq, Int.reduceToNat, Nat.reduceShiftRight, Nat.reduceAnd, Nat.reduceBneDiff, Nat.reduceBNe, e_api_Ref]
  simp only [wz, wd, ws, Nat.reduceAdd, Nat.reduceSub, Nat.reduceMul, Nat.reduceLeDiff, Nat.reduceEqDiff, Nat.reduceLT, Nat.reduceBEq, reduceIte, reduceCtorEq, Int.reduceToNat, Nat.reduceShiftRight, Nat.reduceAnd, Nat.reduceBneDiff, Nat.reduceBNe, c4r1, semI.eq_10, semI.eq_11, semI.eq_3, semI.eq_5, semI.eq_7, e_api_Ref]
  refine .seq ?_
  refine Rw.walk ?_
  simp only [wz, wd, ws, Nat.reduceAdd, Nat.reduceSub, Nat.reduceMul, Nat.reduceLeDiff, Nat.reduceEqDiff, Nat.reduceLT, Nat.reduceBEq, reduceIte, reduceCtorEq, Int.reduceToNat, Nat.reduceShiftRight, Nat.reduceAnd, Nat.reduceBneDiff, Nat.reduceBNe, c4r2, semI.eq_10, semI.eq_11, semI.eq_3, semI.eq_5, semI.eq_7, e_api_Ref]
  obtain ⟨t2, e2, h⟩ := Option.bind_eq_some_iff.1 h
  refine call_fun [] false ⟨trivial, trivial, trivial⟩ rfl ?_ (f_name_Parse_ok _ _ e2) (fun _ => rfl) (fun i hi => by cases hi) ?_
  · simp only [wz, wd, ws, Nat.reduceAdd, Nat.reduceSub, Nat.reduceMul, Nat.reduceLeDiff, Nat.reduceEqDiff, Nat.reduceLT, Nat.reduceBEq, reduceIte, reduceCtorEq, Int.reduceToNat, Nat.reduceShiftRight, Nat.reduceAnd, Nat.reduceBneDiff, Nat.reduceBNe, e_api_Ref]
  simp only [wz, wd, ws, Nat.reduceAdd, Nat.reduceSub, Nat.reduceMul, Nat.reduceLeDiff, Nat.reduceEqDiff, Nat.reduceLT, Nat.reduceBEq, reduceIte, reduceCtorEq, Int.reduceToNat, Nat.reduceShiftRight, Nat.reduceAnd, Nat.reduceBneDiff, Nat.reduceBNe, c4r2, semI.eq_10, semI.eq_11, semI.eq_3, semI.eq_5, semI.eq_7, e_api_Ref]
  refine .seq ?_
  refine Rw.walk ?_
  simp only [wz, wd, ws, Nat.reduceAdd, Nat.reduceSub, Nat.reduceMul, Nat.reduceLeDiff, Nat.reduceEqDiff, Nat.reduceLT, Nat.reduceBEq, reduceIte, reduceCtorEq, Int.reduceToNat, Nat.reduceShiftRight, Nat.reduceAnd, Nat.reduceBneDiff, Nat.reduceBNe, c4r3, semI.eq_10, semI.eq_11, semI.eq_3, semI.eq_5, semI.eq_7, e_api_Ref]
  obtain ⟨t3, e3, h⟩ := Option.bind_eq_some_iff.1 h
  refine call_fun [] false ⟨trivial, trivial, trivial⟩ rfl ?_ (f_ref03_Parse_ok _ _ e3) (fun _ => rfl) (fun i hi => by cases hi) ?_
  · simp only [wz, wd, ws, Nat.reduceAdd, Nat.reduceSub, Nat.reduceMul, Nat.reduceLeDiff, Nat.reduceEqDiff, Nat.reduceLT, Nat.reduceBEq, reduceIte, reduceCtorEq, Int.reduceToNat, Nat.reduceShiftRight, Nat.reduceAnd, Nat.reduceBneDiff, Nat.reduceBNe, e_api_Ref]
  simp only [wz, wd, ws, Nat.reduceAdd, Nat.reduceSub, Nat.reduceMul, Nat.reduceLeDiff, Nat.reduceEqDiff, Nat.reduceLT, Nat.reduceBEq, reduceIte, reduceCtorEq, Int.reduceToNat, Nat.reduceShiftRight, Nat.reduceAnd, Nat.reduceBneDiff, Nat.reduceBNe, c4r3, semI.eq_10, semI.eq_11, semI.eq_3, semI.eq_5, semI.eq_7, e_api_Ref]
  refine .seq ?_
  refine Rw.walk ?_
  simp only [wz, wd, ws, Nat.reduceAdd, Nat.reduceSub, Nat.reduceMul, Nat.reduceLeDiff, Nat.reduceEqDiff, Nat.reduceLT, Nat.reduceBEq, reduceIte, reduceCtorEq, Int.reduceToNat, Nat.reduceShiftRight, Nat.reduceAnd, Nat.reduceBneDiff, Nat.reduceBNe, c4r4, semI.eq_10, semI.eq_11, semI.eq_3, semI.eq_5, semI.eq_7, e_api_Ref]
  obtain ⟨t4, e4, h⟩ := Option.bind_eq_some_iff.1 h
  refine call_fun [] false ⟨trivial, trivial⟩ rfl ?_ (f_law03_alive_ok _ e4) (fun _ => rfl) (fun i hi => by cases hi) ?_
  · simp only [wz, wd, ws, Nat.reduceAdd, Nat.reduceSub, Nat.reduceMul, Nat.reduceLeDiff, Nat.reduceEqDiff, Nat.reduceLT, Nat.reduceBEq, reduceIte, reduceCtorEq, Int.reduceToNat, Nat.reduceShiftRight, Nat.reduceAnd, Nat.reduceBneDiff, Nat.reduceBNe, e_api_Ref]
  simp only [wz, wd, ws, Nat.reduceAdd, Nat.reduceSub, Nat.reduceMul, Nat.reduceLeDiff, Nat.reduceEqDiff, Nat.reduceLT, Nat.reduceBEq, reduceIte, reduceCtorEq, Int.reduceToNat, Nat.reduceShiftRight, Nat.reduceAnd, Nat.reduceBneDiff, Nat.reduceBNe, c4r4, semI.eq_10, semI.eq_11, semI.eq_3, semI.eq_5, semI.eq_7, e_api_Ref]
  refine call_alt (v := .b (.agg [(.d (.str t2.1.Repo)), (.d (.str t2.1.Tag)), (.d (.str t2.1.Digest))])) rfl rfl (by simp only [wz, wd, ws, Nat.reduceAdd, Nat.reduceSub, Nat.reduceMul, Nat.reduceLeDiff, Nat.reduceEqDiff, Nat.reduceLT, Nat.reduceBEq, reduceIte, reduceCtorEq, Int.reduceToNat, Nat.reduceShiftRight, Nat.reduceAnd, Nat.reduceBneDiff, Nat.reduceBNe]) (fun q => ⟨_, by simp only [wz, wd, ws, Nat.reduceAdd, Nat.reduceSub, Nat.reduceMul, Nat.reduceLeDiff, Nat.reduceEqDiff, Nat.reduceLT, Nat.reduceBEq, reduceIte, reduceCtorEq, Int.reduceToNat, Nat.reduceShiftRight, Nat.reduceAnd, Nat.reduceBneDiff, Nat.reduceBNe, semI.eq_10, e_api_Ref], trivial⟩) ?_
  simp only [wz, wd, ws, Nat.reduceAdd, Nat.reduceSub, Nat.reduceMul, Nat.reduceLeDiff, Nat.reduceEqDiff, Nat.reduceLT, Nat.reduceBEq, reduceIte, reduceCtorEq, Int.reduceToNat, Nat.reduceShiftRight, Nat.reduceAnd, Nat.reduceBneDiff, Nat.reduceBNe, c4r4, semI.eq_10, semI.eq_11, semI.eq_3, semI.eq_5, semI.eq_7, e_api_Ref]
  refine call_alt (v := .b (.agg [(.d (.str t3.1.Repo)), (.d (.str t3.1.Tag)), (.d (.str t3.1.Digest))])) rfl rfl (by simp only [wz, wd, ws, Nat.reduceAdd, Nat.reduceSub, Nat.reduceMul, Nat.reduceLeDiff, Nat.reduceEqDiff, Nat.reduceLT, Nat.reduceBEq, reduceIte, reduceCtorEq, Int.reduceToNat, Nat.reduceShiftRight, Nat.reduceAnd, Nat.reduceBneDiff, Nat.reduceBNe]) (fun q => ⟨_, by simp only [wz, wd, ws, Nat.reduceAdd, Nat.reduceSub, Nat.reduceMul, Nat.reduceLeDiff, Nat.reduceEqDiff, Nat.reduceLT, Nat.reduceBEq, reduceIte, reduceCtorEq, Int.reduceToNat, Nat.reduceShiftRight, Nat.reduceAnd, Nat.reduceBneDiff, Nat.reduceBNe, semI.eq_10, e_api_Ref], trivial⟩) ?_
  simp only [wz, wd, ws, Nat.reduceAdd, Nat.reduceSub, Nat.reduceMul, Nat.reduceLeDiff, Nat.reduceEqDiff, Nat.reduceLT, Nat.reduceBEq, reduceIte, reduceCtorEq, Int.reduceToNat, Nat.reduceShiftRight, Nat.reduceAnd, Nat.reduceBneDiff, Nat.reduceBNe, c4r4, semI.eq_10, semI.eq_11, semI.eq_3, semI.eq_5, semI.eq_7, e_api_Ref]
  repeat (refine And.intro ?_ ?_; · first | omega | (intro q; simp only [wz, wd, ws, Nat.reduceAdd, Nat.reduceSub, Nat.reduceMul, Nat.reduceLeDiff, Nat.reduceEqDiff, Nat.reduceLT, Nat.reduceBEq, reduceIte, reduceCtorEq, Int.reduceToNat, Nat.reduceShiftRight, Nat.reduceAnd, Nat.reduceBneDiff, Nat.reduceBNe, q]; done))
  obtain rfl := Option.some.inj h
  refine .ret ?_
  rw [← hR]
  simp only [wz, wd, ws, Nat.reduceAdd, Nat.reduceSub, Nat.reduceMul, Nat.reduceLeDiff, Nat.reduceEqDiff, Nat.reduceLT, Nat.reduceBEq, reduceIte, reduceCtorEq, Int.reduceToNat, Nat.reduceShiftRight, Nat.reduceAnd, Nat.reduceBneDiff, Nat.reduceBNe, rv4, e_api_Ref]
-- 5 consignor/consignorlaw03.NameBack
def c5r0 : List Opn := [
  ⟨(some 2), none, .box 3 (.t 0)⟩, 
  ⟨(some 4), none, .mv (.c (.s (.d (.bool false))))⟩]
def c5r1 : List Opn := [
  ⟨(some 13), none, .fadr 0 (.t 2)⟩, 
  ⟨(some 14), none, .load false 1 (.t 13)⟩, 
  ⟨(some 15), none, .call (.fn 9) [(.t 14)]⟩, 
  ⟨(some 16), none, .fadr 1 (.t 2)⟩, 
  ⟨(some 17), none, .load false 1 (.t 16)⟩, 
  ⟨(some 18), none, .call (.fn 9) [(.t 17)]⟩, 
  ⟨(some 19), none, .fadr 2 (.t 2)⟩, 
  ⟨(some 20), none, .load false 1 (.t 19)⟩, 
  ⟨(some 21), none, .call (.fn 9) [(.t 20)]⟩, 
  ⟨(some 22), none, .build [(.d (.str [])), (.d (.str [])), (.d (.str []))] [(0, 1, (.t 15)), (1, 1, (.t 18)), (2, 1, (.t 21))]⟩, 
  ⟨none, none, .store 3 (.t 2) (.t 22)⟩]
def c5r2 : List Opn := [
  ⟨(some 24), none, .load true 3 (.t 2)⟩, 
  ⟨(some 25), none, .call (.fn 10) [(.t 24)]⟩, 
  ⟨(some 23), none, .mv (.t 25)⟩, 
  ⟨(some 26), none, .ext (.t 23) 0⟩, 
  ⟨(some 27), none, .ext (.t 23) 1⟩, 
  ⟨(some 5), none, .mv (.t 26)⟩, 
  ⟨(some 6), none, .mv (.t 27)⟩]
def c5r3 : List Opn := [
  ⟨(some 28), none, .mv (.t 6)⟩, 
  ⟨(some 29), none, .bin .eql (.t 28) (.c (.s (.d (.int .i64 0))))⟩]
def c5r4 : List Opn := [
  ⟨(some 31), none, .mv (.t 5)⟩, 
  ⟨(some 32), none, .call (.fn 18) [(.t 31)]⟩, 
  ⟨(some 30), none, .mv (.t 32)⟩, 
  ⟨(some 33), none, .ext (.t 30) 0⟩, 
  ⟨(some 34), none, .ext (.t 30) 1⟩, 
  ⟨(some 7), none, .new [(.d (.str [])), (.d (.str [])), (.d (.str []))]⟩, 
  ⟨none, none, .store 3 (.t 7) (.t 33)⟩, 
  ⟨(some 8), none, .mv (.t 34)⟩]
def c5r5 : List Opn := [
  ⟨(some 35), none, .mv (.t 8)⟩, 
  ⟨(some 36), none, .bin .neq (.t 35) (.c (.s (.d (.int .i64 0))))⟩, 
  ⟨(some 37), none, .mv (.t 36)⟩, 
  ⟨(some 38), some (37, false), .load true 3 (.t 7)⟩, 
  ⟨(some 39), some (37, false), .load true 3 (.t 2)⟩, 
  ⟨(some 40), some (37, false), .bagg .neq [.str, .str, .str] (.t 38) (.t 39)⟩, 
  ⟨(some 41), none, .pick (.t 37) (.c (.s (.d (.bool true)))) (.t 40)⟩]
def c5r6 : List Opn := [
  ⟨(some 4), none, .mv (.c (.s (.d (.bool false))))⟩]
def c5r7 : List Opn := [
  ⟨(some 43), none, .mv (.t 1)⟩, 
  ⟨(some 44), none, .call (.fn 9) [(.t 43)]⟩, 
  ⟨(some 45), none, .call (.fn 18) [(.t 44)]⟩, 
  ⟨(some 42), none, .mv (.t 45)⟩, 
  ⟨(some 46), none, .ext (.t 42) 0⟩, 
  ⟨(some 47), none, .ext (.t 42) 1⟩, 
  ⟨(some 9), none, .new [(.d (.str [])), (.d (.str [])), (.d (.str []))]⟩, 
  ⟨none, none, .store 3 (.t 9) (.t 46)⟩, 
  ⟨(some 10), none, .mv (.t 47)⟩]
def c5r8 : List Opn := [
  ⟨(some 48), none, .mv (.t 10)⟩, 
  ⟨(some 49), none, .bin .neq (.t 48) (.c (.s (.d (.int .i64 0))))⟩]
def c5r9 : List Opn := [
  ⟨(some 50), none, .call (.fn 15) []⟩, 
  ⟨(some 51), none, .mv (.t 50)⟩, 
  ⟨(some 52), some (51, true), .load true 3 (.t 9)⟩, 
  ⟨(some 53), some (51, true), .build [(.d (.str [])), (.d (.str [])), (.d (.str []))] []⟩, 
  ⟨(some 54), some (51, true), .bagg .eql [.str, .str, .str] (.t 52) (.t 53)⟩, 
  ⟨(some 55), none, .pick (.t 51) (.t 54) (.c (.s (.d (.bool false))))⟩, 
  ⟨(some 4), none, .mv (.t 55)⟩]
def c5r10 : List Opn := [
  ⟨(some 57), none, .load true 3 (.t 9)⟩, 
  ⟨(some 58), none, .call (.fn 10) [(.t 57)]⟩, 
  ⟨(some 56), none, .mv (.t 58)⟩, 
  ⟨(some 59), none, .ext (.t 56) 0⟩, 
  ⟨(some 60), none, .ext (.t 56) 1⟩, 
  ⟨(some 11), none, .mv (.t 59)⟩, 
  ⟨(some 12), none, .mv (.t 60)⟩]
def c5r11 : List Opn := [
  ⟨(some 61), none, .call (.fn 15) []⟩, 
  ⟨(some 62), none, .mv (.t 61)⟩, 
  ⟨(some 63), some (62, true), .mv (.t 12)⟩, 
  ⟨(some 64), some (62, true), .bin .eql (.t 63) (.c (.s (.d (.int .i64 0))))⟩, 
  ⟨(some 65), none, .pick (.t 62) (.t 64) (.c (.s (.d (.bool false))))⟩, 
  ⟨(some 66), none, .mv (.t 65)⟩, 
  ⟨(some 67), some (66, true), .mv (.t 11)⟩, 
  ⟨(some 68), some (66, true), .mv (.t 1)⟩, 
  ⟨(some 69), some (66, true), .call (.fn 9) [(.t 68)]⟩, 
  ⟨(some 70), some (66, true), .bin .eql (.t 67) (.t 69)⟩, 
  ⟨(some 71), none, .pick (.t 66) (.t 70) (.c (.s (.d (.bool false))))⟩, 
  ⟨(some 4), none, .mv (.t 71)⟩]
def c5 : C := .seq (.reg c5r0 none [1, 2]) (.seq (.reg c5r1 (some [0, 1, 3, 0, 8, 31, 0, 64, 255, 511, 1023]) [1, 2]) (.seq (.seq (.reg c5r2 none [1, 2, 5, 6]) (.seq (.reg c5r3 none [1, 2, 5, 29]) (.cond (.t 29) (.seq (.reg c5r4 none [1, 2, 7, 8]) (.seq (.reg c5r5 none [1, 41]) (.cond (.t 41) (.seq (.reg c5r6 none [4]) (.ret)) (.skip)))) (.skip)))) (.seq (.reg c5r7 none [1, 9, 10]) (.seq (.seq (.reg c5r8 none [1, 9, 49]) (.cond (.t 49) (.seq (.reg c5r9 none [4]) (.ret)) (.skip))) (.seq (.reg c5r10 none [1, 11, 12]) (.seq (.reg c5r11 none [4]) (.ret)))))))
def k5 : List (Nat × List Nat) := [(11, [4]), (10, [1, 11, 12]), (9, [4]), (8, [1, 9, 49]), (7, [1, 9, 10]), (6, [4]), (5, [1, 41]), (4, [1, 2, 7, 8]), (3, [1, 2, 5, 29]), (2, [1, 2, 5, 6]), (1, [1, 2]), (0, [1, 2])]
theorem cc5 : (Tryd.f5.body).bind (cC Tryd.prog 72 k5) = some c5 := by kernel_rfl
def rv5 : List RV := [.t 4]
theorem cr5 : cRVs Tryd.prog Tryd.f5.results.toList = some rv5 := by kernel_rfl
theorem f_law03_NameBack_ok (rv : api_Ref) (s : Str) (y_ : Bool) (h : f_law03_NameBack rv s = some y_) : Fun Tryd.prog glP 5 [.b (.agg ((e_api_Ref rv).map Lc.d)), .b (.s (.d (.str s)))] (.b (.s (.d (.bool y_)))) := by
  refine fun_walk [] Tryd.func5 Tryd.ntmps5 cc5 cr5 (by kernel_rfl) (by simp only [List.length_cons, List.length_nil]; decide) ?_
  generalize hR : Ret _ _ _ _ _ = R_
  simp only [wz, wd, ws, Nat.reduceAdd, Nat.reduceSub, Nat.reduceMul, Nat.reduceLeDiff, Nat.reduceEqDiff, Nat.reduceLT, Nat.reduceBEq, reduceIte, reduceCtorEq, Int.reduceToNat, Nat.reduceShiftRight, Nat.reduceAnd, Nat.reduceBneDiff, Nat.reduceBNe, e_api_Ref]
  unfold f_law03_NameBack at h; unfold c5
  refine .seq ?_
  refine Rw.walk ?_
  simp only [wz, wd, ws, Nat.reduceAdd, Nat.reduceSub, Nat.reduceMul, Nat.reduceLeDiff, Nat.reduceEqDiff, Nat.reduceLT, Nat.reduceBEq, reduceIte, reduceCtorEq, Int.reduceToNat, Nat.reduceShiftRight, Nat.reduceAnd, Nat.reduceBneDiff, Nat.reduceBNe, c5r0, semI.eq_10, semI.eq_11, semI.eq_3, semI.eq_5, semI.eq_7, e_api_Ref]
  refine .seq ?_
  refine RwD.walk ?_
  simp only [wz, wd, ws, Nat.reduceAdd, Nat.reduceSub, Nat.reduceMul, Nat.reduceLeDiff, Nat.reduceEqDiff, Nat.reduceLT, Nat.reduceBEq, reduceIte, reduceCtorEq, Int.reduceToNat, Nat.reduceShiftRight, Nat.reduceAnd, Nat.reduceBneDiff, Nat.reduceBNe, c5r1, semI.eq_10, semI.eq_11, semI.eq_3, semI.eq_5, semI.eq_7, e_api_Ref]
  obtain ⟨t, e1, h⟩ := Option.bind_eq_some_iff.1 h
  refine call_fun [] false ⟨trivial, trivial, trivial⟩ rfl ?_ (f_law03_short_ok _ _ e1) (fun _ => rfl) (fun i hi => by cases hi) ?_
  · simp only [wz, wd, ws, Nat.reduceAdd, Nat.reduceSub, Nat.reduceMul, Nat.reduceLeDiff, Nat.reduceEqDiff, Nat.reduceLT, Nat.reduceBEq, reduceIte, reduceCtorEq, Int.reduceToNat, Nat.reduceShiftRight, Nat.reduceAnd, Nat.reduceBneDiff, Nat.reduceBNe, e_api_Ref]
  simp only [wz, wd, ws, Nat.reduceAdd, Nat.reduceSub, Nat.reduceMul, Nat.reduceLeDiff, Nat.reduceEqDiff, Nat.reduceLT, Nat.reduceBEq, reduceIte, reduceCtorEq, Int.reduceToNat, Nat.reduceShiftRight, Nat.reduceAnd, Nat.reduceBneDiff, Nat.reduceBNe, c5r1, semI.eq_10, semI.eq_11, semI.eq_3, semI.eq_5, semI.eq_7, e_api_Ref]
  obtain ⟨t2, e2, h⟩ := Option.bind_eq_some_iff.1 h
  refine call_fun [] false ⟨trivial, trivial, trivial⟩ rfl ?_ (f_law03_short_ok _ _ e2) (fun _ => rfl) (fun i hi => by cases hi) ?_
  · simp only [wz, wd, ws, Nat.reduceAdd, Nat.reduceSub, Nat.reduceMul, Nat.reduceLeDiff, Nat.reduceEqDiff, Nat.reduceLT, Nat.reduceBEq, reduceIte, reduceCtorEq, Int.reduceToNat, Nat.reduceShiftRight, Nat.reduceAnd, Nat.reduceBneDiff, Nat.reduceBNe, e_api_Ref]
  simp only [wz, wd, ws, Nat.reduceAdd, Nat.reduceSub, Nat.reduceMul, Nat.reduceLeDiff, Nat.reduceEqDiff, Nat.reduceLT, Nat.reduceBEq, reduceIte, reduceCtorEq, Int.reduceToNat, Nat.reduceShiftRight, Nat.reduceAnd, Nat.reduceBneDiff, Nat.reduceBNe, c5r1, semI.eq_10, semI.eq_11, semI.eq_3, semI.eq_5, semI.eq_7, e_api_Ref]
  obtain ⟨t3, e3, h⟩ := Option.bind_eq_some_iff.1 h
  refine call_fun [] false ⟨trivial, trivial, trivial⟩ rfl ?_ (f_law03_short_ok _ _ e3) (fun _ => rfl) (fun i hi => by cases hi) ?_
  · simp only [wz, wd, ws, Nat.reduceAdd, Nat.reduceSub, Nat.reduceMul, Nat.reduceLeDiff, Nat.reduceEqDiff, Nat.reduceLT, Nat.reduceBEq, reduceIte, reduceCtorEq, Int.reduceToNat, Nat.reduceShiftRight, Nat.reduceAnd, Nat.reduceBneDiff, Nat.reduceBNe, e_api_Ref]
  simp only [wz, wd, ws, Nat.reduceAdd, Nat.reduceSub, Nat.reduceMul, Nat.reduceLeDiff, Nat.reduceEqDiff, Nat.reduceLT, Nat.reduceBEq, reduceIte, reduceCtorEq, Int.reduceToNat, Nat.reduceShiftRight, Nat.reduceAnd, Nat.reduceBneDiff, Nat.reduceBNe, c5r1, semI.eq_10, semI.eq_11, semI.eq_3, semI.eq_5, semI.eq_7, e_api_Ref]
  refine .seq ?_
  obtain ⟨s2, hf, h⟩ := Option.bind_eq_some_iff.1 h
  refine W.cutQ (fun s3 : Unit => s2 = Sum.inl s3) (fun s3 => ⟨lkT [(1, .b (.s (.d (.str s))))], lkG []⟩) (fun s3 hs => ?_) (fun tail => ?_)
  · subst hs; dsimp only at h
    refine .seq ?_
    refine Rw.walk ?_
    simp only [wz, wd, ws, Nat.reduceAdd, Nat.reduceSub, Nat.reduceMul, Nat.reduceLeDiff, Nat.reduceEqDiff, Nat.reduceLT, Nat.reduceBEq, reduceIte, reduceCtorEq, Int.reduceToNat, Nat.reduceShiftRight, Nat.reduceAnd, Nat.reduceBneDiff, Nat.reduceBNe, c5r7, semI.eq_10, semI.eq_11, semI.eq_3, semI.eq_5, semI.eq_7, e_api_Ref]
    obtain ⟨t4, e4, h⟩ := Option.bind_eq_some_iff.1 h
    refine call_fun [] false ⟨trivial, trivial, trivial⟩ rfl ?_ (f_law03_short_ok _ _ e4) (fun _ => rfl) (fun i hi => by cases hi) ?_
    · simp only [wz, wd, ws, Nat.reduceAdd, Nat.reduceSub, Nat.reduceMul, Nat.reduceLeDiff, Nat.reduceEqDiff, Nat.reduceLT, Nat.reduceBEq, reduceIte, reduceCtorEq, Int.reduceToNat, Nat.reduceShiftRight, Nat.reduceAnd, Nat.reduceBneDiff, Nat.reduceBNe, e_api_Ref]
    simp only [wz, wd, ws, Nat.reduceAdd, Nat.reduceSub, Nat.reduceMul, Nat.reduceLeDiff, Nat.reduceEqDiff, Nat.reduceLT, Nat.reduceBEq, reduceIte, reduceCtorEq, Int.reduceToNat, Nat.reduceShiftRight, Nat.reduceAnd, Nat.reduceBneDiff, Nat.reduceBNe, c5r7, semI.eq_10, semI.eq_11, semI.eq_3, semI.eq_5, semI.eq_7, e_api_Ref]
    obtain ⟨t5, e5, h⟩ := Option.bind_eq_some_iff.1 h
    refine call_fun [] false ⟨trivial, trivial, trivial⟩ rfl ?_ (f_name_Parse_ok _ _ e5) (fun _ => rfl) (fun i hi => by cases hi) ?_
    · simp only [wz, wd, ws, Nat.reduceAdd, Nat.reduceSub, Nat.reduceMul, Nat.reduceLeDiff, Nat.reduceEqDiff, Nat.reduceLT, Nat.reduceBEq, reduceIte, reduceCtorEq, Int.reduceToNat, Nat.reduceShiftRight, Nat.reduceAnd, Nat.reduceBneDiff, Nat.reduceBNe, e_api_Ref]
    simp only [wz, wd, ws, Nat.reduceAdd, Nat.reduceSub, Nat.reduceMul, Nat.reduceLeDiff, Nat.reduceEqDiff, Nat.reduceLT, Nat.reduceBEq, reduceIte, reduceCtorEq, Int.reduceToNat, Nat.reduceShiftRight, Nat.reduceAnd, Nat.reduceBneDiff, Nat.reduceBNe, c5r7, semI.eq_10, semI.eq_11, semI.eq_3, semI.eq_5, semI.eq_7, e_api_Ref]
    refine .seq ?_
    refine .seq ?_
    refine Rw.walk ?_
    simp only [wz, wd, ws, Nat.reduceAdd, Nat.reduceSub, Nat.reduceMul, Nat.reduceLeDiff, Nat.reduceEqDiff, Nat.reduceLT, Nat.reduceBEq, reduceIte, reduceCtorEq, Int.reduceToNat, Nat.reduceShiftRight, Nat.reduceAnd, Nat.reduceBneDiff, Nat.reduceBNe, c5r8, semI.eq_10, semI.eq_11, semI.eq_3, semI.eq_5, semI.eq_7, e_api_Ref]
    refine .cond (p := (t5.2 != 0)) (by first | rfl | simp only [wz, wd, ws, Nat.reduceAdd, Nat.reduceSub, Nat.reduceMul, Nat.reduceLeDiff, Nat.reduceEqDiff, Nat.reduceLT, Nat.reduceBEq, reduceIte, reduceCtorEq, Int.reduceToNat, Nat.reduceShiftRight, Nat.reduceAnd, Nat.reduceBneDiff, Nat.reduceBNe]) (fun h1 => ?_) (fun h1 => ?_)
    · rw [ite_t h1] at h
      refine .seq ?_
      refine Rw.walk ?_
      simp only [wz, wd, ws, Nat.reduceAdd, Nat.reduceSub, Nat.reduceMul, Nat.reduceLeDiff, Nat.reduceEqDiff, Nat.reduceLT, Nat.reduceBEq, reduceIte, reduceCtorEq, Int.reduceToNat, Nat.reduceShiftRight, Nat.reduceAnd, Nat.reduceBneDiff, Nat.reduceBNe, c5r9, semI.eq_10, semI.eq_11, semI.eq_3, semI.eq_5, semI.eq_7, e_api_Ref]
      obtain ⟨t6, e6, h⟩ := Option.bind_eq_some_iff.1 h
      refine call_fun [] false ⟨trivial, trivial⟩ rfl ?_ (f_law03_alive_ok _ e6) (fun _ => rfl) (fun i hi => by cases hi) ?_
      · simp only [wz, wd, ws, Nat.reduceAdd, Nat.reduceSub, Nat.reduceMul, Nat.reduceLeDiff, Nat.reduceEqDiff, Nat.reduceLT, Nat.reduceBEq, reduceIte, reduceCtorEq, Int.reduceToNat, Nat.reduceShiftRight, Nat.reduceAnd, Nat.reduceBneDiff, Nat.reduceBNe, e_api_Ref]
      simp only [wz, wd, ws, Nat.reduceAdd, Nat.reduceSub, Nat.reduceMul, Nat.reduceLeDiff, Nat.reduceEqDiff, Nat.reduceLT, Nat.reduceBEq, reduceIte, reduceCtorEq, Int.reduceToNat, Nat.reduceShiftRight, Nat.reduceAnd, Nat.reduceBneDiff, Nat.reduceBNe, c5r9, semI.eq_10, semI.eq_11, semI.eq_3, semI.eq_5, semI.eq_7, e_api_Ref]
      refine call_alt (v := .b (.agg [(.d (.str t5.1.Repo)), (.d (.str t5.1.Tag)), (.d (.str t5.1.Digest))])) rfl rfl (by simp only [wz, wd, ws, Nat.reduceAdd, Nat.reduceSub, Nat.reduceMul, Nat.reduceLeDiff, Nat.reduceEqDiff, Nat.reduceLT, Nat.reduceBEq, reduceIte, reduceCtorEq, Int.reduceToNat, Nat.reduceShiftRight, Nat.reduceAnd, Nat.reduceBneDiff, Nat.reduceBNe]) (fun q => ⟨_, by simp only [wz, wd, ws, Nat.reduceAdd, Nat.reduceSub, Nat.reduceMul, Nat.reduceLeDiff, Nat.reduceEqDiff, Nat.reduceLT, Nat.reduceBEq, reduceIte, reduceCtorEq, Int.reduceToNat, Nat.reduceShiftRight, Nat.reduceAnd, Nat.reduceBneDiff, Nat.reduceBNe, semI.eq_10, e_api_Ref], trivial⟩) ?_
      simp only [wz, wd, ws, Nat.reduceAdd, Nat.reduceSub, Nat.reduceMul, Nat.reduceLeDiff, Nat.reduceEqDiff, Nat.reduceLT, Nat.reduceBEq, reduceIte, reduceCtorEq, Int.reduceToNat, Nat.reduceShiftRight, Nat.reduceAnd, Nat.reduceBneDiff, Nat.reduceBNe, c5r9, semI.eq_10, semI.eq_11, semI.eq_3, semI.eq_5, semI.eq_7, e_api_Ref]
      repeat (refine And.intro ?_ ?_; · first | omega | (intro q; simp only [wz, wd, ws, Nat.reduceAdd, Nat.reduceSub, Nat.reduceMul, Nat.reduceLeDiff, Nat.reduceEqDiff, Nat.reduceLT, Nat.reduceBEq, reduceIte, reduceCtorEq, Int.reduceToNat, Nat.reduceShiftRight, Nat.reduceAnd, Nat.reduceBneDiff, Nat.reduceBNe, q]; done))
      obtain rfl := Option.some.inj h
      refine .ret ?_
      rw [← hR]
      simp only [wz, wd, ws, Nat.reduceAdd, Nat.reduceSub, Nat.reduceMul, Nat.reduceLeDiff, Nat.reduceEqDiff, Nat.reduceLT, Nat.reduceBEq, reduceIte, reduceCtorEq, Int.reduceToNat, Nat.reduceShiftRight, Nat.reduceAnd, Nat.reduceBneDiff, Nat.reduceBNe, rv5, e_api_Ref]
    · rw [ite_f h1] at h
      refine .skip ?_
      refine .seq ?_
      refine Rw.walk ?_
      simp only [wz, wd, ws, Nat.reduceAdd, Nat.reduceSub, Nat.reduceMul, Nat.reduceLeDiff, Nat.reduceEqDiff, Nat.reduceLT, Nat.reduceBEq, reduceIte, reduceCtorEq, Int.reduceToNat, Nat.reduceShiftRight, Nat.reduceAnd, Nat.reduceBneDiff, Nat.reduceBNe, c5r10, semI.eq_10, semI.eq_11, semI.eq_3, semI.eq_5, semI.eq_7, e_api_Ref]
      obtain ⟨t6, e7, h⟩ := Option.bind_eq_some_iff.1 h
      refine call_fun [] false ⟨trivial, trivial, trivial⟩ rfl ?_ (f_name_Print_ok _ _ e7) (fun _ => rfl) (fun i hi => by cases hi) ?_
      · simp only [wz, wd, ws, Nat.reduceAdd, Nat.reduceSub, Nat.reduceMul, Nat.reduceLeDiff, Nat.reduceEqDiff, Nat.reduceLT, Nat.reduceBEq, reduceIte, reduceCtorEq, Int.reduceToNat, Nat.reduceShiftRight, Nat.reduceAnd, Nat.reduceBneDiff, Nat.reduceBNe, e_api_Ref]
      simp only [wz, wd, ws, Nat.reduceAdd, Nat.reduceSub, Nat.reduceMul, Nat.reduceLeDiff, Nat.reduceEqDiff, Nat.reduceLT, Nat.reduceBEq, reduceIte, reduceCtorEq, Int.reduceToNat, Nat.reduceShiftRight, Nat.reduceAnd, Nat.reduceBneDiff, Nat.reduceBNe, c5r10, semI.eq_10, semI.eq_11, semI.eq_3, semI.eq_5, semI.eq_7, e_api_Ref]
      refine .seq ?_
      refine Rw.walk ?_
      simp only [wz, wd, ws, Nat.reduceAdd, Nat.reduceSub, Nat.reduceMul, Nat.reduceLeDiff, Nat.reduceEqDiff, Nat.reduceLT, Nat.reduceBEq, reduceIte, reduceCtorEq, Int.reduceToNat, Nat.reduceShiftRight, Nat.reduceAnd, Nat.reduceBneDiff, Nat.reduceBNe, c5r11, semI.eq_10, semI.eq_11, semI.eq_3, semI.eq_5, semI.eq_7, e_api_Ref]
      obtain ⟨t7, e8, h⟩ := Option.bind_eq_some_iff.1 h
      refine call_fun [] false ⟨trivial, trivial⟩ rfl ?_ (f_law03_alive_ok _ e8) (fun _ => rfl) (fun i hi => by cases hi) ?_
      · simp only [wz, wd, ws, Nat.reduceAdd, Nat.reduceSub, Nat.reduceMul, Nat.reduceLeDiff, Nat.reduceEqDiff, Nat.reduceLT, Nat.reduceBEq, reduceIte, reduceCtorEq, Int.reduceToNat, Nat.reduceShiftRight, Nat.reduceAnd, Nat.reduceBneDiff, Nat.reduceBNe, e_api_Ref]
      simp only [wz, wd, ws, Nat.reduceAdd, Nat.reduceSub, Nat.reduceMul, Nat.reduceLeDiff, Nat.reduceEqDiff, Nat.reduceLT, Nat.reduceBEq, reduceIte, reduceCtorEq, Int.reduceToNat, Nat.reduceShiftRight, Nat.reduceAnd, Nat.reduceBneDiff, Nat.reduceBNe, c5r11, semI.eq_10, semI.eq_11, semI.eq_3, semI.eq_5, semI.eq_7, e_api_Ref]
      repeat (refine And.intro ?_ ?_; · first | omega | (intro q; simp only [wz, wd, ws, Nat.reduceAdd, Nat.reduceSub, Nat.reduceMul, Nat.reduceLeDiff, Nat.reduceEqDiff, Nat.reduceLT, Nat.reduceBEq, reduceIte, reduceCtorEq, Int.reduceToNat, Nat.reduceShiftRight, Nat.reduceAnd, Nat.reduceBneDiff, Nat.reduceBNe, q]; done))
      obtain ⟨t8, e9, h⟩ := Option.bind_eq_some_iff.1 h
      refine call_funG [] rfl (by simp only [wz, wd, ws, Nat.reduceAdd, Nat.reduceSub, Nat.reduceMul, Nat.reduceLeDiff, Nat.reduceEqDiff, Nat.reduceLT, Nat.reduceBEq, reduceIte, reduceCtorEq, Int.reduceToNat, Nat.reduceShiftRight, Nat.reduceAnd, Nat.reduceBneDiff, Nat.reduceBNe]) rfl ?_ (fun q => (f_law03_short_ok _ _ (gx_iff e9 (by simpa using q)))) rfl (fun i hi => by cases hi) ?_
      · simp only [wz, wd, ws, Nat.reduceAdd, Nat.reduceSub, Nat.reduceMul, Nat.reduceLeDiff, Nat.reduceEqDiff, Nat.reduceLT, Nat.reduceBEq, reduceIte, reduceCtorEq, Int.reduceToNat, Nat.reduceShiftRight, Nat.reduceAnd, Nat.reduceBneDiff, Nat.reduceBNe, e_api_Ref]
      simp only [wz, wd, ws, Nat.reduceAdd, Nat.reduceSub, Nat.reduceMul, Nat.reduceLeDiff, Nat.reduceEqDiff, Nat.reduceLT, Nat.reduceBEq, reduceIte, reduceCtorEq, Int.reduceToNat, Nat.reduceShiftRight, Nat.reduceAnd, Nat.reduceBneDiff, Nat.reduceBNe, c5r11, semI.eq_10, semI.eq_11, semI.eq_3, semI.eq_5, semI.eq_7, e_api_Ref]
      repeat (refine And.intro ?_ ?_; · first | omega | (intro q; simp only [wz, wd, ws, Nat.reduceAdd, Nat.reduceSub, Nat.reduceMul, Nat.reduceLeDiff, Nat.reduceEqDiff, Nat.reduceLT, Nat.reduceBEq, reduceIte, reduceCtorEq, Int.reduceToNat, Nat.reduceShiftRight, Nat.reduceAnd, Nat.reduceBneDiff, Nat.reduceBNe, q]; done))
      obtain rfl := Option.some.inj h
      refine .ret ?_
      rw [← hR]
      simp only [wz, wd, ws, Nat.reduceAdd, Nat.reduceSub, Nat.reduceMul, Nat.reduceLeDiff, Nat.reduceEqDiff, Nat.reduceLT, Nat.reduceBEq, reduceIte, reduceCtorEq, Int.reduceToNat, Nat.reduceShiftRight, Nat.reduceAnd, Nat.reduceBneDiff, Nat.reduceBNe, rv5, e_api_Ref]
  have h0_1 := h; replace h := hf
  refine .seq ?_
  refine Rw.walk ?_
  simp only [wz, wd, ws, Nat.reduceAdd, Nat.reduceSub, Nat.reduceMul, Nat.reduceLeDiff, Nat.reduceEqDiff, Nat.reduceLT, Nat.reduceBEq, reduceIte, reduceCtorEq, Int.reduceToNat, Nat.reduceShiftRight, Nat.reduceAnd, Nat.reduceBneDiff, Nat.reduceBNe, c5r2, semI.eq_10, semI.eq_11, semI.eq_3, semI.eq_5, semI.eq_7, e_api_Ref]
  obtain ⟨t4, e10, h⟩ := Option.bind_eq_some_iff.1 h
  refine call_fun [] false ⟨trivial, trivial, trivial⟩ rfl ?_ (f_name_Print_ok _ _ e10) (fun _ => rfl) (fun i hi => by cases hi) ?_
  · simp only [wz, wd, ws, Nat.reduceAdd, Nat.reduceSub, Nat.reduceMul, Nat.reduceLeDiff, Nat.reduceEqDiff, Nat.reduceLT, Nat.reduceBEq, reduceIte, reduceCtorEq, Int.reduceToNat, Nat.reduceShiftRight, Nat.reduceAnd, Nat.reduceBneDiff, Nat.reduceBNe, e_api_Ref]
  simp only [wz, wd, ws, Nat.reduceAdd, Nat.reduceSub, Nat.reduceMul, Nat.reduceLeDiff, Nat.reduceEqDiff, Nat.reduceLT, Nat.reduceBEq, reduceIte, reduceCtorEq, Int.reduceToNat, Nat.reduceShiftRight, Nat.reduceAnd, Nat.reduceBneDiff, Nat.reduceBNe, c5r2, semI.eq_10, semI.eq_11, semI.eq_3, semI.eq_5, semI.eq_7, e_api_Ref]
  refine .seq ?_
  refine Rw.walk ?_
  simp only [wz, wd, ws, Nat.reduceAdd, Nat.reduceSub, Nat.reduceMul, Nat.reduceLeDiff, Nat.reduceEqDiff, Nat.reduceLT, Nat.reduceBEq, reduceIte, reduceCtorEq, Int.reduceToNat, Nat.reduceShiftRight, Nat.reduceAnd, Nat.reduceBneDiff, Nat.reduceBNe, c5r3, semI.eq_10, semI.eq_11, semI.eq_3, semI.eq_5, semI.eq_7, e_api_Ref]
  refine .cond (p := (t4.2 == 0)) (by first | rfl | simp only [wz, wd, ws, Nat.reduceAdd, Nat.reduceSub, Nat.reduceMul, Nat.reduceLeDiff, Nat.reduceEqDiff, Nat.reduceLT, Nat.reduceBEq, reduceIte, reduceCtorEq, Int.reduceToNat, Nat.reduceShiftRight, Nat.reduceAnd, Nat.reduceBneDiff, Nat.reduceBNe]) (fun h1 => ?_) (fun h1 => ?_)
  · rw [ite_t h1] at h
    refine .seq ?_
    refine Rw.walk ?_
    simp only [wz, wd, ws, Nat.reduceAdd, Nat.reduceSub, Nat.reduceMul, Nat.reduceLeDiff, Nat.reduceEqDiff, Nat.reduceLT, Nat.reduceBEq, reduceIte, reduceCtorEq, Int.reduceToNat, Nat.reduceShiftRight, Nat.reduceAnd, Nat.reduceBneDiff, Nat.reduceBNe, c5r4, semI.eq_10, semI.eq_11, semI.eq_3, semI.eq_5, semI.eq_7, e_api_Ref]
    obtain ⟨t5, e11, h⟩ := Option.bind_eq_some_iff.1 h
    refine call_fun [] false ⟨trivial, trivial, trivial⟩ rfl ?_ (f_name_Parse_ok _ _ e11) (fun _ => rfl) (fun i hi => by cases hi) ?_
    · simp only [wz, wd, ws, Nat.reduceAdd, Nat.reduceSub, Nat.reduceMul, Nat.reduceLeDiff, Nat.reduceEqDiff, Nat.reduceLT, Nat.reduceBEq, reduceIte, reduceCtorEq, Int.reduceToNat, Nat.reduceShiftRight, Nat.reduceAnd, Nat.reduceBneDiff, Nat.reduceBNe, e_api_Ref]
    simp only [wz, wd, ws, Nat.reduceAdd, Nat.reduceSub, Nat.reduceMul, Nat.reduceLeDiff, Nat.reduceEqDiff, Nat.reduceLT, Nat.reduceBEq, reduceIte, reduceCtorEq, Int.reduceToNat, Nat.reduceShiftRight, Nat.reduceAnd, Nat.reduceBneDiff, Nat.reduceBNe, c5r4, semI.eq_10, semI.eq_11, semI.eq_3, semI.eq_5, semI.eq_7, e_api_Ref]
    refine .seq ?_
    refine Rw.walk ?_
    simp only [wz, wd, ws, Nat.reduceAdd, Nat.reduceSub, Nat.reduceMul, Nat.reduceLeDiff, Nat.reduceEqDiff, Nat.reduceLT, Nat.reduceBEq, reduceIte, reduceCtorEq, Int.reduceToNat, Nat.reduceShiftRight, Nat.reduceAnd, Nat.reduceBneDiff, Nat.reduceBNe, c5r5, semI.eq_10, semI.eq_11, semI.eq_3, semI.eq_5, semI.eq_7, e_api_Ref]
    refine call_alt (v := .b (.agg [(.d (.str t5.1.Repo)), (.d (.str t5.1.Tag)), (.d (.str t5.1.Digest))])) rfl rfl (by simp only [wz, wd, ws, Nat.reduceAdd, Nat.reduceSub, Nat.reduceMul, Nat.reduceLeDiff, Nat.reduceEqDiff, Nat.reduceLT, Nat.reduceBEq, reduceIte, reduceCtorEq, Int.reduceToNat, Nat.reduceShiftRight, Nat.reduceAnd, Nat.reduceBneDiff, Nat.reduceBNe]) (fun q => ⟨_, by simp only [wz, wd, ws, Nat.reduceAdd, Nat.reduceSub, Nat.reduceMul, Nat.reduceLeDiff, Nat.reduceEqDiff, Nat.reduceLT, Nat.reduceBEq, reduceIte, reduceCtorEq, Int.reduceToNat, Nat.reduceShiftRight, Nat.reduceAnd, Nat.reduceBneDiff, Nat.reduceBNe, semI.eq_10, e_api_Ref], trivial⟩) ?_
    simp only [wz, wd, ws, Nat.reduceAdd, Nat.reduceSub, Nat.reduceMul, Nat.reduceLeDiff, Nat.reduceEqDiff, Nat.reduceLT, Nat.reduceBEq, reduceIte, reduceCtorEq, Int.reduceToNat, Nat.reduceShiftRight, Nat.reduceAnd, Nat.reduceBneDiff, Nat.reduceBNe, c5r5, semI.eq_10, semI.eq_11, semI.eq_3, semI.eq_5, semI.eq_7, e_api_Ref]
    refine call_alt (v := .b (.agg [(.d (.str t)), (.d (.str t2)), (.d (.str t3))])) rfl rfl (by simp only [wz, wd, ws, Nat.reduceAdd, Nat.reduceSub, Nat.reduceMul, Nat.reduceLeDiff, Nat.reduceEqDiff, Nat.reduceLT, Nat.reduceBEq, reduceIte, reduceCtorEq, Int.reduceToNat, Nat.reduceShiftRight, Nat.reduceAnd, Nat.reduceBneDiff, Nat.reduceBNe]) (fun q => ⟨_, by simp only [wz, wd, ws, Nat.reduceAdd, Nat.reduceSub, Nat.reduceMul, Nat.reduceLeDiff, Nat.reduceEqDiff, Nat.reduceLT, Nat.reduceBEq, reduceIte, reduceCtorEq, Int.reduceToNat, Nat.reduceShiftRight, Nat.reduceAnd, Nat.reduceBneDiff, Nat.reduceBNe, semI.eq_10, e_api_Ref], trivial⟩) ?_
    simp only [wz, wd, ws, Nat.reduceAdd, Nat.reduceSub, Nat.reduceMul, Nat.reduceLeDiff, Nat.reduceEqDiff, Nat.reduceLT, Nat.reduceBEq, reduceIte, reduceCtorEq, Int.reduceToNat, Nat.reduceShiftRight, Nat.reduceAnd, Nat.reduceBneDiff, Nat.reduceBNe, c5r5, semI.eq_10, semI.eq_11, semI.eq_3, semI.eq_5, semI.eq_7, e_api_Ref]
    repeat (refine And.intro ?_ ?_; · first | omega | (intro q; simp only [wz, wd, ws, Nat.reduceAdd, Nat.reduceSub, Nat.reduceMul, Nat.reduceLeDiff, Nat.reduceEqDiff, Nat.reduceLT, Nat.reduceBEq, reduceIte, reduceCtorEq, Int.reduceToNat, Nat.reduceShiftRight, Nat.reduceAnd, Nat.reduceBneDiff, Nat.reduceBNe, q]; done))
    refine .cond (p := ((t5.2 != 0) || (!((t5.1.Repo == t) && ((t5.1.Tag == t2) && (t5.1.Digest == t3)))))) (by first | rfl | simp only [wz, wd, ws, Nat.reduceAdd, Nat.reduceSub, Nat.reduceMul, Nat.reduceLeDiff, Nat.reduceEqDiff, Nat.reduceLT, Nat.reduceBEq, reduceIte, reduceCtorEq, Int.reduceToNat, Nat.reduceShiftRight, Nat.reduceAnd, Nat.reduceBneDiff, Nat.reduceBNe]) (fun h1 => ?_) (fun h1 => ?_)
    · rw [ite_t h1] at h
      refine .seq ?_
      refine Rw.walk ?_
      simp only [wz, wd, ws, Nat.reduceAdd, Nat.reduceSub, Nat.reduceMul, Nat.reduceLeDiff, Nat.reduceEqDiff, Nat.reduceLT, Nat.reduceBEq, reduceIte, reduceCtorEq, Int.reduceToNat, Nat.reduceShiftRight, Nat.reduceAnd, Nat.reduceBneDiff, Nat.reduceBNe, c5r6, semI.eq_10, semI.eq_11, semI.eq_3, semI.eq_5, semI.eq_7, e_api_Ref]
      obtain rfl := Option.some.inj h; replace h := h0_1; dsimp only at h
      obtain rfl := Option.some.inj h
      refine .ret ?_
      rw [← hR]
      simp only [wz, wd, ws, Nat.reduceAdd, Nat.reduceSub, Nat.reduceMul, Nat.reduceLeDiff, Nat.reduceEqDiff, Nat.reduceLT, Nat.reduceBEq, reduceIte, reduceCtorEq, Int.reduceToNat, Nat.reduceShiftRight, Nat.reduceAnd, Nat.reduceBneDiff, Nat.reduceBNe, rv5, e_api_Ref]
    · rw [ite_f h1] at h
      refine .skip ?_
      obtain rfl := Option.some.inj h
      refine .weak (Imp.co [] _ _ ?_ ?_ ?_ ?_ ?_) (tail _ rfl) <;> simp only [wz, wd, ws, Nat.reduceAdd, Nat.reduceSub, Nat.reduceMul, Nat.reduceLeDiff, Nat.reduceEqDiff, Nat.reduceLT, Nat.reduceBEq, reduceIte, reduceCtorEq, Int.reduceToNat, Nat.reduceShiftRight, Nat.reduceAnd, Nat.reduceBneDiff, Nat.reduceBNe, wi, er_nil, e_api_Ref]
  · rw [ite_f h1] at h
    refine .skip ?_
    obtain rfl := Option.some.inj h
    refine .weak (Imp.co [] _ _ ?_ ?_ ?_ ?_ ?_) (tail _ rfl) <;> simp only [wz, wd, ws, Nat.reduceAdd, Nat.reduceSub, Nat.reduceMul, Nat.reduceLeDiff, Nat.reduceEqDiff, Nat.reduceLT, Nat.reduceBEq, reduceIte, reduceCtorEq, Int.reduceToNat, Nat.reduceShiftRight, Nat.reduceAnd, Nat.reduceBneDiff, Nat.reduceBNe, wi, er_nil, e_api_Ref]
-- 6 consignor/consignorlaw03.NameParts
def c6r0 : List Opn := [
  ⟨(some 4), none, .mv (.c (.s (.d (.bool false))))⟩]
def c6r1 : List Opn := [
  ⟨(some 6), none, .mv (.t 0)⟩, 
  ⟨(some 7), none, .call (.fn 9) [(.t 6)]⟩, 
  ⟨(some 8), none, .mv (.t 1)⟩, 
  ⟨(some 9), none, .call (.fn 9) [(.t 8)]⟩, 
  ⟨(some 0), none, .mv (.t 7)⟩, 
  ⟨(some 1), none, .mv (.t 9)⟩]
def c6r2 : List Opn := [
  ⟨(some 10), none, .mv (.t 0)⟩, 
  ⟨(some 11), none, .call (.fn 11) [(.t 10)]⟩, 
  ⟨(some 12), none, .mv (.t 11)⟩, 
  ⟨(some 13), some (12, true), .mv (.t 1)⟩, 
  ⟨(some 14), some (12, true), .call (.fn 11) [(.t 13)]⟩, 
  ⟨(some 15), none, .pick (.t 12) (.t 14) (.c (.s (.d (.bool false))))⟩, 
  ⟨(some 16), none, .mv (.t 15)⟩, 
  ⟨(some 17), some (16, true), .mv (.t 0)⟩, 
  ⟨(some 18), some (16, true), .len .str (.t 17)⟩, 
  ⟨(some 19), some (16, true), .mv (.t 1)⟩, 
  ⟨(some 20), some (16, true), .len .str (.t 19)⟩, 
  ⟨(some 21), some (16, true), .bin .add (.t 18) (.t 20)⟩, 
  ⟨(some 22), some (16, true), .bin .add (.t 21) (.c (.s (.d (.int .i64 1))))⟩, 
  ⟨(some 23), some (16, true), .bin .leq (.t 22) (.c (.s (.d (.int .i64 128))))⟩, 
  ⟨(some 24), none, .pick (.t 16) (.t 23) (.c (.s (.d (.bool false))))⟩, 
  ⟨(some 5), none, .mv (.t 24)⟩]
def c6r3 : List Opn := [
  ⟨(some 25), none, .call (.fn 15) []⟩, 
  ⟨(some 26), none, .mv (.t 25)⟩, 
  ⟨(some 27), some (26, true), .mv (.t 0)⟩, 
  ⟨(some 28), some (26, true), .bin .add (.t 27) (.c (.s (.d (.str [47]))))⟩, 
  ⟨(some 29), some (26, true), .mv (.t 1)⟩, 
  ⟨(some 30), some (26, true), .bin .add (.t 28) (.t 29)⟩, 
  ⟨(some 31), some (26, true), .call (.fn 11) [(.t 30)]⟩, 
  ⟨(some 32), some (26, true), .mv (.t 5)⟩, 
  ⟨(some 33), some (26, true), .bbo .eql (.t 31) (.t 32)⟩, 
  ⟨(some 34), none, .pick (.t 26) (.t 33) (.c (.s (.d (.bool false))))⟩, 
  ⟨(some 35), none, .mv (.t 34)⟩, 
  ⟨(some 36), some (35, true), .mv (.t 0)⟩, 
  ⟨(some 37), some (35, true), .bin .add (.t 36) (.c (.s (.d (.str [47, 47]))))⟩, 
  ⟨(some 38), some (35, true), .mv (.t 1)⟩, 
  ⟨(some 39), some (35, true), .bin .add (.t 37) (.t 38)⟩, 
  ⟨(some 40), some (35, true), .call (.fn 11) [(.t 39)]⟩, 
  ⟨(some 41), some (35, true), .un .not (.t 40)⟩, 
  ⟨(some 42), none, .pick (.t 35) (.t 41) (.c (.s (.d (.bool false))))⟩, 
  ⟨(some 43), none, .mv (.t 42)⟩, 
  ⟨(some 44), some (43, true), .mv (.t 0)⟩, 
  ⟨(some 45), some (43, true), .bin .add (.c (.s (.d (.str [47])))) (.t 44)⟩, 
  ⟨(some 46), some (43, true), .call (.fn 11) [(.t 45)]⟩, 
  ⟨(some 47), some (43, true), .un .not (.t 46)⟩, 
  ⟨(some 48), none, .pick (.t 43) (.t 47) (.c (.s (.d (.bool false))))⟩, 
  ⟨(some 49), none, .mv (.t 48)⟩, 
  ⟨(some 50), some (49, true), .mv (.t 0)⟩, 
  ⟨(some 51), some (49, true), .bin .add (.t 50) (.c (.s (.d (.str [47]))))⟩, 
  ⟨(some 52), some (49, true), .call (.fn 11) [(.t 51)]⟩, 
  ⟨(some 53), some (49, true), .un .not (.t 52)⟩, 
  ⟨(some 54), none, .pick (.t 49) (.t 53) (.c (.s (.d (.bool false))))⟩, 
  ⟨(some 4), none, .mv (.t 54)⟩]
def c6 : C := .seq (.reg c6r0 none [0, 1]) (.seq (.reg c6r1 none [0, 1]) (.seq (.reg c6r2 none [0, 1, 5]) (.seq (.reg c6r3 none [4]) (.ret))))
def k6 : List (Nat × List Nat) := [(3, [4]), (2, [0, 1, 5]), (1, [0, 1]), (0, [0, 1])]
theorem cc6 : (Tryd.f6.body).bind (cC Tryd.prog 55 k6) = some c6 := by kernel_rfl
def rv6 : List RV := [.t 4]
theorem cr6 : cRVs Tryd.prog Tryd.f6.results.toList = some rv6 := by kernel_rfl
theorem f_law03_NameParts_ok (a : Str) (b : Str) (y_ : Bool) (h : f_law03_NameParts a b = some y_) : Fun Tryd.prog glP 6 [.b (.s (.d (.str a))), .b (.s (.d (.str b)))] (.b (.s (.d (.bool y_)))) := by
  refine fun_walk [] Tryd.func6 Tryd.ntmps6 cc6 cr6 (by kernel_rfl) (by simp only [List.length_cons, List.length_nil]; decide) ?_
  generalize hR : Ret _ _ _ _ _ = R_
  simp only [wz, wd, ws, Nat.reduceAdd, Nat.reduceSub, Nat.reduceMul, Nat.reduceLeDiff, Nat.reduceEqDiff, Nat.reduceLT, Nat.reduceBEq, reduceIte, reduceCtorEq, Int.reduceToNat, Nat.reduceShiftRight, Nat.reduceAnd, Nat.reduceBneDiff, Nat.reduceBNe]
  unfold f_law03_NameParts at h; unfold c6
  refine .seq ?_
  refine Rw.walk ?_
  simp only [wz, wd, ws, Nat.reduceAdd, Nat.reduceSub, Nat.reduceMul, Nat.reduceLeDiff, Nat.reduceEqDiff, Nat.reduceLT, Nat.reduceBEq, reduceIte, reduceCtorEq, Int.reduceToNat, Nat.reduceShiftRight, Nat.reduceAnd, Nat.reduceBneDiff, Nat.reduceBNe, c6r0, semI.eq_10, semI.eq_11, semI.eq_3, semI.eq_5, semI.eq_7]
  refine .seq ?_
  refine Rw.walk ?_
  simp only [wz, wd, ws, Nat.reduceAdd, Nat.reduceSub, Nat.reduceMul, Nat.reduceLeDiff, Nat.reduceEqDiff, Nat.reduceLT, Nat.reduceBEq, reduceIte, reduceCtorEq, Int.reduceToNat, Nat.reduceShiftRight, Nat.reduceAnd, Nat.reduceBneDiff, Nat.reduceBNe, c6r1, semI.eq_10, semI.eq_11, semI.eq_3, semI.eq_5, semI.eq_7]
  obtain ⟨t, e1, h⟩ := Option.bind_eq_some_iff.1 h
  refine call_fun [] false ⟨trivial, trivial, trivial⟩ rfl ?_ (f_law03_short_ok _ _ e1) (fun _ => rfl) (fun i hi => by cases hi) ?_
  · simp only [wz, wd, ws, Nat.reduceAdd, Nat.reduceSub, Nat.reduceMul, Nat.reduceLeDiff, Nat.reduceEqDiff, Nat.reduceLT, Nat.reduceBEq, reduceIte, reduceCtorEq, Int.reduceToNat, Nat.reduceShiftRight, Nat.reduceAnd, Nat.reduceBneDiff, Nat.reduceBNe]
  simp only [wz, wd, ws, Nat.reduceAdd, Nat.reduceSub, Nat.reduceMul, Nat.reduceLeDiff, Nat.reduceEqDiff, Nat.reduceLT, Nat.reduceBEq, reduceIte, reduceCtorEq, Int.reduceToNat, Nat.reduceShiftRight, Nat.reduceAnd, Nat.reduceBneDiff, Nat.reduceBNe, c6r1, semI.eq_10, semI.eq_11, semI.eq_3, semI.eq_5, semI.eq_7]
  obtain ⟨t2, e2, h⟩ := Option.bind_eq_some_iff.1 h
  refine call_fun [] false ⟨trivial, trivial, trivial⟩ rfl ?_ (f_law03_short_ok _ _ e2) (fun _ => rfl) (fun i hi => by cases hi) ?_
  · simp only [wz, wd, ws, Nat.reduceAdd, Nat.reduceSub, Nat.reduceMul, Nat.reduceLeDiff, Nat.reduceEqDiff, Nat.reduceLT, Nat.reduceBEq, reduceIte, reduceCtorEq, Int.reduceToNat, Nat.reduceShiftRight, Nat.reduceAnd, Nat.reduceBneDiff, Nat.reduceBNe]
  simp only [wz, wd, ws, Nat.reduceAdd, Nat.reduceSub, Nat.reduceMul, Nat.reduceLeDiff, Nat.reduceEqDiff, Nat.reduceLT, Nat.reduceBEq, reduceIte, reduceCtorEq, Int.reduceToNat, Nat.reduceShiftRight, Nat.reduceAnd, Nat.reduceBneDiff, Nat.reduceBNe, c6r1, semI.eq_10, semI.eq_11, semI.eq_3, semI.eq_5, semI.eq_7]
  refine .seq ?_
  refine Rw.walk ?_
  simp only [wz, wd, ws, Nat.reduceAdd, Nat.reduceSub, Nat.reduceMul, Nat.reduceLeDiff, Nat.reduceEqDiff, Nat.reduceLT, Nat.reduceBEq, reduceIte, reduceCtorEq, Int.reduceToNat, Nat.reduceShiftRight, Nat.reduceAnd, Nat.reduceBneDiff, Nat.reduceBNe, c6r2, semI.eq_10, semI.eq_11, semI.eq_3, semI.eq_5, semI.eq_7]
  obtain ⟨t3, e3, h⟩ := Option.bind_eq_some_iff.1 h
  refine call_fun [] false ⟨trivial, trivial, trivial⟩ rfl ?_ (f_name_Repo_ok _ _ e3) (fun _ => rfl) (fun i hi => by cases hi) ?_
  · simp only [wz, wd, ws, Nat.reduceAdd, Nat.reduceSub, Nat.reduceMul, Nat.reduceLeDiff, Nat.reduceEqDiff, Nat.reduceLT, Nat.reduceBEq, reduceIte, reduceCtorEq, Int.reduceToNat, Nat.reduceShiftRight, Nat.reduceAnd, Nat.reduceBneDiff, Nat.reduceBNe]
  simp only [wz, wd, ws, Nat.reduceAdd, Nat.reduceSub, Nat.reduceMul, Nat.reduceLeDiff, Nat.reduceEqDiff, Nat.reduceLT, Nat.reduceBEq, reduceIte, reduceCtorEq, Int.reduceToNat, Nat.reduceShiftRight, Nat.reduceAnd, Nat.reduceBneDiff, Nat.reduceBNe, c6r2, semI.eq_10, semI.eq_11, semI.eq_3, semI.eq_5, semI.eq_7]
  obtain ⟨t4, e4, h⟩ := Option.bind_eq_some_iff.1 h
  refine call_funG [] rfl (by simp only [wz, wd, ws, Nat.reduceAdd, Nat.reduceSub, Nat.reduceMul, Nat.reduceLeDiff, Nat.reduceEqDiff, Nat.reduceLT, Nat.reduceBEq, reduceIte, reduceCtorEq, Int.reduceToNat, Nat.reduceShiftRight, Nat.reduceAnd, Nat.reduceBneDiff, Nat.reduceBNe]) rfl ?_ (fun q => (f_name_Repo_ok _ _ (gx_iff e4 (by simpa using q)))) rfl (fun i hi => by cases hi) ?_
  · simp only [wz, wd, ws, Nat.reduceAdd, Nat.reduceSub, Nat.reduceMul, Nat.reduceLeDiff, Nat.reduceEqDiff, Nat.reduceLT, Nat.reduceBEq, reduceIte, reduceCtorEq, Int.reduceToNat, Nat.reduceShiftRight, Nat.reduceAnd, Nat.reduceBneDiff, Nat.reduceBNe]
  simp only [wz, wd, ws, Nat.reduceAdd, Nat.reduceSub, Nat.reduceMul, Nat.reduceLeDiff, Nat.reduceEqDiff, Nat.reduceLT, Nat.reduceBEq, reduceIte, reduceCtorEq, Int.reduceToNat, Nat.reduceShiftRight, Nat.reduceAnd, Nat.reduceBneDiff, Nat.reduceBNe, c6r2, semI.eq_10, semI.eq_11, semI.eq_3, semI.eq_5, semI.eq_7]
  repeat (refine And.intro ?_ ?_; · first | omega | (intro q; simp only [wz, wd, ws, Nat.reduceAdd, Nat.reduceSub, Nat.reduceMul, Nat.reduceLeDiff, Nat.reduceEqDiff, Nat.reduceLT, Nat.reduceBEq, reduceIte, reduceCtorEq, Int.reduceToNat, Nat.reduceShiftRight, Nat.reduceAnd, Nat.reduceBneDiff, Nat.reduceBNe, q]; done))
  refine .seq ?_
  refine Rw.walk ?_
  simp only [wz, wd, ws, Nat.reduceAdd, Nat.reduceSub, Nat.reduceMul, Nat.reduceLeDiff, Nat.reduceEqDiff, Nat.reduceLT, Nat.reduceBEq, reduceIte, reduceCtorEq, Int.reduceToNat, Nat.reduceShiftRight, Nat.reduceAnd, Nat.reduceBneDiff, Nat.reduceBNe, c6r3, semI.eq_10, semI.eq_11, semI.eq_3, semI.eq_5, semI.eq_7]
  obtain ⟨t5, e5, h⟩ := Option.bind_eq_some_iff.1 h
  refine call_fun [] false ⟨trivial, trivial⟩ rfl ?_ (f_law03_alive_ok _ e5) (fun _ => rfl) (fun i hi => by cases hi) ?_
  · simp only [wz, wd, ws, Nat.reduceAdd, Nat.reduceSub, Nat.reduceMul, Nat.reduceLeDiff, Nat.reduceEqDiff, Nat.reduceLT, Nat.reduceBEq, reduceIte, reduceCtorEq, Int.reduceToNat, Nat.reduceShiftRight, Nat.reduceAnd, Nat.reduceBneDiff, Nat.reduceBNe]
  simp only [wz, wd, ws, Nat.reduceAdd, Nat.reduceSub, Nat.reduceMul, Nat.reduceLeDiff, Nat.reduceEqDiff, Nat.reduceLT, Nat.reduceBEq, reduceIte, reduceCtorEq, Int.reduceToNat, Nat.reduceShiftRight, Nat.reduceAnd, Nat.reduceBneDiff, Nat.reduceBNe, c6r3, semI.eq_10, semI.eq_11, semI.eq_3, semI.eq_5, semI.eq_7]
  obtain ⟨g6, h⟩ := gd_iff.1 h
  obtain ⟨g7, h⟩ := gd_iff.1 h
  repeat (refine And.intro ?_ ?_; · first | omega | exact g6 | exact g7 | (intro q; first | omega | (have q2 := g6 (by simpa using q); omega) | (have q2 := g6 q; omega) | (have q2 := g7 (by simpa using q); omega) | (have q2 := g7 q; omega) | (have q2 := g6 (by simpa using q); simp only [List.length_append, List.length_cons, List.length_nil] at q2 ⊢; omega) | (have q2 := g7 (by simpa using q); simp only [List.length_append, List.length_cons, List.length_nil] at q2 ⊢; omega)) | (intro q; simp only [wz, wd, ws, Nat.reduceAdd, Nat.reduceSub, Nat.reduceMul, Nat.reduceLeDiff, Nat.reduceEqDiff, Nat.reduceLT, Nat.reduceBEq, reduceIte, reduceCtorEq, Int.reduceToNat, Nat.reduceShiftRight, Nat.reduceAnd, Nat.reduceBneDiff, Nat.reduceBNe, q]; done))
  obtain ⟨t6, e8, h⟩ := Option.bind_eq_some_iff.1 h
  refine call_funG [] rfl (by simp only [wz, wd, ws, Nat.reduceAdd, Nat.reduceSub, Nat.reduceMul, Nat.reduceLeDiff, Nat.reduceEqDiff, Nat.reduceLT, Nat.reduceBEq, reduceIte, reduceCtorEq, Int.reduceToNat, Nat.reduceShiftRight, Nat.reduceAnd, Nat.reduceBneDiff, Nat.reduceBNe]) rfl ?_ (fun q => (f_name_Repo_ok _ _ (gx_iff e8 (by simpa using q)))) rfl (fun i hi => by cases hi) ?_
  · simp only [wz, wd, ws, Nat.reduceAdd, Nat.reduceSub, Nat.reduceMul, Nat.reduceLeDiff, Nat.reduceEqDiff, Nat.reduceLT, Nat.reduceBEq, reduceIte, reduceCtorEq, Int.reduceToNat, Nat.reduceShiftRight, Nat.reduceAnd, Nat.reduceBneDiff, Nat.reduceBNe]
  simp only [wz, wd, ws, Nat.reduceAdd, Nat.reduceSub, Nat.reduceMul, Nat.reduceLeDiff, Nat.reduceEqDiff, Nat.reduceLT, Nat.reduceBEq, reduceIte, reduceCtorEq, Int.reduceToNat, Nat.reduceShiftRight, Nat.reduceAnd, Nat.reduceBneDiff, Nat.reduceBNe, c6r3, semI.eq_10, semI.eq_11, semI.eq_3, semI.eq_5, semI.eq_7]
  obtain ⟨g9, h⟩ := gd_iff.1 h
  obtain ⟨g10, h⟩ := gd_iff.1 h
  repeat (refine And.intro ?_ ?_; · first | omega | exact g6 | exact g7 | exact g9 | exact g10 | (intro q; first | omega | (have q2 := g6 (by simpa using q); omega) | (have q2 := g6 q; omega) | (have q2 := g7 (by simpa using q); omega) | (have q2 := g7 q; omega) | (have q2 := g9 (by simpa using q); omega) | (have q2 := g9 q; omega) | (have q2 := g10 (by simpa using q); omega) | (have q2 := g10 q; omega) | (have q2 := g6 (by simpa using q); simp only [List.length_append, List.length_cons, List.length_nil] at q2 ⊢; omega) | (have q2 := g7 (by simpa using q); simp only [List.length_append, List.length_cons, List.length_nil] at q2 ⊢; omega) | (have q2 := g9 (by simpa using q); simp only [List.length_append, List.length_cons, List.length_nil] at q2 ⊢; omega) | (have q2 := g10 (by simpa using q); simp only [List.length_append, List.length_cons, List.length_nil] at q2 ⊢; omega)) | (intro q; simp only [wz, wd, ws, Nat.reduceAdd, Nat.reduceSub, Nat.reduceMul, Nat.reduceLeDiff, Nat.reduceEqDiff, Nat.reduceLT, Nat.reduceBEq, reduceIte, reduceCtorEq, Int.reduceToNat, Nat.reduceShiftRight, Nat.reduceAnd, Nat.reduceBneDiff, Nat.reduceBNe, q]; done))
  obtain ⟨t7, e11, h⟩ := Option.bind_eq_some_iff.1 h
  refine call_funG [] rfl (by simp only [wz, wd, ws, Nat.reduceAdd, Nat.reduceSub, Nat.reduceMul, Nat.reduceLeDiff, Nat.reduceEqDiff, Nat.reduceLT, Nat.reduceBEq, reduceIte, reduceCtorEq, Int.reduceToNat, Nat.reduceShiftRight, Nat.reduceAnd, Nat.reduceBneDiff, Nat.reduceBNe]) rfl ?_ (fun q => (f_name_Repo_ok _ _ (gx_iff e11 (by simpa using q)))) rfl (fun i hi => by cases hi) ?_
  · simp only [wz, wd, ws, Nat.reduceAdd, Nat.reduceSub, Nat.reduceMul, Nat.reduceLeDiff, Nat.reduceEqDiff, Nat.reduceLT, Nat.reduceBEq, reduceIte, reduceCtorEq, Int.reduceToNat, Nat.reduceShiftRight, Nat.reduceAnd, Nat.reduceBneDiff, Nat.reduceBNe]
  simp only [wz, wd, ws, Nat.reduceAdd, Nat.reduceSub, Nat.reduceMul, Nat.reduceLeDiff, Nat.reduceEqDiff, Nat.reduceLT, Nat.reduceBEq, reduceIte, reduceCtorEq, Int.reduceToNat, Nat.reduceShiftRight, Nat.reduceAnd, Nat.reduceBneDiff, Nat.reduceBNe, c6r3, semI.eq_10, semI.eq_11, semI.eq_3, semI.eq_5, semI.eq_7]
  obtain ⟨g12, h⟩ := gd_iff.1 h
  repeat (refine And.intro ?_ ?_; · first | omega | exact g6 | exact g7 | exact g9 | exact g10 | exact g12 | (intro q; first | omega | (have q2 := g6 (by simpa using q); omega) | (have q2 := g6 q; omega) | (have q2 := g7 (by simpa using q); omega) | (have q2 := g7 q; omega) | (have q2 := g9 (by simpa using q); omega) | (have q2 := g9 q; omega) | (have q2 := g10 (by simpa using q); omega) | (have q2 := g10 q; omega) | (have q2 := g12 (by simpa using q); omega) | (have q2 := g12 q; omega) | (have q2 := g6 (by simpa using q); simp only [List.length_append, List.length_cons, List.length_nil] at q2 ⊢; omega) | (have q2 := g7 (by simpa using q); simp only [List.length_append, List.length_cons, List.length_nil] at q2 ⊢; omega) | (have q2 := g9 (by simpa using q); simp only [List.length_append, List.length_cons, List.length_nil] at q2 ⊢; omega) | (have q2 := g10 (by simpa using q); simp only [List.length_append, List.length_cons, List.length_nil] at q2 ⊢; omega) | (have q2 := g12 (by simpa using q); simp only [List.length_append, List.length_cons, List.length_nil] at q2 ⊢; omega)) | (intro q; simp only [wz, wd, ws, Nat.reduceAdd, Nat.reduceSub, Nat.reduceMul, Nat.reduceLeDiff, Nat.reduceEqDiff, Nat.reduceLT, Nat.reduceBEq, reduceIte, reduceCtorEq, Int.reduceToNat, Nat.reduceShiftRight, Nat.reduceAnd, Nat.reduceBneDiff, Nat.reduceBNe, q]; done))
  obtain ⟨t8, e13, h⟩ := Option.bind_eq_some_iff.1 h
  refine call_funG [] rfl (by simp only [wz, wd, ws, Nat.reduceAdd, Nat.reduceSub, Nat.reduceMul, Nat.reduceLeDiff, Nat.reduceEqDiff, Nat.reduceLT, Nat.reduceBEq, reduceIte, reduceCtorEq, Int.reduceToNat, Nat.reduceShiftRight, Nat.reduceAnd, Nat.reduceBneDiff, Nat.reduceBNe]) rfl ?_ (fun q => (f_name_Repo_ok _ _ (gx_iff e13 (by simpa using q)))) rfl (fun i hi => by cases hi) ?_
  · simp only [wz, wd, ws, Nat.reduceAdd, Nat.reduceSub, Nat.reduceMul, Nat.reduceLeDiff, Nat.reduceEqDiff, Nat.reduceLT, Nat.reduceBEq, reduceIte, reduceCtorEq, Int.reduceToNat, Nat.reduceShiftRight, Nat.reduceAnd, Nat.reduceBneDiff, Nat.reduceBNe]
  simp only [wz, wd, ws, Nat.reduceAdd, Nat.reduceSub, Nat.reduceMul, Nat.reduceLeDiff, Nat.reduceEqDiff, Nat.reduceLT, Nat.reduceBEq, reduceIte, reduceCtorEq, Int.reduceToNat, Nat.reduceShiftRight, Nat.reduceAnd, Nat.reduceBneDiff, Nat.reduceBNe, c6r3, semI.eq_10, semI.eq_11, semI.eq_3, semI.eq_5, semI.eq_7]
  obtain ⟨g14, h⟩ := gd_iff.1 h
  repeat (refine And.intro ?_ ?_; · first | omega | exact g6 | exact g7 | exact g9 | exact g10 | exact g12 | exact g14 | (intro q; first | omega | (have q2 := g6 (by simpa using q); omega) | (have q2 := g6 q; omega) | (have q2 := g7 (by simpa using q); omega) | (have q2 := g7 q; omega) | (have q2 := g9 (by simpa using q); omega) | (have q2 := g9 q; omega) | (have q2 := g10 (by simpa using q); omega) | (have q2 := g10 q; omega) | (have q2 := g12 (by simpa using q); omega) | (have q2 := g12 q; omega) | (have q2 := g14 (by simpa using q); omega) | (have q2 := g14 q; omega) | (have q2 := g6 (by simpa using q); simp only [List.length_append, List.length_cons, List.length_nil] at q2 ⊢; omega) | (have q2 := g7 (by simpa using q); simp only [List.length_append, List.length_cons, List.length_nil] at q2 ⊢; omega) | (have q2 := g9 (by simpa using q); simp only [List.length_append, List.length_cons, List.length_nil] at q2 ⊢; omega) | (have q2 := g10 (by simpa using q); simp only [List.length_append, List.length_cons, List.length_nil] at q2 ⊢; omega) | (have q2 := g12 (by simpa using q); simp only [List.length_append, List.length_cons, List.length_nil] at q2 ⊢; omega) | (have q2 := g14 (by simpa using q); simp only [List.length_append, List.length_cons, List.length_nil] at q2 ⊢; omega)) | (intro q; simp only [wz, wd, ws, Nat.reduceAdd, Nat.reduceSub, Nat.reduceMul, Nat.reduceLeDiff, Nat.reduceEqDiff, Nat.reduceLT, Nat.reduceBEq, reduceIte, reduceCtorEq, Int.reduceToNat, Nat.reduceShiftRight, Nat.reduceAnd, Nat.reduceBneDiff, Nat.reduceBNe, q]; done))
  obtain ⟨t9, e15, h⟩ := Option.bind_eq_some_iff.1 h
  refine call_funG [] rfl (by simp only [wz, wd, ws, Nat.reduceAdd, Nat.reduceSub, Nat.reduceMul, Nat.reduceLeDiff, Nat.reduceEqDiff, Nat.reduceLT, Nat.reduceBEq, reduceIte, reduceCtorEq, Int.reduceToNat, Nat.reduceShiftRight, Nat.reduceAnd, Nat.reduceBneDiff, Nat.reduceBNe]) rfl ?_ (fun q => (f_name_Repo_ok _ _ (gx_iff e15 (by simpa using q)))) rfl (fun i hi => by cases hi) ?_
  · simp only [wz, wd, ws, Nat.reduceAdd, Nat.reduceSub, Nat.reduceMul, Nat.reduceLeDiff, Nat.reduceEqDiff, Nat.reduceLT, Nat.reduceBEq, reduceIte, reduceCtorEq, Int.reduceToNat, Nat.reduceShiftRight, Nat.reduceAnd, Nat.reduceBneDiff, Nat.reduceBNe]
  simp only [wz, wd, ws, Nat.reduceAdd, Nat.reduceSub, Nat.reduceMul, Nat.reduceLeDiff, Nat.reduceEqDiff, Nat.reduceLT, Nat.reduceBEq, reduceIte, reduceCtorEq, Int.reduceToNat, Nat.reduceShiftRight, Nat.reduceAnd, Nat.reduceBneDiff, Nat.reduceBNe, c6r3, semI.eq_10, semI.eq_11, semI.eq_3, semI.eq_5, semI.eq_7]
  repeat (refine And.intro ?_ ?_; · first | omega | exact g6 | exact g7 | exact g9 | exact g10 | exact g12 | exact g14 | (intro q; first | omega | (have q2 := g6 (by simpa using q); omega) | (have q2 := g6 q; omega) | (have q2 := g7 (by simpa using q); omega) | (have q2 := g7 q; omega) | (have q2 := g9 (by simpa using q); omega) | (have q2 := g9 q; omega) | (have q2 := g10 (by simpa using q); omega) | (have q2 := g10 q; omega) | (have q2 := g12 (by simpa using q); omega) | (have q2 := g12 q; omega) | (have q2 := g14 (by simpa using q); omega) | (have q2 := g14 q; omega) | (have q2 := g6 (by simpa using q); simp only [List.length_append, List.length_cons, List.length_nil] at q2 ⊢; omega) | (have q2 := g7 (by simpa using q); simp only [List.length_append, List.length_cons, List.length_nil] at q2 ⊢; omega) | (have q2 := g9 (by simpa using q); simp only [List.length_append, List.length_cons, List.length_nil] at q2 ⊢; omega) | (have q2 := g10 (by simpa using q); simp only [List.length_append, List.length_cons, List.length_nil] at q2 ⊢; omega) | (have q2 := g12 (by simpa using q); simp only [List.length_append, List.length_cons, List.length_nil] at q2 ⊢; omega) | (have q2 := g14 (by simpa using q); simp only [List.length_append, List.length_cons, List.length_nil] at q2 ⊢; omega)) | (intro q; simp only [wz, wd, ws, Nat.reduceAdd, Nat.reduceSub, Nat.reduceMul, Nat.reduceLeDiff, Nat.reduceEqDiff, Nat.reduceLT, Nat.reduceBEq, reduceIte, reduceCtorEq, Int.reduceToNat, Nat.reduceShiftRight, Nat.reduceAnd, Nat.reduceBneDiff, Nat.reduceBNe, q]; done))
  obtain rfl := Option.some.inj h
  refine .ret ?_
  rw [← hR]
  simp only [wz, wd, ws, Nat.reduceAdd, Nat.reduceSub, Nat.reduceMul, Nat.reduceLeDiff, Nat.reduceEqDiff, Nat.reduceLT, Nat.reduceBEq, reduceIte, reduceCtorEq, Int.reduceToNat, Nat.reduceShiftRight, Nat.reduceAnd, Nat.reduceBneDiff, Nat.reduceBNe, rv6]
-- 7 consignor/consignorlaw03.NameMarks
def c7r0 : List Opn := [
  ⟨(some 6), none, .mv (.c (.s (.d (.bool false))))⟩]
def c7r1 : List Opn := [
  ⟨(some 7), none, .mv (.c (.s (.d (.str [97]))))⟩, 
  ⟨(some 8), none, .mv (.c (.s (.d (.str [98, 49]))))⟩]
def c7r2 : List Opn := [
  ⟨(some 15), none, .mv (.t 0)⟩, 
  ⟨(some 16), none, .bin .rem (.t 15) (.c (.s (.d (.int .i64 4))))⟩, 
  ⟨(some 17), none, .bin .add (.t 16) (.c (.s (.d (.int .i64 4))))⟩, 
  ⟨(some 18), none, .bin .rem (.t 17) (.c (.s (.d (.int .i64 4))))⟩, 
  ⟨(some 19), none, .mv (.t 1)⟩, 
  ⟨(some 20), none, .bin .rem (.t 19) (.c (.s (.d (.int .i64 4))))⟩, 
  ⟨(some 21), none, .bin .add (.t 20) (.c (.s (.d (.int .i64 4))))⟩, 
  ⟨(some 22), none, .bin .rem (.t 21) (.c (.s (.d (.int .i64 4))))⟩, 
  ⟨(some 23), none, .mv (.t 2)⟩, 
  ⟨(some 24), none, .bin .rem (.t 23) (.c (.s (.d (.int .i64 6))))⟩, 
  ⟨(some 25), none, .bin .add (.t 24) (.c (.s (.d (.int .i64 6))))⟩, 
  ⟨(some 26), none, .bin .rem (.t 25) (.c (.s (.d (.int .i64 6))))⟩, 
  ⟨(some 27), none, .bin .add (.c (.s (.d (.int .i64 1)))) (.t 26)⟩, 
  ⟨(some 0), none, .mv (.t 18)⟩, 
  ⟨(some 1), none, .mv (.t 22)⟩, 
  ⟨(some 2), none, .mv (.t 27)⟩]
def c7r3 : List Opn := [
  ⟨(some 28), none, .bsl 1 [(.c (.s (.d (.str [46])))), (.c (.s (.d (.str [95])))), (.c (.s (.d (.str [95, 95])))), (.c (.s (.d (.str [45]))))]⟩, 
  ⟨(some 9), none, .mv (.t 28)⟩]
def c7r4 : List Opn := [
  ⟨(some 10), none, .mv (.c (.s (.d (.str []))))⟩]
def c7r5 : List Opn := [
  ⟨(some 29), none, .mv (.t 2)⟩, 
  ⟨(some 30), none, .mv (.c (.s (.d (.int .i64 0))))⟩]
def c7r6 : List Opn := [
  ⟨(some 31), none, .bin .lss (.t 30) (.t 29)⟩]
def c7r7 : List Opn := [
  ⟨(some 32), none, .mv (.t 10)⟩, 
  ⟨(some 33), none, .bin .add (.t 32) (.c (.s (.d (.str [45]))))⟩, 
  ⟨(some 10), none, .mv (.t 33)⟩]
def c7r8 : List Opn := [
  ⟨(some 34), none, .bin .add (.t 30) (.c (.s (.d (.int .i64 1))))⟩, 
  ⟨(some 30), none, .mv (.t 34)⟩]
def c7l9 : C := .seq (.reg c7r6 none [0, 1, 7, 8, 9, 10, 29, 30, 31]) (.seq (.cond (.t 31) (.skip) (.exit 0)) (.seq (.blk 1 (.reg c7r7 none [0, 1, 7, 8, 9, 10, 29, 30])) (.reg c7r8 none [0, 1, 7, 8, 9, 10, 29, 30])))
def c7r9 : List Opn := [
  ⟨(some 35), none, .mv (.t 9)⟩, 
  ⟨(some 36), none, .mv (.t 0)⟩, 
  ⟨(some 37), none, .iadr (.sl 1) (.t 35) (.t 36)⟩, 
  ⟨(some 38), none, .load false 1 (.t 37)⟩, 
  ⟨(some 39), none, .mv (.t 9)⟩, 
  ⟨(some 40), none, .mv (.t 1)⟩, 
  ⟨(some 41), none, .iadr (.sl 1) (.t 39) (.t 40)⟩, 
  ⟨(some 42), none, .load false 1 (.t 41)⟩, 
  ⟨(some 11), none, .mv (.t 38)⟩, 
  ⟨(some 12), none, .mv (.t 42)⟩]
def c7r10 : List Opn := [
  ⟨(some 43), none, .mv (.t 11)⟩, 
  ⟨(some 44), none, .mv (.t 12)⟩, 
  ⟨(some 45), none, .bin .add (.t 43) (.t 44)⟩, 
  ⟨(some 13), none, .mv (.t 45)⟩]
def c7r11 : List Opn := [
  ⟨(some 46), none, .mv (.t 13)⟩, 
  ⟨(some 47), none, .bin .eql (.t 46) (.c (.s (.d (.str [95, 95]))))⟩, 
  ⟨(some 48), none, .mv (.t 47)⟩, 
  ⟨(some 49), some (48, false), .mv (.t 13)⟩, 
  ⟨(some 50), some (48, false), .bin .eql (.t 49) (.c (.s (.d (.str [45, 45]))))⟩, 
  ⟨(some 51), none, .pick (.t 48) (.c (.s (.d (.bool true)))) (.t 50)⟩, 
  ⟨(some 14), none, .mv (.t 51)⟩]
def c7r12 : List Opn := [
  ⟨(some 52), none, .call (.fn 15) []⟩, 
  ⟨(some 53), none, .mv (.t 52)⟩, 
  ⟨(some 54), some (53, true), .mv (.t 7)⟩, 
  ⟨(some 55), some (53, true), .mv (.t 11)⟩, 
  ⟨(some 56), some (53, true), .bin .add (.t 54) (.t 55)⟩, 
  ⟨(some 57), some (53, true), .mv (.t 8)⟩, 
  ⟨(some 58), some (53, true), .bin .add (.t 56) (.t 57)⟩, 
  ⟨(some 59), some (53, true), .call (.fn 11) [(.t 58)]⟩, 
  ⟨(some 60), none, .pick (.t 53) (.t 59) (.c (.s (.d (.bool false))))⟩, 
  ⟨(some 61), none, .mv (.t 60)⟩, 
  ⟨(some 62), some (61, true), .mv (.t 7)⟩, 
  ⟨(some 63), some (61, true), .mv (.t 10)⟩, 
  ⟨(some 64), some (61, true), .bin .add (.t 62) (.t 63)⟩, 
  ⟨(some 65), some (61, true), .mv (.t 8)⟩, 
  ⟨(some 66), some (61, true), .bin .add (.t 64) (.t 65)⟩, 
  ⟨(some 67), some (61, true), .call (.fn 11) [(.t 66)]⟩, 
  ⟨(some 68), none, .pick (.t 61) (.t 67) (.c (.s (.d (.bool false))))⟩, 
  ⟨(some 69), none, .mv (.t 68)⟩, 
  ⟨(some 70), some (69, true), .mv (.t 7)⟩, 
  ⟨(some 71), some (69, true), .mv (.t 13)⟩, 
  ⟨(some 72), some (69, true), .bin .add (.t 70) (.t 71)⟩, 
  ⟨(some 73), some (69, true), .mv (.t 8)⟩, 
  ⟨(some 74), some (69, true), .bin .add (.t 72) (.t 73)⟩, 
  ⟨(some 75), some (69, true), .call (.fn 11) [(.t 74)]⟩, 
  ⟨(some 76), some (69, true), .mv (.t 14)⟩, 
  ⟨(some 77), some (69, true), .bbo .eql (.t 75) (.t 76)⟩, 
  ⟨(some 78), none, .pick (.t 69) (.t 77) (.c (.s (.d (.bool false))))⟩, 
  ⟨(some 79), none, .mv (.t 78)⟩, 
  ⟨(some 80), some (79, true), .mv (.t 11)⟩, 
  ⟨(some 81), some (79, true), .mv (.t 8)⟩, 
  ⟨(some 82), some (79, true), .bin .add (.t 80) (.t 81)⟩, 
  ⟨(some 83), some (79, true), .call (.fn 11) [(.t 82)]⟩, 
  ⟨(some 84), some (79, true), .un .not (.t 83)⟩, 
  ⟨(some 85), none, .pick (.t 79) (.t 84) (.c (.s (.d (.bool false))))⟩, 
  ⟨(some 86), none, .mv (.t 85)⟩, 
  ⟨(some 87), some (86, true), .mv (.t 7)⟩, 
  ⟨(some 88), some (86, true), .mv (.t 11)⟩, 
  ⟨(some 89), some (86, true), .bin .add (.t 87) (.t 88)⟩, 
  ⟨(some 90), some (86, true), .call (.fn 11) [(.t 89)]⟩, 
  ⟨(some 91), some (86, true), .un .not (.t 90)⟩, 
  ⟨(some 92), none, .pick (.t 86) (.t 91) (.c (.s (.d (.bool false))))⟩, 
  ⟨(some 93), none, .mv (.t 92)⟩, 
  ⟨(some 94), some (93, true), .mv (.t 7)⟩, 
  ⟨(some 95), some (93, true), .mv (.t 11)⟩, 
  ⟨(some 96), some (93, true), .bin .add (.t 94) (.t 95)⟩, 
  ⟨(some 97), some (93, true), .mv (.t 8)⟩, 
  ⟨(some 98), some (93, true), .bin .add (.t 96) (.t 97)⟩, 
  ⟨(some 99), some (93, true), .mv (.t 12)⟩, 
  ⟨(some 100), some (93, true), .bin .add (.t 98) (.t 99)⟩, 
  ⟨(some 101), some (93, true), .mv (.t 7)⟩, 
  ⟨(some 102), some (93, true), .bin .add (.t 100) (.t 101)⟩, 
  ⟨(some 103), some (93, true), .call (.fn 11) [(.t 102)]⟩, 
  ⟨(some 104), none, .pick (.t 93) (.t 103) (.c (.s (.d (.bool false))))⟩, 
  ⟨(some 6), none, .mv (.t 104)⟩]
def c7 : C := .seq (.reg c7r0 none [0, 1, 2]) (.seq (.reg c7r1 none [0, 1, 2, 7, 8]) (.seq (.reg c7r2 none [0, 1, 2, 7, 8]) (.seq (.reg c7r3 none [0, 1, 2, 7, 8, 9]) (.seq (.reg c7r4 none [0, 1, 2, 7, 8, 9, 10]) (.seq (.seq (.reg c7r5 none [0, 1, 7, 8, 9, 10, 29, 30]) (.blk 0 (.loop c7l9))) (.seq (.reg c7r9 (some [0, 0, 3, 7, 0, 0, 48, 112, 15, 511]) [7, 8, 10, 11, 12]) (.seq (.reg c7r10 none [7, 8, 10, 11, 12, 13]) (.seq (.reg c7r11 none [7, 8, 10, 11, 12, 13, 14]) (.seq (.reg c7r12 none [6]) (.ret))))))))))
def k7 : List (Nat × List Nat) := [(12, [6]), (11, [7, 8, 10, 11, 12, 13, 14]), (10, [7, 8, 10, 11, 12, 13]), (9, [7, 8, 10, 11, 12]), (8, [0, 1, 7, 8, 9, 10, 29, 30]), (7, [0, 1, 7, 8, 9, 10, 29, 30]), (6, [0, 1, 7, 8, 9, 10, 29, 30, 31]), (5, [0, 1, 7, 8, 9, 10, 29, 30]), (4, [0, 1, 2, 7, 8, 9, 10]), (3, [0, 1, 2, 7, 8, 9]), (2, [0, 1, 2, 7, 8]), (1, [0, 1, 2, 7, 8]), (0, [0, 1, 2])]
theorem cc7 : (Tryd.f7.body).bind (cC Tryd.prog 105 k7) = some c7 := by kernel_rfl
def rv7 : List RV := [.t 6]
theorem cr7 : cRVs Tryd.prog Tryd.f7.results.toList = some rv7 := by kernel_rfl
theorem f_law03_NameMarks_l9_ok (a : Int) (b : Int) (many : Int) (y_ : Bool) (R_ : St → Prop) (hR : (Ret Tryd.prog glP [] rv7 (.b (.s (.d (.bool y_))))) = R_) : ∀ (m_ : Nat) (dashes : Str) (v30 : Int) (res_ : Str × Int) (h : f_law03_NameMarks_l9 a b many m_ dashes v30 = some res_) (k_ : List It) (hx : ∀ s_ : Str × Int, res_ = s_ → W Tryd.prog glP 105 k_ ⟨lkT [(0, .b (.s (.d (.int .i64 ((IntKind.i64.wrap ((a.tmod 4) + 4)).tmod 4))))), (1, .b (.s (.d (.int .i64 ((IntKind.i64.wrap ((b.tmod 4) + 4)).tmod 4))))), (7, .b (.s (.d (.str ([97] : Str))))), (8, .b (.s (.d (.str ([98, 49] : Str))))), (9, .b (.s (.own 28 4))), (10, .b (.s (.d (.str s_.1)))), (29, .b (.s (.d (.int .i64 (IntKind.i64.wrap (1 + ((IntKind.i64.wrap ((many.tmod 6) + 6)).tmod 6))))))), (30, .b (.s (.d (.int .i64 s_.2))))], lkG [(28, ⟨1, er eS ([([46] : Str), ([95] : Str), ([95, 95] : Str), ([45] : Str)] : List Str), false⟩)]⟩ R_), W Tryd.prog glP 105 (.c c7l9 :: .lp c7l9 :: .blk 0 :: k_) ⟨lkT [(0, .b (.s (.d (.int .i64 ((IntKind.i64.wrap ((a.tmod 4) + 4)).tmod 4))))), (1, .b (.s (.d (.int .i64 ((IntKind.i64.wrap ((b.tmod 4) + 4)).tmod 4))))), (7, .b (.s (.d (.str ([97] : Str))))), (8, .b (.s (.d (.str ([98, 49] : Str))))), (9, .b (.s (.own 28 4))), (10, .b (.s (.d (.str dashes)))), (29, .b (.s (.d (.int .i64 (IntKind.i64.wrap (1 + ((IntKind.i64.wrap ((many.tmod 6) + 6)).tmod 6))))))), (30, .b (.s (.d (.int .i64 v30))))], lkG [(28, ⟨1, er eS ([([46] : Str), ([95] : Str), ([95, 95] : Str), ([45] : Str)] : List Str), false⟩)]⟩ R_ := by
  intro m_; induction m_ with
  | zero => intro dashes v30 res_ h; rw [f_law03_NameMarks_l9.eq_1] at h; cases h
  | succ m_ ih =>
    intro dashes v30 res_ h k_ hx; rw [f_law03_NameMarks_l9.eq_2] at h; refine W.cdef c7l9.eq_1 ?_
    refine .seq ?_
    refine Rw.walk ?_
    simp only [wz, wd, ws, Nat.reduceAdd, Nat.reduceSub, Nat.reduceMul, Nat.reduceLeDiff, Nat.reduceEqDiff, Nat.reduceLT, Nat.reduceBEq, reduceIte, reduceCtorEq, Int.reduceToNat, Nat.reduceShiftRight, Nat.reduceAnd, Nat.reduceBneDiff, Nat.reduceBNe, c7r6, semI.eq_10, semI.eq_11, semI.eq_3, semI.eq_5, semI.eq_7]
    refine .seq ?_
    refine .cond (p := (decide (v30 < (IntKind.i64.wrap (1 + ((IntKind.i64.wrap ((many.tmod 6) + 6)).tmod 6)))))) (by first | rfl | simp only [wz, wd, ws, Nat.reduceAdd, Nat.reduceSub, Nat.reduceMul, Nat.reduceLeDiff, Nat.reduceEqDiff, Nat.reduceLT, Nat.reduceBEq, reduceIte, reduceCtorEq, Int.reduceToNat, Nat.reduceShiftRight, Nat.reduceAnd, Nat.reduceBneDiff, Nat.reduceBNe]) (fun h1 => ?_) (fun h1 => ?_)
    · rw [ite_t h1] at h
      refine .skip ?_
      refine .seq ?_
      refine .blk ?_
      refine Rw.walk ?_
      obtain ⟨g1, h⟩ := gd_iff.1 h
      simp only [wz, wd, ws, Nat.reduceAdd, Nat.reduceSub, Nat.reduceMul, Nat.reduceLeDiff, Nat.reduceEqDiff, Nat.reduceLT, Nat.reduceBEq, reduceIte, reduceCtorEq, Int.reduceToNat, Nat.reduceShiftRight, Nat.reduceAnd, Nat.reduceBneDiff, Nat.reduceBNe, c7r7, semI.eq_10, semI.eq_11, semI.eq_3, semI.eq_5, semI.eq_7]
      repeat (refine And.intro ?_ ?_; · first | omega | (intro q; simp only [wz, wd, ws, Nat.reduceAdd, Nat.reduceSub, Nat.reduceMul, Nat.reduceLeDiff, Nat.reduceEqDiff, Nat.reduceLT, Nat.reduceBEq, reduceIte, reduceCtorEq, Int.reduceToNat, Nat.reduceShiftRight, Nat.reduceAnd, Nat.reduceBneDiff, Nat.reduceBNe, q]; done))
      refine .eblk ?_
      refine Rw.walk ?_
      simp only [wz, wd, ws, Nat.reduceAdd, Nat.reduceSub, Nat.reduceMul, Nat.reduceLeDiff, Nat.reduceEqDiff, Nat.reduceLT, Nat.reduceBEq, reduceIte, reduceCtorEq, Int.reduceToNat, Nat.reduceShiftRight, Nat.reduceAnd, Nat.reduceBneDiff, Nat.reduceBNe, c7r8, semI.eq_10, semI.eq_11, semI.eq_3, semI.eq_5, semI.eq_7]
      refine .lp ?_
      refine .weak (Imp.co [] _ _ ?_ ?_ ?_ ?_ ?_) (ih (dashes ++ ([45] : Str)) (IntKind.i64.wrap (v30 + 1)) _ h k_ hx) <;> simp only [wz, wd, ws, Nat.reduceAdd, Nat.reduceSub, Nat.reduceMul, Nat.reduceLeDiff, Nat.reduceEqDiff, Nat.reduceLT, Nat.reduceBEq, reduceIte, reduceCtorEq, Int.reduceToNat, Nat.reduceShiftRight, Nat.reduceAnd, Nat.reduceBneDiff, Nat.reduceBNe, wi, er_nil]
    · rw [ite_f h1] at h
      refine .exit rfl ?_
      obtain rfl := Option.some.inj h
      refine .weak (Imp.co [] _ _ ?_ ?_ ?_ ?_ ?_) (hx _ rfl) <;> simp only [wz, wd, ws, Nat.reduceAdd, Nat.reduceSub, Nat.reduceMul, Nat.reduceLeDiff, Nat.reduceEqDiff, Nat.reduceLT, Nat.reduceBEq, reduceIte, reduceCtorEq, Int.reduceToNat, Nat.reduceShiftRight, Nat.reduceAnd, Nat.reduceBneDiff, Nat.reduceBNe, wi, er_nil]
theorem f_law03_NameMarks_ok (a : Int) (b : Int) (many : Int) (y_ : Bool) (h : f_law03_NameMarks a b many = some y_) : Fun Tryd.prog glP 7 [.b (.s (.d (.int .i64 a))), .b (.s (.d (.int .i64 b))), .b (.s (.d (.int .i64 many)))] (.b (.s (.d (.bool y_)))) := by
  refine fun_walk [] Tryd.func7 Tryd.ntmps7 cc7 cr7 (by kernel_rfl) (by simp only [List.length_cons, List.length_nil]; decide) ?_
  generalize hR : Ret _ _ _ _ _ = R_
  simp only [wz, wd, ws, Nat.reduceAdd, Nat.reduceSub, Nat.reduceMul, Nat.reduceLeDiff, Nat.reduceEqDiff, Nat.reduceLT, Nat.reduceBEq, reduceIte, reduceCtorEq, Int.reduceToNat, Nat.reduceShiftRight, Nat.reduceAnd, Nat.reduceBneDiff, Nat.reduceBNe]
  unfold f_law03_NameMarks at h; unfold c7
  refine .seq ?_
  refine Rw.walk ?_
  simp only [wz, wd, ws, Nat.reduceAdd, Nat.reduceSub, Nat.reduceMul, Nat.reduceLeDiff, Nat.reduceEqDiff, Nat.reduceLT, Nat.reduceBEq, reduceIte, reduceCtorEq, Int.reduceToNat, Nat.reduceShiftRight, Nat.reduceAnd, Nat.reduceBneDiff, Nat.reduceBNe, c7r0, semI.eq_10, semI.eq_11, semI.eq_3, semI.eq_5, semI.eq_7]
  refine .seq ?_
  refine Rw.walk ?_
  simp only [wz, wd, ws, Nat.reduceAdd, Nat.reduceSub, Nat.reduceMul, Nat.reduceLeDiff, Nat.reduceEqDiff, Nat.reduceLT, Nat.reduceBEq, reduceIte, reduceCtorEq, Int.reduceToNat, Nat.reduceShiftRight, Nat.reduceAnd, Nat.reduceBneDiff, Nat.reduceBNe, c7r1, semI.eq_10, semI.eq_11, semI.eq_3, semI.eq_5, semI.eq_7]
  refine .seq ?_
  refine Rw.walk ?_
  simp only [wz, wd, ws, Nat.reduceAdd, Nat.reduceSub, Nat.reduceMul, Nat.reduceLeDiff, Nat.reduceEqDiff, Nat.reduceLT, Nat.reduceBEq, reduceIte, reduceCtorEq, Int.reduceToNat, Nat.reduceShiftRight, Nat.reduceAnd, Nat.reduceBneDiff, Nat.reduceBNe, c7r2, semI.eq_10, semI.eq_11, semI.eq_3, semI.eq_5, semI.eq_7]
  repeat (refine And.intro ?_ ?_; · first | omega | (intro q; simp only [wz, wd, ws, Nat.reduceAdd, Nat.reduceSub, Nat.reduceMul, Nat.reduceLeDiff, Nat.reduceEqDiff, Nat.reduceLT, Nat.reduceBEq, reduceIte, reduceCtorEq, Int.reduceToNat, Nat.reduceShiftRight, Nat.reduceAnd, Nat.reduceBneDiff, Nat.reduceBNe, q]; done))
  refine .seq ?_
  refine Rw.walk ?_
  simp only [wz, wd, ws, Nat.reduceAdd, Nat.reduceSub, Nat.reduceMul, Nat.reduceLeDiff, Nat.reduceEqDiff, Nat.reduceLT, Nat.reduceBEq, reduceIte, reduceCtorEq, Int.reduceToNat, Nat.reduceShiftRight, Nat.reduceAnd, Nat.reduceBneDiff, Nat.reduceBNe, c7r3, semI.eq_10, semI.eq_11, semI.eq_3, semI.eq_5, semI.eq_7]
  refine Go1.of (sem_bsl (enc := eS) (m := ([([46] : Str), ([95] : Str), ([95, 95] : Str), ([45] : Str)] : List Str)) eS_len (by rfl) (by rfl) (by rfl) ⟨trivial, trivial, trivial, trivial, trivial⟩) ?_
  simp only [wz, wd, ws, Nat.reduceAdd, Nat.reduceSub, Nat.reduceMul, Nat.reduceLeDiff, Nat.reduceEqDiff, Nat.reduceLT, Nat.reduceBEq, reduceIte, reduceCtorEq, Int.reduceToNat, Nat.reduceShiftRight, Nat.reduceAnd, Nat.reduceBneDiff, Nat.reduceBNe, c7r3, semI.eq_10, semI.eq_11, semI.eq_3, semI.eq_5, semI.eq_7]
  refine .seq ?_
  refine Rw.walk ?_
  simp only [wz, wd, ws, Nat.reduceAdd, Nat.reduceSub, Nat.reduceMul, Nat.reduceLeDiff, Nat.reduceEqDiff, Nat.reduceLT, Nat.reduceBEq, reduceIte, reduceCtorEq, Int.reduceToNat, Nat.reduceShiftRight, Nat.reduceAnd, Nat.reduceBneDiff, Nat.reduceBNe, c7r4, semI.eq_10, semI.eq_11, semI.eq_3, semI.eq_5, semI.eq_7]
  refine .seq ?_
  refine .seq ?_
  refine Rw.walk ?_
  simp only [wz, wd, ws, Nat.reduceAdd, Nat.reduceSub, Nat.reduceMul, Nat.reduceLeDiff, Nat.reduceEqDiff, Nat.reduceLT, Nat.reduceBEq, reduceIte, reduceCtorEq, Int.reduceToNat, Nat.reduceShiftRight, Nat.reduceAnd, Nat.reduceBneDiff, Nat.reduceBNe, c7r5, semI.eq_10, semI.eq_11, semI.eq_3, semI.eq_5, semI.eq_7]
  refine .blk ?_
  obtain ⟨s, hf, h⟩ := Option.bind_eq_some_iff.1 h
  refine .loop (.weak (Imp.co [] _ _ ?c1 ?c2 ?c3 ?c4 ?c5) (f_law03_NameMarks_l9_ok a b many _ _ hR _ _ _ _ hf _ ?_))
  case c1 | c2 | c3 | c4 | c5 => simp only [wz, wd, ws, Nat.reduceAdd, Nat.reduceSub, Nat.reduceMul, Nat.reduceLeDiff, Nat.reduceEqDiff, Nat.reduceLT, Nat.reduceBEq, reduceIte, reduceCtorEq, Int.reduceToNat, Nat.reduceShiftRight, Nat.reduceAnd, Nat.reduceBneDiff, Nat.reduceBNe, wi, er_nil]
  · intro s_ hs; subst hs
    refine .seq ?_
    refine RwD.walk ?_
    simp only [wz, wd, ws, Nat.reduceAdd, Nat.reduceSub, Nat.reduceMul, Nat.reduceLeDiff, Nat.reduceEqDiff, Nat.reduceLT, Nat.reduceBEq, reduceIte, reduceCtorEq, Int.reduceToNat, Nat.reduceShiftRight, Nat.reduceAnd, Nat.reduceBneDiff, Nat.reduceBNe, c7r9, semI.eq_10, semI.eq_11, semI.eq_3, semI.eq_5, semI.eq_7]
    obtain ⟨x, e2, h⟩ := Option.bind_eq_some_iff.1 h
    refine GoD1.of (sem_iadrO (l := ([([46] : Str), ([95] : Str), ([95, 95] : Str), ([45] : Str)] : List Str)) e2 (by rfl) (by rfl) (by rfl)) ?_
    simp only [wz, wd, ws, Nat.reduceAdd, Nat.reduceSub, Nat.reduceMul, Nat.reduceLeDiff, Nat.reduceEqDiff, Nat.reduceLT, Nat.reduceBEq, reduceIte, reduceCtorEq, Int.reduceToNat, Nat.reduceShiftRight, Nat.reduceAnd, Nat.reduceBneDiff, Nat.reduceBNe, c7r9, semI.eq_10, semI.eq_11, semI.eq_3, semI.eq_5, semI.eq_7, er_get e2]
    obtain ⟨x2, e3, h⟩ := Option.bind_eq_some_iff.1 h
    refine GoD1.of (sem_iadrO (l := ([([46] : Str), ([95] : Str), ([95, 95] : Str), ([45] : Str)] : List Str)) e3 (by rfl) (by rfl) (by rfl)) ?_
    simp only [wz, wd, ws, Nat.reduceAdd, Nat.reduceSub, Nat.reduceMul, Nat.reduceLeDiff, Nat.reduceEqDiff, Nat.reduceLT, Nat.reduceBEq, reduceIte, reduceCtorEq, Int.reduceToNat, Nat.reduceShiftRight, Nat.reduceAnd, Nat.reduceBneDiff, Nat.reduceBNe, c7r9, semI.eq_10, semI.eq_11, semI.eq_3, semI.eq_5, semI.eq_7, er_get e2, er_get e3]
    refine .seq ?_
    refine Rw.walk ?_
    obtain ⟨g4, h⟩ := gd_iff.1 h
    simp only [wz, wd, ws, Nat.reduceAdd, Nat.reduceSub, Nat.reduceMul, Nat.reduceLeDiff, Nat.reduceEqDiff, Nat.reduceLT, Nat.reduceBEq, reduceIte, reduceCtorEq, Int.reduceToNat, Nat.reduceShiftRight, Nat.reduceAnd, Nat.reduceBneDiff, Nat.reduceBNe, c7r10, semI.eq_10, semI.eq_11, semI.eq_3, semI.eq_5, semI.eq_7, er_get e2, er_get e3]
    repeat (refine And.intro ?_ ?_; · first | omega | (intro q; simp only [wz, wd, ws, Nat.reduceAdd, Nat.reduceSub, Nat.reduceMul, Nat.reduceLeDiff, Nat.reduceEqDiff, Nat.reduceLT, Nat.reduceBEq, reduceIte, reduceCtorEq, Int.reduceToNat, Nat.reduceShiftRight, Nat.reduceAnd, Nat.reduceBneDiff, Nat.reduceBNe, q]; done))
    refine .seq ?_
    refine Rw.walk ?_
    simp only [wz, wd, ws, Nat.reduceAdd, Nat.reduceSub, Nat.reduceMul, Nat.reduceLeDiff, Nat.reduceEqDiff, Nat.reduceLT, Nat.reduceBEq, reduceIte, reduceCtorEq, Int.reduceToNat, Nat.reduceShiftRight, Nat.reduceAnd, Nat.reduceBneDiff, Nat.reduceBNe, c7r11, semI.eq_10, semI.eq_11, semI.eq_3, semI.eq_5, semI.eq_7, er_get e2, er_get e3]
    repeat (refine And.intro ?_ ?_; · first | omega | (intro q; simp only [wz, wd, ws, Nat.reduceAdd, Nat.reduceSub, Nat.reduceMul, Nat.reduceLeDiff, Nat.reduceEqDiff, Nat.reduceLT, Nat.reduceBEq, reduceIte, reduceCtorEq, Int.reduceToNat, Nat.reduceShiftRight, Nat.reduceAnd, Nat.reduceBneDiff, Nat.reduceBNe, q]; done))
    refine .seq ?_
    refine Rw.walk ?_
    simp only [wz, wd, ws, Nat.reduceAdd, Nat.reduceSub, Nat.reduceMul, Nat.reduceLeDiff, Nat.reduceEqDiff, Nat.reduceLT, Nat.reduceBEq, reduceIte, reduceCtorEq, Int.reduceToNat, Nat.reduceShiftRight, Nat.reduceAnd, Nat.reduceBneDiff, Nat.reduceBNe, c7r12, semI.eq_10, semI.eq_11, semI.eq_3, semI.eq_5, semI.eq_7, er_get e2, er_get e3]
    obtain ⟨t, e5, h⟩ := Option.bind_eq_some_iff.1 h
    refine call_fun [] false ⟨trivial, trivial⟩ rfl ?_ (f_law03_alive_ok _ e5) (fun _ => rfl) (fun i hi => by cases hi) ?_
    · simp only [wz, wd, ws, Nat.reduceAdd, Nat.reduceSub, Nat.reduceMul, Nat.reduceLeDiff, Nat.reduceEqDiff, Nat.reduceLT, Nat.reduceBEq, reduceIte, reduceCtorEq, Int.reduceToNat, Nat.reduceShiftRight, Nat.reduceAnd, Nat.reduceBneDiff, Nat.reduceBNe, er_get e2, er_get e3]
    simp only [wz, wd, ws, Nat.reduceAdd, Nat.reduceSub, Nat.reduceMul, Nat.reduceLeDiff, Nat.reduceEqDiff, Nat.reduceLT, Nat.reduceBEq, reduceIte, reduceCtorEq, Int.reduceToNat, Nat.reduceShiftRight, Nat.reduceAnd, Nat.reduceBneDiff, Nat.reduceBNe, c7r12, semI.eq_10, semI.eq_11, semI.eq_3, semI.eq_5, semI.eq_7, er_get e2, er_get e3]
    obtain ⟨g6, h⟩ := gd_iff.1 h
    obtain ⟨g7, h⟩ := gd_iff.1 h
    repeat (refine And.intro ?_ ?_; · first | omega | exact g6 | exact g7 | (intro q; first | omega | (have q2 := g6 (by simpa using q); omega) | (have q2 := g6 q; omega) | (have q2 := g7 (by simpa using q); omega) | (have q2 := g7 q; omega) | (have q2 := g6 (by simpa using q); simp only [List.length_append, List.length_cons, List.length_nil] at q2 ⊢; omega) | (have q2 := g7 (by simpa using q); simp only [List.length_append, List.length_cons, List.length_nil] at q2 ⊢; omega)) | (intro q; simp only [wz, wd, ws, Nat.reduceAdd, Nat.reduceSub, Nat.reduceMul, Nat.reduceLeDiff, Nat.reduceEqDiff, Nat.reduceLT, Nat.reduceBEq, reduceIte, reduceCtorEq, Int.reduceToNat, Nat.reduceShiftRight, Nat.reduceAnd, Nat.reduceBneDiff, Nat.reduceBNe, q]; done))
    obtain ⟨t2, e8, h⟩ := Option.bind_eq_some_iff.1 h
    refine call_funG [] rfl (by simp only [wz, wd, ws, Nat.reduceAdd, Nat.reduceSub, Nat.reduceMul, Nat.reduceLeDiff, Nat.reduceEqDiff, Nat.reduceLT, Nat.reduceBEq, reduceIte, reduceCtorEq, Int.reduceToNat, Nat.reduceShiftRight, Nat.reduceAnd, Nat.reduceBneDiff, Nat.reduceBNe]) rfl ?_ (fun q => (f_name_Repo_ok _ _ (gx_iff e8 (by simpa using q)))) rfl (fun i hi => by cases hi) ?_
    · simp only [wz, wd, ws, Nat.reduceAdd, Nat.reduceSub, Nat.reduceMul, Nat.reduceLeDiff, Nat.reduceEqDiff, Nat.reduceLT, Nat.reduceBEq, reduceIte, reduceCtorEq, Int.reduceToNat, Nat.reduceShiftRight, Nat.reduceAnd, Nat.reduceBneDiff, Nat.reduceBNe, er_get e2, er_get e3]
    simp only [wz, wd, ws, Nat.reduceAdd, Nat.reduceSub, Nat.reduceMul, Nat.reduceLeDiff, Nat.reduceEqDiff, Nat.reduceLT, Nat.reduceBEq, reduceIte, reduceCtorEq, Int.reduceToNat, Nat.reduceShiftRight, Nat.reduceAnd, Nat.reduceBneDiff, Nat.reduceBNe, c7r12, semI.eq_10, semI.eq_11, semI.eq_3, semI.eq_5, semI.eq_7, er_get e2, er_get e3]
    obtain ⟨g9, h⟩ := gd_iff.1 h
    obtain ⟨g10, h⟩ := gd_iff.1 h
    repeat (refine And.intro ?_ ?_; · first | omega | exact g6 | exact g7 | exact g9 | exact g10 | (intro q; first | omega | (have q2 := g6 (by simpa using q); omega) | (have q2 := g6 q; omega) | (have q2 := g7 (by simpa using q); omega) | (have q2 := g7 q; omega) | (have q2 := g9 (by simpa using q); omega) | (have q2 := g9 q; omega) | (have q2 := g10 (by simpa using q); omega) | (have q2 := g10 q; omega) | (have q2 := g6 (by simpa using q); simp only [List.length_append, List.length_cons, List.length_nil] at q2 ⊢; omega) | (have q2 := g7 (by simpa using q); simp only [List.length_append, List.length_cons, List.length_nil] at q2 ⊢; omega) | (have q2 := g9 (by simpa using q); simp only [List.length_append, List.length_cons, List.length_nil] at q2 ⊢; omega) | (have q2 := g10 (by simpa using q); simp only [List.length_append, List.length_cons, List.length_nil] at q2 ⊢; omega)) | (intro q; simp only [wz, wd, ws, Nat.reduceAdd, Nat.reduceSub, Nat.reduceMul, Nat.reduceLeDiff, Nat.reduceEqDiff, Nat.reduceLT, Nat.reduceBEq, reduceIte, reduceCtorEq, Int.reduceToNat, Nat.reduceShiftRight, Nat.reduceAnd, Nat.reduceBneDiff, Nat.reduceBNe, q]; done))
    obtain ⟨t3, e11, h⟩ := Option.bind_eq_some_iff.1 h
    refine call_funG [] rfl (by simp only [wz, wd, ws, Nat.reduceAdd, Nat.reduceSub, Nat.reduceMul, Nat.reduceLeDiff, Nat.reduceEqDiff, Nat.reduceLT, Nat.reduceBEq, reduceIte, reduceCtorEq, Int.reduceToNat, Nat.reduceShiftRight, Nat.reduceAnd, Nat.reduceBneDiff, Nat.reduceBNe]) rfl ?_ (fun q => (f_name_Repo_ok _ _ (gx_iff e11 (by simpa using q)))) rfl (fun i hi => by cases hi) ?_
    · simp only [wz, wd, ws, Nat.reduceAdd, Nat.reduceSub, Nat.reduceMul, Nat.reduceLeDiff, Nat.reduceEqDiff, Nat.reduceLT, Nat.reduceBEq, reduceIte, reduceCtorEq, Int.reduceToNat, Nat.reduceShiftRight, Nat.reduceAnd, Nat.reduceBneDiff, Nat.reduceBNe, er_get e2, er_get e3]
    simp only [wz, wd, ws, Nat.reduceAdd, Nat.reduceSub, Nat.reduceMul, Nat.reduceLeDiff, Nat.reduceEqDiff, Nat.reduceLT, Nat.reduceBEq, reduceIte, reduceCtorEq, Int.reduceToNat, Nat.reduceShiftRight, Nat.reduceAnd, Nat.reduceBneDiff, Nat.reduceBNe, c7r12, semI.eq_10, semI.eq_11, semI.eq_3, semI.eq_5, semI.eq_7, er_get e2, er_get e3]
    obtain ⟨g12, h⟩ := gd_iff.1 h
    obtain ⟨g13, h⟩ := gd_iff.1 h
    repeat (refine And.intro ?_ ?_; · first | omega | exact g6 | exact g7 | exact g9 | exact g10 | exact g12 | exact g13 | (intro q; first | omega | (have q2 := g6 (by simpa using q); omega) | (have q2 := g6 q; omega) | (have q2 := g7 (by simpa using q); omega) | (have q2 := g7 q; omega) | (have q2 := g9 (by simpa using q); omega) | (have q2 := g9 q; omega) | (have q2 := g10 (by simpa using q); omega) | (have q2 := g10 q; omega) | (have q2 := g12 (by simpa using q); omega) | (have q2 := g12 q; omega) | (have q2 := g13 (by simpa using q); omega) | (have q2 := g13 q; omega) | (have q2 := g6 (by simpa using q); simp only [List.length_append, List.length_cons, List.length_nil] at q2 ⊢; omega) | (have q2 := g7 (by simpa using q); simp only [List.length_append, List.length_cons, List.length_nil] at q2 ⊢; omega) | (have q2 := g9 (by simpa using q); simp only [List.length_append, List.length_cons, List.length_nil] at q2 ⊢; omega) | (have q2 := g10 (by simpa using q); simp only [List.length_append, List.length_cons, List.length_nil] at q2 ⊢; omega) | (have q2 := g12 (by simpa using q); simp only [List.length_append, List.length_cons, List.length_nil] at q2 ⊢; omega) | (have q2 := g13 (by simpa using q); simp only [List.length_append, List.length_cons, List.length_nil] at q2 ⊢; omega)) | (intro q; simp only [wz, wd, ws, Nat.reduceAdd, Nat.reduceSub, Nat.reduceMul, Nat.reduceLeDiff, Nat.reduceEqDiff, Nat.reduceLT, Nat.reduceBEq, reduceIte, reduceCtorEq, Int.reduceToNat, Nat.reduceShiftRight, Nat.reduceAnd, Nat.reduceBneDiff, Nat.reduceBNe, q]; done))
    obtain ⟨t4, e14, h⟩ := Option.bind_eq_some_iff.1 h
    refine call_funG [] rfl (by simp only [wz, wd, ws, Nat.reduceAdd, Nat.reduceSub, Nat.reduceMul, Nat.reduceLeDiff, Nat.reduceEqDiff, Nat.reduceLT, Nat.reduceBEq, reduceIte, reduceCtorEq, Int.reduceToNat, Nat.reduceShiftRight, Nat.reduceAnd, Nat.reduceBneDiff, Nat.reduceBNe]) rfl ?_ (fun q => (f_name_Repo_ok _ _ (gx_iff e14 (by simpa using q)))) rfl (fun i hi => by cases hi) ?_
    · simp only [wz, wd, ws, Nat.reduceAdd, Nat.reduceSub, Nat.reduceMul, Nat.reduceLeDiff, Nat.reduceEqDiff, Nat.reduceLT, Nat.reduceBEq, reduceIte, reduceCtorEq, Int.reduceToNat, Nat.reduceShiftRight, Nat.reduceAnd, Nat.reduceBneDiff, Nat.reduceBNe, er_get e2, er_get e3]
    simp only [wz, wd, ws, Nat.reduceAdd, Nat.reduceSub, Nat.reduceMul, Nat.reduceLeDiff, Nat.reduceEqDiff, Nat.reduceLT, Nat.reduceBEq, reduceIte, reduceCtorEq, Int.reduceToNat, Nat.reduceShiftRight, Nat.reduceAnd, Nat.reduceBneDiff, Nat.reduceBNe, c7r12, semI.eq_10, semI.eq_11, semI.eq_3, semI.eq_5, semI.eq_7, er_get e2, er_get e3]
    obtain ⟨g15, h⟩ := gd_iff.1 h
    repeat (refine And.intro ?_ ?_; · first | omega | exact g6 | exact g7 | exact g9 | exact g10 | exact g12 | exact g13 | exact g15 | (intro q; first | omega | (have q2 := g6 (by simpa using q); omega) | (have q2 := g6 q; omega) | (have q2 := g7 (by simpa using q); omega) | (have q2 := g7 q; omega) | (have q2 := g9 (by simpa using q); omega) | (have q2 := g9 q; omega) | (have q2 := g10 (by simpa using q); omega) | (have q2 := g10 q; omega) | (have q2 := g12 (by simpa using q); omega) | (have q2 := g12 q; omega) | (have q2 := g13 (by simpa using q); omega) | (have q2 := g13 q; omega) | (have q2 := g15 (by simpa using q); omega) | (have q2 := g15 q; omega) | (have q2 := g6 (by simpa using q); simp only [List.length_append, List.length_cons, List.length_nil] at q2 ⊢; omega) | (have q2 := g7 (by simpa using q); simp only [List.length_append, List.length_cons, List.length_nil] at q2 ⊢; omega) | (have q2 := g9 (by simpa using q); simp only [List.length_append, List.length_cons, List.length_nil] at q2 ⊢; omega) | (have q2 := g10 (by simpa using q); simp only [List.length_append, List.length_cons, List.length_nil] at q2 ⊢; omega) | (have q2 := g12 (by simpa using q); simp only [List.length_append, List.length_cons, List.length_nil] at q2 ⊢; omega) | (have q2 := g13 (by simpa using q); simp only [List.length_append, List.length_cons, List.length_nil] at q2 ⊢; omega) | (have q2 := g15 (by simpa using q); simp only [List.length_append, List.length_cons, List.length_nil] at q2 ⊢; omega)) | (intro q; simp only [wz, wd, ws, Nat.reduceAdd, Nat.reduceSub, Nat.reduceMul, Nat.reduceLeDiff, Nat.reduceEqDiff, Nat.reduceLT, Nat.reduceBEq, reduceIte, reduceCtorEq, Int.reduceToNat, Nat.reduceShiftRight, Nat.reduceAnd, Nat.reduceBneDiff, Nat.reduceBNe, q]; done))
    obtain ⟨t5, e16, h⟩ := Option.bind_eq_some_iff.1 h
    refine call_funG [] rfl (by simp only [wz, wd, ws, Nat.reduceAdd, Nat.reduceSub, Nat.reduceMul, Nat.reduceLeDiff, Nat.reduceEqDiff, Nat.reduceLT, Nat.reduceBEq, reduceIte, reduceCtorEq, Int.reduceToNat, Nat.reduceShiftRight, Nat.reduceAnd, Nat.reduceBneDiff, Nat.reduceBNe]) rfl ?_ (fun q => (f_name_Repo_ok _ _ (gx_iff e16 (by simpa using q)))) rfl (fun i hi => by cases hi) ?_
    · simp only [wz, wd, ws, Nat.reduceAdd, Nat.reduceSub, Nat.reduceMul, Nat.reduceLeDiff, Nat.reduceEqDiff, Nat.reduceLT, Nat.reduceBEq, reduceIte, reduceCtorEq, Int.reduceToNat, Nat.reduceShiftRight, Nat.reduceAnd, Nat.reduceBneDiff, Nat.reduceBNe, er_get e2, er_get e3]
    simp only [wz, wd, ws, Nat.reduceAdd, Nat.reduceSub, Nat.reduceMul, Nat.reduceLeDiff, Nat.reduceEqDiff, Nat.reduceLT, Nat.reduceBEq, reduceIte, reduceCtorEq, Int.reduceToNat, Nat.reduceShiftRight, Nat.reduceAnd, Nat.reduceBneDiff, Nat.reduceBNe, c7r12, semI.eq_10, semI.eq_11, semI.eq_3, semI.eq_5, semI.eq_7, er_get e2, er_get e3]
    obtain ⟨g17, h⟩ := gd_iff.1 h
    repeat (refine And.intro ?_ ?_; · first | omega | exact g6 | exact g7 | exact g9 | exact g10 | exact g12 | exact g13 | exact g15 | exact g17 | (intro q; first | omega | (have q2 := g6 (by simpa using q); omega) | (have q2 := g6 q; omega) | (have q2 := g7 (by simpa using q); omega) | (have q2 := g7 q; omega) | (have q2 := g9 (by simpa using q); omega) | (have q2 := g9 q; omega) | (have q2 := g10 (by simpa using q); omega) | (have q2 := g10 q; omega) | (have q2 := g12 (by simpa using q); omega) | (have q2 := g12 q; omega) | (have q2 := g13 (by simpa using q); omega) | (have q2 := g13 q; omega) | (have q2 := g15 (by simpa using q); omega) | (have q2 := g15 q; omega) | (have q2 := g17 (by simpa using q); omega) | (have q2 := g17 q; omega) | (have q2 := g6 (by simpa using q); simp only [List.length_append, List.length_cons, List.length_nil] at q2 ⊢; omega) | (have q2 := g7 (by simpa using q); simp only [List.length_append, List.length_cons, List.length_nil] at q2 ⊢; omega) | (have q2 := g9 (by simpa using q); simp only [List.length_append, List.length_cons, List.length_nil] at q2 ⊢; omega) | (have q2 := g10 (by simpa using q); simp only [List.length_append, List.length_cons, List.length_nil] at q2 ⊢; omega) | (have q2 := g12 (by simpa using q); simp only [List.length_append, List.length_cons, List.length_nil] at q2 ⊢; omega) | (have q2 := g13 (by simpa using q); simp only [List.length_append, List.length_cons, List.length_nil] at q2 ⊢; omega) | (have q2 := g15 (by simpa using q); simp only [List.length_append, List.length_cons, List.length_nil] at q2 ⊢; omega) | (have q2 := g17 (by simpa using q); simp only [List.length_append, List.length_cons, List.length_nil] at q2 ⊢; omega)) | (intro q; simp only [wz, wd, ws, Nat.reduceAdd, Nat.reduceSub, Nat.reduceMul, Nat.reduceLeDiff, Nat.reduceEqDiff, Nat.reduceLT, Nat.reduceBEq, reduceIte, reduceCtorEq, Int.reduceToNat, Nat.reduceShiftRight, Nat.reduceAnd, Nat.reduceBneDiff, Nat.reduceBNe, q]; done))
    obtain ⟨t6, e18, h⟩ := Option.bind_eq_some_iff.1 h
    refine call_funG [] rfl (by simp only [wz, wd, ws, Nat.reduceAdd, Nat.reduceSub, Nat.reduceMul, Nat.reduceLeDiff, Nat.reduceEqDiff, Nat.reduceLT, Nat.reduceBEq, reduceIte, reduceCtorEq, Int.reduceToNat, Nat.reduceShiftRight, Nat.reduceAnd, Nat.reduceBneDiff, Nat.reduceBNe]) rfl ?_ (fun q => (f_name_Repo_ok _ _ (gx_iff e18 (by simpa using q)))) rfl (fun i hi => by cases hi) ?_
    · simp only [wz, wd, ws, Nat.reduceAdd, Nat.reduceSub, Nat.reduceMul, Nat.reduceLeDiff, Nat.reduceEqDiff, Nat.reduceLT, Nat.reduceBEq, reduceIte, reduceCtorEq, Int.reduceToNat, Nat.reduceShiftRight, Nat.reduceAnd, Nat.reduceBneDiff, Nat.reduceBNe, er_get e2, er_get e3]
    simp only [wz, wd, ws, Nat.reduceAdd, Nat.reduceSub, Nat.reduceMul, Nat.reduceLeDiff, Nat.reduceEqDiff, Nat.reduceLT, Nat.reduceBEq, reduceIte, reduceCtorEq, Int.reduceToNat, Nat.reduceShiftRight, Nat.reduceAnd, Nat.reduceBneDiff, Nat.reduceBNe, c7r12, semI.eq_10, semI.eq_11, semI.eq_3, semI.eq_5, semI.eq_7, er_get e2, er_get e3]
    obtain ⟨g19, h⟩ := gd_iff.1 h
    obtain ⟨g20, h⟩ := gd_iff.1 h
    obtain ⟨g21, h⟩ := gd_iff.1 h
    obtain ⟨g22, h⟩ := gd_iff.1 h
    repeat (refine And.intro ?_ ?_; · first | omega | exact g6 | exact g7 | exact g9 | exact g10 | exact g12 | exact g13 | exact g15 | exact g17 | exact g19 | exact g20 | exact g21 | exact g22 | (intro q; first | omega | (have q2 := g6 (by simpa using q); omega) | (have q2 := g6 q; omega) | (have q2 := g7 (by simpa using q); omega) | (have q2 := g7 q; omega) | (have q2 := g9 (by simpa using q); omega) | (have q2 := g9 q; omega) | (have q2 := g10 (by simpa using q); omega) | (have q2 := g10 q; omega) | (have q2 := g12 (by simpa using q); omega) | (have q2 := g12 q; omega) | (have q2 := g13 (by simpa using q); omega) | (have q2 := g13 q; omega) | (have q2 := g15 (by simpa using q); omega) | (have q2 := g15 q; omega) | (have q2 := g17 (by simpa using q); omega) | (have q2 := g17 q; omega) | (have q2 := g19 (by simpa using q); omega) | (have q2 := g19 q; omega) | (have q2 := g20 (by simpa using q); omega) | (have q2 := g20 q; omega) | (have q2 := g21 (by simpa using q); omega) | (have q2 := g21 q; omega) | (have q2 := g22 (by simpa using q); omega) | (have q2 := g22 q; omega) | (have q2 := g6 (by simpa using q); simp only [List.length_append, List.length_cons, List.length_nil] at q2 ⊢; omega) | (have q2 := g7 (by simpa using q); simp only [List.length_append, List.length_cons, List.length_nil] at q2 ⊢; omega) | (have q2 := g9 (by simpa using q); simp only [List.length_append, List.length_cons, List.length_nil] at q2 ⊢; omega) | (have q2 := g10 (by simpa using q); simp only [List.length_append, List.length_cons, List.length_nil] at q2 ⊢; omega) | (have q2 := g12 (by simpa using q); simp only [List.length_append, List.length_cons, List.length_nil] at q2 ⊢; omega) | (have q2 := g13 (by simpa using q); simp only [List.length_append, List.length_cons, List.length_nil] at q2 ⊢; omega) | (have q2 := g15 (by simpa using q); simp only [List.length_append, List.length_cons, List.length_nil] at q2 ⊢; omega) | (have q2 := g17 (by simpa using q); simp only [List.length_append, List.length_cons, List.length_nil] at q2 ⊢; omega) | (have q2 := g19 (by simpa using q); simp only [List.length_append, List.length_cons, List.length_nil] at q2 ⊢; omega) | (have q2 := g20 (by simpa using q); simp only [List.length_append, List.length_cons, List.length_nil] at q2 ⊢; omega) | (have q2 := g21 (by simpa using q); simp only [List.length_append, List.length_cons, List.length_nil] at q2 ⊢; omega) | (have q2 := g22 (by simpa using q); simp only [List.length_append, List.length_cons, List.length_nil] at q2 ⊢; omega)) | (intro q; simp only [wz, wd, ws, Nat.reduceAdd, Nat.reduceSub, Nat.reduceMul, Nat.reduceLeDiff, Nat.reduceEqDiff, Nat.reduceLT, Nat.reduceBEq, reduceIte, reduceCtorEq, Int.reduceToNat, Nat.reduceShiftRight, Nat.reduceAnd, Nat.reduceBneDiff, Nat.reduceBNe, q]; done))
    obtain ⟨t7, e23, h⟩ := Option.bind_eq_some_iff.1 h
    refine call_funG [] rfl (by simp only [wz, wd, ws, Nat.reduceAdd, Nat.reduceSub, Nat.reduceMul, Nat.reduceLeDiff, Nat.reduceEqDiff, Nat.reduceLT, Nat.reduceBEq, reduceIte, reduceCtorEq, Int.reduceToNat, Nat.reduceShiftRight, Nat.reduceAnd, Nat.reduceBneDiff, Nat.reduceBNe]) rfl ?_ (fun q => (f_name_Repo_ok _ _ (gx_iff e23 (by simpa using q)))) rfl (fun i hi => by cases hi) ?_
    · simp only [wz, wd, ws, Nat.reduceAdd, Nat.reduceSub, Nat.reduceMul, Nat.reduceLeDiff, Nat.reduceEqDiff, Nat.reduceLT, Nat.reduceBEq, reduceIte, reduceCtorEq, Int.reduceToNat, Nat.reduceShiftRight, Nat.reduceAnd, Nat.reduceBneDiff, Nat.reduceBNe, er_get e2, er_get e3]
    simp only [wz, wd, ws, Nat.reduceAdd, Nat.reduceSub, Nat.reduceMul, Nat.reduceLeDiff, Nat.reduceEqDiff, Nat.reduceLT, Nat.reduceBEq, reduceIte, reduceCtorEq, Int.reduceToNat, Nat.reduceShiftRight, Nat.reduceAnd, Nat.reduceBneDiff, Nat.reduceBNe, c7r12, semI.eq_10, semI.eq_11, semI.eq_3, semI.eq_5, semI.eq_7, er_get e2, er_get e3]
    repeat (refine And.intro ?_ ?_; · first | omega | exact g6 | exact g7 | exact g9 | exact g10 | exact g12 | exact g13 | exact g15 | exact g17 | exact g19 | exact g20 | exact g21 | exact g22 | (intro q; first | omega | (have q2 := g6 (by simpa using q); omega) | (have q2 := g6 q; omega) | (have q2 := g7 (by simpa using q); omega) | (have q2 := g7 q; omega) | (have q2 := g9 (by simpa using q); omega) | (have q2 := g9 q; omega) | (have q2 := g10 (by simpa using q); omega) | (have q2 := g10 q; omega) | (have q2 := g12 (by simpa using q); omega) | (have q2 := g12 q; omega) | (have q2 := g13 (by simpa using q); omega) | (have q2 := g13 q; omega) | (have q2 := g15 (by simpa using q); omega) | (have q2 := g15 q; omega) | (have q2 := g17 (by simpa using q); omega) | (have q2 := g17 q; omega) | (have q2 := g19 (by simpa using q); omega) | (have q2 := g19 q; omega) | (have q2 := g20 (by simpa using q); omega) | (have q2 := g20 q; omega) | (have q2 := g21 (by simpa using q); omega) | (have q2 := g21 q; omega) | (have q2 := g22 (by simpa using q); omega) | (have q2 := g22 q; omega) | (have q2 := g6 (by simpa using q); simp only [List.length_append, List.length_cons, List.length_nil] at q2 ⊢; omega) | (have q2 := g7 (by simpa using q); simp only [List.length_append, List.length_cons, List.length_nil] at q2 ⊢; omega) | (have q2 := g9 (by simpa using q); simp only [List.length_append, List.length_cons, List.length_nil] at q2 ⊢; omega) | (have q2 := g10 (by simpa using q); simp only [List.length_append, List.length_cons, List.length_nil] at q2 ⊢; omega) | (have q2 := g12 (by simpa using q); simp only [List.length_append, List.length_cons, List.length_nil] at q2 ⊢; omega) | (have q2 := g13 (by simpa using q); simp only [List.length_append, List.length_cons, List.length_nil] at q2 ⊢; omega) | (have q2 := g15 (by simpa using q); simp only [List.length_append, List.length_cons, List.length_nil] at q2 ⊢; omega) | (have q2 := g17 (by simpa using q); simp only [List.length_append, List.length_cons, List.length_nil] at q2 ⊢; omega) | (have q2 := g19 (by simpa using q); simp only [List.length_append, List.length_cons, List.length_nil] at q2 ⊢; omega) | (have q2 := g20 (by simpa using q); simp only [List.length_append, List.length_cons, List.length_nil] at q2 ⊢; omega) | (have q2 := g21 (by simpa using q); simp only [List.length_append, List.length_cons, List.length_nil] at q2 ⊢; omega) | (have q2 := g22 (by simpa using q); simp only [List.length_append, List.length_cons, List.length_nil] at q2 ⊢; omega)) | (intro q; simp only [wz, wd, ws, Nat.reduceAdd, Nat.reduceSub, Nat.reduceMul, Nat.reduceLeDiff, Nat.reduceEqDiff, Nat.reduceLT, Nat.reduceBEq, reduceIte, reduceCtorEq, Int.reduceToNat, Nat.reduceShiftRight, Nat.reduceAnd, Nat.reduceBneDiff, Nat.reduceBNe, q]; done))
    obtain rfl := Option.some.inj h
    refine .ret ?_
    rw [← hR]
    simp only [wz, wd, ws, Nat.reduceAdd, Nat.reduceSub, Nat.reduceMul, Nat.reduceLeDiff, Nat.reduceEqDiff, Nat.reduceLT, Nat.reduceBEq, reduceIte, reduceCtorEq, Int.reduceToNat, Nat.reduceShiftRight, Nat.reduceAnd, Nat.reduceBneDiff, Nat.reduceBNe, rv7, er_get e2, er_get e3]
end Go.Proofs.YtdcokepmblcdmaaDoor.V
end
