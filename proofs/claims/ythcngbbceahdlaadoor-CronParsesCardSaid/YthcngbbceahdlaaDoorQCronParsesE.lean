/- Ticks' times: days counted. -/
import Derived.Test.YthcngbbceahdlaaDoorProg
import Derived.Test.YthcngbbceahdlaaDoorQCronParsesB
import Derived.Test.YthcngbbceahdlaaDoorQCronParsesC
import Derived.Test.YthcngbbceahdlaaDoorQCronParsesD
import Derived.KernelRfl
section
/- Go functions compute what Lean functions do. -/
namespace Go.Proofs.YthcngbbceahdlaaDoor.V
open Go Go.RowKit
set_option linter.unusedVariables false
set_option linter.unusedSimpArgs false
set_option maxHeartbeats 1000000
set_option maxRecDepth 20000
-- 51 consignor/consignorref08.Field
def c51r0 : List Opn := [
  ⟨(some 6), none, .mv (.c (.s (.d (.int .u64 0))))⟩, 
  ⟨(some 7), none, .mv (.c (.s (.d (.bool false))))⟩]
def c51r1 : List Opn := [
  ⟨(some 8), none, .mv (.c (.s (.d (.int .u64 0))))⟩]
def c51r2 : List Opn := [
  ⟨(some 9), none, .mv (.c (.s (.d (.int .u64 1))))⟩]
def c51r3 : List Opn := [
  ⟨(some 10), none, .mv (.c (.s (.d (.int .i64 0))))⟩]
def c51r4 : List Opn := [
  ⟨(some 19), none, .mv (.t 10)⟩, 
  ⟨(some 20), none, .mv (.t 1)⟩, 
  ⟨(some 21), none, .bin .lss (.t 19) (.t 20)⟩]
def c51r6 : List Opn := [
  ⟨(some 24), none, .mv (.t 9)⟩, 
  ⟨(some 25), none, .bin .mul (.c (.s (.d (.int .u64 2)))) (.t 24)⟩, 
  ⟨(some 9), none, .mv (.t 25)⟩]
def c51r5 : List Opn := [
  ⟨(some 22), none, .mv (.t 10)⟩, 
  ⟨(some 23), none, .bin .add (.t 22) (.c (.s (.d (.int .i64 1))))⟩, 
  ⟨(some 10), none, .mv (.t 23)⟩]
def c51l7 : C := .seq (.seq (.reg c51r4 none [0, 1, 2, 8, 9, 10, 21]) (.cond (.t 21) (.skip) (.exit 0))) (.seq (.blk 1 (.reg c51r6 none [0, 1, 2, 8, 9, 10])) (.reg c51r5 none [0, 1, 2, 8, 9, 10]))
def c51r7 : List Opn := [
  ⟨(some 26), none, .bsl 3 []⟩, 
  ⟨(some 11), none, .mv (.t 26)⟩]
def c51r8 : List Opn := [
  ⟨(some 27), none, .mv (.t 0)⟩, 
  ⟨(some 28), none, .call (.fn 50) [(.t 27), (.c (.s (.d (.int .u8 44))))]⟩, 
  ⟨(some 29), none, .len (.sl 0) (.t 28)⟩, 
  ⟨(some 30), none, .mv (.c (.s (.d (.int .i64 0))))⟩]
def c51r9 : List Opn := [
  ⟨(some 31), none, .bin .lss (.t 30) (.t 29)⟩]
def c51r10 : List Opn := [
  ⟨(some 32), none, .iadr (.sl 1) (.t 28) (.t 30)⟩, 
  ⟨(some 33), none, .load false 1 (.t 32)⟩, 
  ⟨(some 13), none, .mv (.t 33)⟩]
def c51r11 : List Opn := [
  ⟨(some 34), none, .mv (.t 13)⟩, 
  ⟨(some 35), none, .mv (.t 1)⟩, 
  ⟨(some 36), none, .mv (.t 2)⟩, 
  ⟨(some 37), none, .call (.fn 72) [(.t 34), (.t 35), (.t 36)]⟩, 
  ⟨(some 14), none, .new [(.d (.int .i64 0)), (.d (.int .i64 0)), (.d (.int .i64 0))]⟩, 
  ⟨none, none, .store 3 (.t 14) (.t 37)⟩]
def c51r12 : List Opn := [
  ⟨(some 38), none, .fadr 2 (.t 14)⟩, 
  ⟨(some 39), none, .load false 1 (.t 38)⟩, 
  ⟨(some 40), none, .bin .eql (.t 39) (.c (.s (.d (.int .i64 0))))⟩]
def c51r13 : List Opn := [
  ⟨(some 6), none, .mv (.c (.s (.d (.int .u64 0))))⟩, 
  ⟨(some 7), none, .mv (.c (.s (.d (.bool false))))⟩]
def c51r14 : List Opn := [
  ⟨(some 41), none, .mv (.t 11)⟩, 
  ⟨(some 42), none, .load true 3 (.t 14)⟩, 
  ⟨(some 43), none, .bsl 3 [(.t 42)]⟩, 
  ⟨(some 44), none, .app 3 24 false (.t 41) (.t 43)⟩, 
  ⟨(some 11), none, .mv (.t 44)⟩]
def c51r15 : List Opn := [
  ⟨(some 45), none, .bin .add (.t 30) (.c (.s (.d (.int .i64 1))))⟩, 
  ⟨(some 30), none, .mv (.t 45)⟩]
def c51l17 : C := .seq (.reg c51r9 none [1, 2, 8, 9, 11, 28, 29, 30, 31]) (.seq (.cond (.t 31) (.skip) (.exit 2)) (.seq (.blk 3 (.seq (.reg c51r10 none [1, 2, 8, 9, 11, 13, 28, 29, 30]) (.seq (.reg c51r11 none [1, 2, 8, 9, 11, 14, 28, 29, 30]) (.seq (.seq (.reg c51r12 none [1, 2, 8, 9, 11, 14, 28, 29, 30, 40]) (.cond (.t 40) (.seq (.reg c51r13 none [6, 7]) (.ret)) (.skip))) (.reg c51r14 none [1, 2, 8, 9, 11, 28, 29, 30]))))) (.reg c51r15 none [1, 2, 8, 9, 11, 28, 29, 30])))
def c51r16 : List Opn := [
  ⟨(some 46), none, .mv (.t 1)⟩, 
  ⟨(some 15), none, .mv (.t 46)⟩]
def c51r17 : List Opn := [
  ⟨(some 47), none, .mv (.t 15)⟩, 
  ⟨(some 48), none, .mv (.t 2)⟩, 
  ⟨(some 49), none, .bin .leq (.t 47) (.t 48)⟩]
def c51r19 : List Opn := [
  ⟨(some 16), none, .mv (.c (.s (.d (.bool false))))⟩]
def c51r20 : List Opn := [
  ⟨(some 52), none, .mv (.t 11)⟩, 
  ⟨(some 53), none, .len (.sl 0) (.t 52)⟩, 
  ⟨(some 54), none, .mv (.c (.s (.d (.int .i64 0))))⟩]
def c51r21 : List Opn := [
  ⟨(some 55), none, .bin .lss (.t 54) (.t 53)⟩]
def c51r22 : List Opn := [
  ⟨(some 56), none, .iadr (.sl 3) (.t 52) (.t 54)⟩, 
  ⟨(some 57), none, .load true 3 (.t 56)⟩, 
  ⟨(some 18), none, .new [(.d (.int .i64 0)), (.d (.int .i64 0)), (.d (.int .i64 0))]⟩, 
  ⟨none, none, .store 3 (.t 18) (.t 57)⟩]
def c51r23 : List Opn := [
  ⟨(some 58), none, .mv (.t 15)⟩, 
  ⟨(some 59), none, .fadr 0 (.t 18)⟩, 
  ⟨(some 60), none, .load false 1 (.t 59)⟩, 
  ⟨(some 61), none, .bin .geq (.t 58) (.t 60)⟩, 
  ⟨(some 62), none, .mv (.t 61)⟩, 
  ⟨(some 63), some (62, true), .mv (.t 15)⟩, 
  ⟨(some 64), some (62, true), .fadr 1 (.t 18)⟩, 
  ⟨(some 65), some (62, true), .load false 1 (.t 64)⟩, 
  ⟨(some 66), some (62, true), .bin .leq (.t 63) (.t 65)⟩, 
  ⟨(some 67), none, .pick (.t 62) (.t 66) (.c (.s (.d (.bool false))))⟩, 
  ⟨(some 68), none, .mv (.t 67)⟩, 
  ⟨(some 69), some (68, true), .mv (.t 15)⟩, 
  ⟨(some 70), some (68, true), .fadr 0 (.t 18)⟩, 
  ⟨(some 71), some (68, true), .load false 1 (.t 70)⟩, 
  ⟨(some 72), some (68, true), .bin .sub (.t 69) (.t 71)⟩, 
  ⟨(some 73), some (68, true), .fadr 2 (.t 18)⟩, 
  ⟨(some 74), some (68, true), .load false 1 (.t 73)⟩, 
  ⟨(some 75), some (68, true), .bin .rem (.t 72) (.t 74)⟩, 
  ⟨(some 76), some (68, true), .bin .eql (.t 75) (.c (.s (.d (.int .i64 0))))⟩, 
  ⟨(some 77), none, .pick (.t 68) (.t 76) (.c (.s (.d (.bool false))))⟩]
def c51r24 : List Opn := [
  ⟨(some 16), none, .mv (.c (.s (.d (.bool true))))⟩]
def c51r25 : List Opn := [
  ⟨(some 78), none, .bin .add (.t 54) (.c (.s (.d (.int .i64 1))))⟩, 
  ⟨(some 54), none, .mv (.t 78)⟩]
def c51l27 : C := .seq (.reg c51r21 none [2, 8, 9, 11, 15, 16, 52, 53, 54, 55]) (.seq (.cond (.t 55) (.skip) (.exit 6)) (.seq (.blk 7 (.seq (.reg c51r22 none [2, 8, 9, 11, 15, 16, 18, 52, 53, 54]) (.seq (.reg c51r23 none [2, 8, 9, 11, 15, 16, 52, 53, 54, 77]) (.cond (.t 77) (.reg c51r24 none [2, 8, 9, 11, 15, 16, 52, 53, 54]) (.skip))))) (.reg c51r25 none [2, 8, 9, 11, 15, 16, 52, 53, 54])))
def c51r26 : List Opn := [
  ⟨(some 79), none, .mv (.t 16)⟩]
def c51r27 : List Opn := [
  ⟨(some 80), none, .mv (.t 8)⟩, 
  ⟨(some 81), none, .mv (.t 9)⟩, 
  ⟨(some 82), none, .bin .add (.t 80) (.t 81)⟩, 
  ⟨(some 8), none, .mv (.t 82)⟩]
def c51r28 : List Opn := [
  ⟨(some 83), none, .mv (.t 9)⟩, 
  ⟨(some 84), none, .bin .mul (.c (.s (.d (.int .u64 2)))) (.t 83)⟩, 
  ⟨(some 9), none, .mv (.t 84)⟩]
def c51r18 : List Opn := [
  ⟨(some 50), none, .mv (.t 15)⟩, 
  ⟨(some 51), none, .bin .add (.t 50) (.c (.s (.d (.int .i64 1))))⟩, 
  ⟨(some 15), none, .mv (.t 51)⟩]
def c51l32 : C := .seq (.seq (.reg c51r17 none [2, 8, 9, 11, 15, 49]) (.cond (.t 49) (.skip) (.exit 4))) (.seq (.blk 5 (.seq (.reg c51r19 none [2, 8, 9, 11, 15, 16]) (.seq (.seq (.reg c51r20 none [2, 8, 9, 11, 15, 16, 52, 53, 54]) (.blk 6 (.loop c51l27))) (.seq (.seq (.reg c51r26 none [2, 8, 9, 11, 15, 79]) (.cond (.t 79) (.reg c51r27 none [2, 8, 9, 11, 15]) (.skip))) (.reg c51r28 none [2, 8, 9, 11, 15]))))) (.reg c51r18 none [2, 8, 9, 11, 15]))
def c51r29 : List Opn := [
  ⟨(some 85), none, .mv (.t 8)⟩, 
  ⟨(some 6), none, .mv (.t 85)⟩, 
  ⟨(some 7), none, .mv (.c (.s (.d (.bool true))))⟩]
def c51 : C := .seq (.reg c51r0 none [0, 1, 2]) (.seq (.reg c51r1 none [0, 1, 2, 8]) (.seq (.reg c51r2 none [0, 1, 2, 8, 9]) (.seq (.seq (.reg c51r3 none [0, 1, 2, 8, 9, 10]) (.blk 0 (.loop c51l7))) (.seq (.reg c51r7 none [0, 1, 2, 8, 9, 11]) (.seq (.seq (.reg c51r8 none [1, 2, 8, 9, 11, 28, 29, 30]) (.blk 2 (.loop c51l17))) (.seq (.seq (.reg c51r16 none [2, 8, 9, 11, 15]) (.blk 4 (.loop c51l32))) (.seq (.reg c51r29 none [6, 7]) (.ret))))))))
def k51 : List (Nat × List Nat) := [(29, [6, 7]), (18, [2, 8, 9, 11, 15]), (28, [2, 8, 9, 11, 15]), (27, [2, 8, 9, 11, 15]), (26, [2, 8, 9, 11, 15, 79]), (25, [2, 8, 9, 11, 15, 16, 52, 53, 54]), (24, [2, 8, 9, 11, 15, 16, 52, 53, 54]), (23, [2, 8, 9, 11, 15, 16, 52, 53, 54, 77]), (22, [2, 8, 9, 11, 15, 16, 18, 52, 53, 54]), (21, [2, 8, 9, 11, 15, 16, 52, 53, 54, 55]), (20, [2, 8, 9, 11, 15, 16, 52, 53, 54]), (19, [2, 8, 9, 11, 15, 16]), (17, [2, 8, 9, 11, 15, 49]), (16, [2, 8, 9, 11, 15]), (15, [1, 2, 8, 9, 11, 28, 29, 30]), (14, [1, 2, 8, 9, 11, 28, 29, 30]), (13, [6, 7]), (12, [1, 2, 8, 9, 11, 14, 28, 29, 30, 40]), (11, [1, 2, 8, 9, 11, 14, 28, 29, 30]), (10, [1, 2, 8, 9, 11, 13, 28, 29, 30]), (9, [1, 2, 8, 9, 11, 28, 29, 30, 31]), (8, [1, 2, 8, 9, 11, 28, 29, 30]), (7, [0, 1, 2, 8, 9, 11]), (5, [0, 1, 2, 8, 9, 10]), (6, [0, 1, 2, 8, 9, 10]), (4, [0, 1, 2, 8, 9, 10, 21]), (3, [0, 1, 2, 8, 9, 10]), (2, [0, 1, 2, 8, 9]), (1, [0, 1, 2, 8]), (0, [0, 1, 2])]
theorem cc51 : (Tryd.f51.body).bind (cC Tryd.prog 86 k51) = some c51 := by kernel_rfl
def rv51 : List RV := [.t 6, .t 7]
theorem cr51 : cRVs Tryd.prog Tryd.f51.results.toList = some rv51 := by kernel_rfl
theorem f_ref08_Field_l7_ok (s : Str) (low : Int) (high : Int) (y_ : Int × Bool) (R_ : St → Prop) (hR : (Ret Tryd.prog glP [] rv51 (.tup [.s (.d (.int .u64 y_.1)), .s (.d (.bool y_.2))])) = R_) : ∀ (m_ : Nat) (bit : Int) (i : Int) (res_ : Int × Int) (h : f_ref08_Field_l7 s low high m_ bit i = some res_) (k_ : List It) (hx : ∀ s_ : Int × Int, res_ = s_ → W Tryd.prog glP 86 k_ ⟨lkT [(0, .b (.s (.d (.str s)))), (1, .b (.s (.d (.int .i64 low)))), (2, .b (.s (.d (.int .i64 high)))), (8, .b (.s (.d (.int .u64 0)))), (9, .b (.s (.d (.int .u64 s_.1)))), (10, .b (.s (.d (.int .i64 s_.2))))], lkG []⟩ R_), W Tryd.prog glP 86 (.c c51l7 :: .lp c51l7 :: .blk 0 :: k_) ⟨lkT [(0, .b (.s (.d (.str s)))), (1, .b (.s (.d (.int .i64 low)))), (2, .b (.s (.d (.int .i64 high)))), (8, .b (.s (.d (.int .u64 0)))), (9, .b (.s (.d (.int .u64 bit)))), (10, .b (.s (.d (.int .i64 i))))], lkG []⟩ R_ := by
  intro m_; induction m_ with
  | zero => intro bit i res_ h; rw [f_ref08_Field_l7.eq_1] at h; cases h
  | succ m_ ih =>
    intro bit i res_ h k_ hx; rw [f_ref08_Field_l7.eq_2] at h; refine W.cdef c51l7.eq_1 ?_
    refine .seq ?_
    refine .seq ?_
    refine Rw.walk ?_
    simp only [wz, wd, ws, seval, c51r4, semI.eq_10, semI.eq_11, semI.eq_3, semI.eq_5, semI.eq_7, e_consignorref08_P]
    refine .cond (p := (decide (i < low))) (by first | rfl | simp only [wz, wd, ws, seval]) (fun h1 => ?_) (fun h1 => ?_)
    · rw [ite_t h1] at h
      refine .skip ?_
      refine .seq ?_
      refine .blk ?_
      refine Rw.walk ?_
      simp only [wz, wd, ws, seval, c51r6, semI.eq_10, semI.eq_11, semI.eq_3, semI.eq_5, semI.eq_7, e_consignorref08_P]
      refine .eblk ?_
      refine Rw.walk ?_
      simp only [wz, wd, ws, seval, c51r5, semI.eq_10, semI.eq_11, semI.eq_3, semI.eq_5, semI.eq_7, e_consignorref08_P]
      refine .lp ?_
      refine .weak (Imp.co [] _ _ ?_ ?_ ?_ ?_ ?_) (ih (IntKind.u64.wrap (2 * bit)) (IntKind.i64.wrap (i + 1)) _ h k_ hx) <;> simp only [wz, wd, ws, seval, wi, er_nil, e_consignorref08_P]
    · rw [ite_f h1] at h
      refine .exit rfl ?_
      obtain rfl := Option.some.inj h
      refine .weak (Imp.co [] _ _ ?_ ?_ ?_ ?_ ?_) (hx _ rfl) <;> simp only [wz, wd, ws, seval, wi, er_nil, e_consignorref08_P]
theorem f_ref08_Field_l17_ok (s : Str) (low : Int) (high : Int) (s2 : Int × Int) (t : (List Str)) (y_ : Int × Bool) (R_ : St → Prop) (hR : (Ret Tryd.prog glP [] rv51 (.tup [.s (.d (.int .u64 y_.1)), .s (.d (.bool y_.2))])) = R_) : ∀ (m_ : Nat) (v30 : Int) (parts : (List consignorref08_P)) (res_ : (Int × (List consignorref08_P)) ⊕ (Int × Bool)) (h : f_ref08_Field_l17 s low high s2 t m_ v30 parts = some res_) (k_ : List It) (hx : ∀ s_ : Int × (List consignorref08_P), res_ = .inl s_ → W Tryd.prog glP 86 k_ ⟨lkT [(1, .b (.s (.d (.int .i64 low)))), (2, .b (.s (.d (.int .i64 high)))), (8, .b (.s (.d (.int .u64 0)))), (9, .b (.s (.d (.int .u64 s2.1)))), (11, .b (.s (.own 26 s_.2.length))), (28, .b (.s (.own 28 t.length))), (29, .b (.s (.d (.int .i64 (t.length : Int))))), (30, .b (.s (.d (.int .i64 s_.1))))], lkG [(26, ⟨3, er e_consignorref08_P s_.2, false⟩), (28, ⟨1, er eS t, false⟩)]⟩ R_) (hr : ∀ z_ : Int × Bool, res_ = .inr z_ → z_ = y_), W Tryd.prog glP 86 (.c c51l17 :: .lp c51l17 :: .blk 2 :: k_) ⟨lkT [(1, .b (.s (.d (.int .i64 low)))), (2, .b (.s (.d (.int .i64 high)))), (8, .b (.s (.d (.int .u64 0)))), (9, .b (.s (.d (.int .u64 s2.1)))), (11, .b (.s (.own 26 parts.length))), (28, .b (.s (.own 28 t.length))), (29, .b (.s (.d (.int .i64 (t.length : Int))))), (30, .b (.s (.d (.int .i64 v30))))], lkG [(26, ⟨3, er e_consignorref08_P parts, false⟩), (28, ⟨1, er eS t, false⟩)]⟩ R_ := by
  intro m_; induction m_ with
  | zero => intro v30 parts res_ h; rw [f_ref08_Field_l17.eq_1] at h; cases h
  | succ m_ ih =>
    intro v30 parts res_ h k_ hx hr; rw [f_ref08_Field_l17.eq_2] at h; refine W.cdef c51l17.eq_1 ?_
    refine .seq ?_
    refine Rw.walk ?_
    simp only [wz, wd, ws, seval, c51r9, semI.eq_10, semI.eq_11, semI.eq_3, semI.eq_5, semI.eq_7, e_consignorref08_P]
    refine .seq ?_
    refine .cond (p := (decide (v30 < (t.length : Int)))) (by first | rfl | simp only [wz, wd, ws, seval]) (fun h1 => ?_) (fun h1 => ?_)
    · rw [ite_t h1] at h
      refine .skip ?_
      refine .seq ?_
      refine .blk ?_
      refine .seq ?_
      refine Rw.walk ?_
      simp only [wz, wd, ws, seval, c51r10, semI.eq_10, semI.eq_11, semI.eq_3, semI.eq_5, semI.eq_7, e_consignorref08_P]
      obtain ⟨x, e2, h⟩ := Option.bind_eq_some_iff.1 h
      refine Go1.of (sem_iadrO (l := t) e2 (by rfl) (by rfl) (by rfl)) ?_
      simp only [wz, wd, ws, seval, c51r10, semI.eq_10, semI.eq_11, semI.eq_3, semI.eq_5, semI.eq_7, e_consignorref08_P, er_get e2]
      refine .seq ?_
      refine Rw.walk ?_
      simp only [wz, wd, ws, seval, c51r11, semI.eq_10, semI.eq_11, semI.eq_3, semI.eq_5, semI.eq_7, e_consignorref08_P, er_get e2]
      obtain ⟨t2, e3, h⟩ := Option.bind_eq_some_iff.1 h
      refine call_fun [] false ⟨trivial, trivial, trivial, trivial, trivial⟩ rfl ?_ (f_ref08_part_ok _ _ _ _ e3) (fun _ => rfl) (fun i hi => by cases hi) ?_
      · simp only [wz, wd, ws, seval, e_consignorref08_P, er_get e2]
      simp only [wz, wd, ws, seval, c51r11, semI.eq_10, semI.eq_11, semI.eq_3, semI.eq_5, semI.eq_7, e_consignorref08_P, er_get e2]
      refine .seq ?_
      refine .seq ?_
      refine Rw.walk ?_
      simp only [wz, wd, ws, seval, c51r12, semI.eq_10, semI.eq_11, semI.eq_3, semI.eq_5, semI.eq_7, e_consignorref08_P, er_get e2]
      refine .cond (p := (t2.Step == 0)) (by first | rfl | simp only [wz, wd, ws, seval]) (fun h1 => ?_) (fun h1 => ?_)
      · rw [ite_t h1] at h
        refine .seq ?_
        refine Rw.walk ?_
        simp only [wz, wd, ws, seval, c51r13, semI.eq_10, semI.eq_11, semI.eq_3, semI.eq_5, semI.eq_7, e_consignorref08_P, er_get e2]
        obtain rfl := Option.some.inj h; obtain rfl := hr _ rfl
        refine .ret ?_
        rw [← hR]
        simp only [wz, wd, ws, seval, rv51, e_consignorref08_P, er_get e2]
      · rw [ite_f h1] at h
        refine .skip ?_
        refine Rw.walk ?_
        simp only [wz, wd, ws, seval, c51r14, semI.eq_10, semI.eq_11, semI.eq_3, semI.eq_5, semI.eq_7, e_consignorref08_P, er_get e2]
        refine Go1.of (sem_bsl (enc := e_consignorref08_P) (m := ([t2] : List consignorref08_P)) e_consignorref08_P_len (by rfl) (by rfl) (by rfl) ⟨trivial, trivial⟩) ?_
        simp only [wz, wd, ws, seval, c51r14, semI.eq_10, semI.eq_11, semI.eq_3, semI.eq_5, semI.eq_7, e_consignorref08_P, er_get e2]
        obtain ⟨g4, h⟩ := gd_iff.1 h
        refine Go1.of (sem_app (enc := e_consignorref08_P) (l := parts) (m := ([t2] : List consignorref08_P)) e_consignorref08_P_len (by rfl) (by rfl) (newV_own (m := ([t2] : List consignorref08_P)) (by rfl) (by rfl))) ?_
        simp only [wz, wd, ws, seval, c51r14, semI.eq_10, semI.eq_11, semI.eq_3, semI.eq_5, semI.eq_7, e_consignorref08_P, er_get e2]
        repeat (refine And.intro ?_ ?_; · first | omega | (simp only [List.length_append, List.length_cons, List.length_nil] at *; omega) | (simp only [List.map_cons, List.map_nil] at *; omega) | (intro q; simp only [wz, wd, ws, seval, q]; done))
        refine .eblk ?_
        refine Rw.walk ?_
        simp only [wz, wd, ws, seval, c51r15, semI.eq_10, semI.eq_11, semI.eq_3, semI.eq_5, semI.eq_7, e_consignorref08_P, er_get e2]
        refine .lp ?_
        refine .weak (Imp.co [] _ _ ?_ ?_ ?_ ?_ ?_) (ih (IntKind.i64.wrap (v30 + 1)) (parts ++ ([t2] : List consignorref08_P)) _ h k_ hx hr) <;> simp only [wz, wd, ws, seval, wi, er_nil, e_consignorref08_P]
    · rw [ite_f h1] at h
      refine .exit rfl ?_
      obtain rfl := Option.some.inj h
      refine .weak (Imp.co [] _ _ ?_ ?_ ?_ ?_ ?_) (hx _ rfl) <;> simp only [wz, wd, ws, seval, wi, er_nil, e_consignorref08_P]
theorem f_ref08_Field_l27_ok (s : Str) (high : Int) (s4 : Int × (List consignorref08_P)) (n : Int) (bit : Int) (v : Int) (y_ : Int × Bool) (R_ : St → Prop) (hR : (Ret Tryd.prog glP [] rv51 (.tup [.s (.d (.int .u64 y_.1)), .s (.d (.bool y_.2))])) = R_) : ∀ (m_ : Nat) (is : Bool) (v54 : Int) (res_ : Bool × Int) (h : f_ref08_Field_l27 s high s4 n bit v m_ is v54 = some res_) (k_ : List It) (hx : ∀ s_ : Bool × Int, res_ = s_ → W Tryd.prog glP 86 k_ ⟨lkT [(2, .b (.s (.d (.int .i64 high)))), (8, .b (.s (.d (.int .u64 n)))), (9, .b (.s (.d (.int .u64 bit)))), (11, .b (.s (.own 26 s4.2.length))), (15, .b (.s (.d (.int .i64 v)))), (16, .b (.s (.d (.bool s_.1)))), (52, .b (.s (.own 26 s4.2.length))), (53, .b (.s (.d (.int .i64 (s4.2.length : Int))))), (54, .b (.s (.d (.int .i64 s_.2))))], lkG [(26, ⟨3, er e_consignorref08_P s4.2, false⟩)]⟩ R_), W Tryd.prog glP 86 (.c c51l27 :: .lp c51l27 :: .blk 6 :: k_) ⟨lkT [(2, .b (.s (.d (.int .i64 high)))), (8, .b (.s (.d (.int .u64 n)))), (9, .b (.s (.d (.int .u64 bit)))), (11, .b (.s (.own 26 s4.2.length))), (15, .b (.s (.d (.int .i64 v)))), (16, .b (.s (.d (.bool is)))), (52, .b (.s (.own 26 s4.2.length))), (53, .b (.s (.d (.int .i64 (s4.2.length : Int))))), (54, .b (.s (.d (.int .i64 v54))))], lkG [(26, ⟨3, er e_consignorref08_P s4.2, false⟩)]⟩ R_ := by
  intro m_; induction m_ with
  | zero => intro is v54 res_ h; rw [f_ref08_Field_l27.eq_1] at h; cases h
  | succ m_ ih =>
    intro is v54 res_ h k_ hx; rw [f_ref08_Field_l27.eq_2] at h; refine W.cdef c51l27.eq_1 ?_
    refine .seq ?_
    refine Rw.walk ?_
    simp only [wz, wd, ws, seval, c51r21, semI.eq_10, semI.eq_11, semI.eq_3, semI.eq_5, semI.eq_7, e_consignorref08_P]
    refine .seq ?_
    refine .cond (p := (decide (v54 < (s4.2.length : Int)))) (by first | rfl | simp only [wz, wd, ws, seval]) (fun h1 => ?_) (fun h1 => ?_)
    · rw [ite_t h1] at h
      refine .skip ?_
      refine .seq ?_
      refine .blk ?_
      refine .seq ?_
      refine Rw.walk ?_
      simp only [wz, wd, ws, seval, c51r22, semI.eq_3, semI.eq_5, semI.eq_7, e_consignorref08_P]
      obtain ⟨x, e5, h⟩ := Option.bind_eq_some_iff.1 h
      refine Go1.of (sem_iadrO (l := s4.2) e5 (by rfl) (by rfl) (by rfl)) ?_
      simp only [wz, wd, ws, seval, c51r22, semI.eq_3, semI.eq_5, semI.eq_7, e_consignorref08_P, er_get e5]
      refine Go1.of (semI.eq_10 ..) ?_
      simp only [wz, wd, ws, seval, c51r22, semI.eq_3, semI.eq_5, semI.eq_7, e_consignorref08_P, er_get e5]
      refine Go1.of (semI.eq_11 ..) ?_
      simp only [wz, wd, ws, seval, c51r22, semI.eq_3, semI.eq_5, semI.eq_7, e_consignorref08_P, er_get e5]
      refine .seq ?_
      refine Rw.walk ?_
      simp only [wz, wd, ws, seval, c51r23, semI.eq_10, semI.eq_11, semI.eq_3, semI.eq_5, semI.eq_7, e_consignorref08_P, er_get e5]
      refine call_alt (v := .b (.s (.d (.int .i64 x.High)))) rfl rfl (by simp only [wz, wd, ws, seval]) (fun q => ⟨_, by simp only [wz, wd, ws, seval, semI.eq_10, e_consignorref08_P, er_get e5], trivial⟩) ?_
      simp only [wz, wd, ws, seval, c51r23, semI.eq_10, semI.eq_11, semI.eq_3, semI.eq_5, semI.eq_7, e_consignorref08_P, er_get e5]
      repeat (refine And.intro ?_ ?_; · first | omega | (simp only [List.length_append, List.length_cons, List.length_nil] at *; omega) | (simp only [List.map_cons, List.map_nil] at *; omega) | (intro q; simp only [wz, wd, ws, seval, q]; done))
      refine call_alt (v := .b (.s (.d (.int .i64 x.Low)))) rfl rfl (by simp only [wz, wd, ws, seval]) (fun q => ⟨_, by simp only [wz, wd, ws, seval, semI.eq_10, e_consignorref08_P, er_get e5], trivial⟩) ?_
      simp only [wz, wd, ws, seval, c51r23, semI.eq_10, semI.eq_11, semI.eq_3, semI.eq_5, semI.eq_7, e_consignorref08_P, er_get e5]
      refine call_alt (v := .b (.s (.d (.int .i64 x.Step)))) rfl rfl (by simp only [wz, wd, ws, seval]) (fun q => ⟨_, by simp only [wz, wd, ws, seval, semI.eq_10, e_consignorref08_P, er_get e5], trivial⟩) ?_
      simp only [wz, wd, ws, seval, c51r23, semI.eq_10, semI.eq_11, semI.eq_3, semI.eq_5, semI.eq_7, e_consignorref08_P, er_get e5]
      obtain ⟨g6, h⟩ := gd_iff.1 h
      repeat (refine And.intro ?_ ?_; · first | omega | exact g6 | (intro q; first | omega | (have q2 := g6 (by simpa using q); omega) | (have q2 := g6 q; omega) | (have q2 := g6 (by rw [q]; rfl); omega) | (have q2 := g6 (by simpa using q); simp only [List.length_append, List.length_cons, List.length_nil] at q2 ⊢; omega)) | (simp only [List.length_append, List.length_cons, List.length_nil] at *; omega) | (simp only [List.map_cons, List.map_nil] at *; omega) | (intro q; simp only [wz, wd, ws, seval, q]; done))
      refine .cond (p := (((decide (v ≥ x.Low)) && (decide (v ≤ x.High))) && (((IntKind.i64.wrap (v - x.Low)).tmod x.Step) == 0))) (by first | rfl | simp only [wz, wd, ws, seval]) (fun h1 => ?_) (fun h1 => ?_)
      · rw [ite_t h1] at h
        refine Rw.walk ?_
        simp only [wz, wd, ws, seval, c51r24, semI.eq_10, semI.eq_11, semI.eq_3, semI.eq_5, semI.eq_7, e_consignorref08_P, er_get e5]
        refine .eblk ?_
        refine Rw.walk ?_
        simp only [wz, wd, ws, seval, c51r25, semI.eq_10, semI.eq_11, semI.eq_3, semI.eq_5, semI.eq_7, e_consignorref08_P, er_get e5]
        refine .lp ?_
        refine .weak (Imp.co [] _ _ ?_ ?_ ?_ ?_ ?_) (ih true (IntKind.i64.wrap (v54 + 1)) _ h k_ hx) <;> simp only [wz, wd, ws, seval, wi, er_nil, e_consignorref08_P]
      · rw [ite_f h1] at h
        refine .skip ?_
        refine .eblk ?_
        refine Rw.walk ?_
        simp only [wz, wd, ws, seval, c51r25, semI.eq_10, semI.eq_11, semI.eq_3, semI.eq_5, semI.eq_7, e_consignorref08_P, er_get e5]
        refine .lp ?_
        refine .weak (Imp.co [] _ _ ?_ ?_ ?_ ?_ ?_) (ih is (IntKind.i64.wrap (v54 + 1)) _ h k_ hx) <;> simp only [wz, wd, ws, seval, wi, er_nil, e_consignorref08_P]
    · rw [ite_f h1] at h
      refine .exit rfl ?_
      obtain rfl := Option.some.inj h
      refine .weak (Imp.co [] _ _ ?_ ?_ ?_ ?_ ?_) (hx _ rfl) <;> simp only [wz, wd, ws, seval, wi, er_nil, e_consignorref08_P]
theorem f_ref08_Field_l32_ok (s : Str) (high : Int) (s4 : Int × (List consignorref08_P)) (y_ : Int × Bool) (R_ : St → Prop) (hR : (Ret Tryd.prog glP [] rv51 (.tup [.s (.d (.int .u64 y_.1)), .s (.d (.bool y_.2))])) = R_) : ∀ (m_ : Nat) (n : Int) (bit : Int) (v : Int) (res_ : Int × Int × Int) (h : f_ref08_Field_l32 s high s4 m_ n bit v = some res_) (k_ : List It) (hx : ∀ s_ : Int × Int × Int, res_ = s_ → W Tryd.prog glP 86 k_ ⟨lkT [(2, .b (.s (.d (.int .i64 high)))), (8, .b (.s (.d (.int .u64 s_.1)))), (9, .b (.s (.d (.int .u64 s_.2.1)))), (11, .b (.s (.own 26 s4.2.length))), (15, .b (.s (.d (.int .i64 s_.2.2))))], lkG [(26, ⟨3, er e_consignorref08_P s4.2, false⟩)]⟩ R_), W Tryd.prog glP 86 (.c c51l32 :: .lp c51l32 :: .blk 4 :: k_) ⟨lkT [(2, .b (.s (.d (.int .i64 high)))), (8, .b (.s (.d (.int .u64 n)))), (9, .b (.s (.d (.int .u64 bit)))), (11, .b (.s (.own 26 s4.2.length))), (15, .b (.s (.d (.int .i64 v))))], lkG [(26, ⟨3, er e_consignorref08_P s4.2, false⟩)]⟩ R_ := by
  intro m_; induction m_ with
  | zero => intro n bit v res_ h; rw [f_ref08_Field_l32.eq_1] at h; cases h
  | succ m_ ih =>
    intro n bit v res_ h k_ hx; rw [f_ref08_Field_l32.eq_2] at h; refine W.cdef c51l32.eq_1 ?_
    refine .seq ?_
    refine .seq ?_
    refine Rw.walk ?_
    simp only [wz, wd, ws, seval, c51r17, semI.eq_10, semI.eq_11, semI.eq_3, semI.eq_5, semI.eq_7, e_consignorref08_P]
    refine .cond (p := (decide (v ≤ high))) (by first | rfl | simp only [wz, wd, ws, seval]) (fun h1 => ?_) (fun h1 => ?_)
    · rw [ite_t h1] at h
      refine .skip ?_
      refine .seq ?_
      refine .blk ?_
      refine .seq ?_
      refine Rw.walk ?_
      simp only [wz, wd, ws, seval, c51r19, semI.eq_10, semI.eq_11, semI.eq_3, semI.eq_5, semI.eq_7, e_consignorref08_P]
      refine .seq ?_
      refine .seq ?_
      refine Rw.walk ?_
      simp only [wz, wd, ws, seval, c51r20, semI.eq_10, semI.eq_11, semI.eq_3, semI.eq_5, semI.eq_7, e_consignorref08_P]
      refine .blk ?_
      obtain ⟨s3, hf, h⟩ := Option.bind_eq_some_iff.1 h
      refine .loop (.weak (Imp.co [] _ _ ?c1 ?c2 ?c3 ?c4 ?c5) (f_ref08_Field_l27_ok s high s4 n bit v _ _ hR _ _ _ _ hf _ ?_))
      case c1 | c2 | c3 | c4 | c5 => simp only [wz, wd, ws, seval, wi, er_nil, e_consignorref08_P]
      · intro s3_ hs; subst hs
        refine .seq ?_
        refine .seq ?_
        refine Rw.walk ?_
        simp only [wz, wd, ws, seval, c51r26, semI.eq_10, semI.eq_11, semI.eq_3, semI.eq_5, semI.eq_7, e_consignorref08_P]
        refine .cond (p := s3.1) (by first | rfl | simp only [wz, wd, ws, seval]) (fun h1 => ?_) (fun h1 => ?_)
        · rw [ite_t h1] at h
          refine Rw.walk ?_
          simp only [wz, wd, ws, seval, c51r27, semI.eq_10, semI.eq_11, semI.eq_3, semI.eq_5, semI.eq_7, e_consignorref08_P]
          refine Rw.walk ?_
          simp only [wz, wd, ws, seval, c51r28, semI.eq_10, semI.eq_11, semI.eq_3, semI.eq_5, semI.eq_7, e_consignorref08_P]
          refine .eblk ?_
          refine Rw.walk ?_
          simp only [wz, wd, ws, seval, c51r18, semI.eq_10, semI.eq_11, semI.eq_3, semI.eq_5, semI.eq_7, e_consignorref08_P]
          refine .lp ?_
          refine .weak (Imp.co [] _ _ ?_ ?_ ?_ ?_ ?_) (ih (IntKind.u64.wrap (n + bit)) (IntKind.u64.wrap (2 * bit)) (IntKind.i64.wrap (v + 1)) _ h k_ hx) <;> simp only [wz, wd, ws, seval, wi, er_nil, e_consignorref08_P]
        · rw [ite_f h1] at h
          refine .skip ?_
          refine Rw.walk ?_
          simp only [wz, wd, ws, seval, c51r28, semI.eq_10, semI.eq_11, semI.eq_3, semI.eq_5, semI.eq_7, e_consignorref08_P]
          refine .eblk ?_
          refine Rw.walk ?_
          simp only [wz, wd, ws, seval, c51r18, semI.eq_10, semI.eq_11, semI.eq_3, semI.eq_5, semI.eq_7, e_consignorref08_P]
          refine .lp ?_
          refine .weak (Imp.co [] _ _ ?_ ?_ ?_ ?_ ?_) (ih n (IntKind.u64.wrap (2 * bit)) (IntKind.i64.wrap (v + 1)) _ h k_ hx) <;> simp only [wz, wd, ws, seval, wi, er_nil, e_consignorref08_P]
    · rw [ite_f h1] at h
      refine .exit rfl ?_
      obtain rfl := Option.some.inj h
      refine .weak (Imp.co [] _ _ ?_ ?_ ?_ ?_ ?_) (hx _ rfl) <;> simp only [wz, wd, ws, seval, wi, er_nil, e_consignorref08_P]
theorem f_ref08_Field_ok (s : Str) (low : Int) (high : Int) (y_ : Int × Bool) (h : f_ref08_Field s low high = some y_) : Fun Tryd.prog glP 51 [.b (.s (.d (.str s))), .b (.s (.d (.int .i64 low))), .b (.s (.d (.int .i64 high)))] (.tup [.s (.d (.int .u64 y_.1)), .s (.d (.bool y_.2))]) := by
  refine fun_walk [] Tryd.func51 Tryd.ntmps51 cc51 cr51 (by kernel_rfl) (by simp only [List.length_cons, List.length_nil]; decide) ?_
  generalize hR : Ret _ _ _ _ _ = R_
  simp only [wz, wd, ws, seval, e_consignorref08_P]
  unfold f_ref08_Field at h; unfold c51
  refine .seq ?_
  refine Rw.walk ?_
  simp only [wz, wd, ws, seval, c51r0, semI.eq_10, semI.eq_11, semI.eq_3, semI.eq_5, semI.eq_7, e_consignorref08_P]
  refine .seq ?_
  refine Rw.walk ?_
  simp only [wz, wd, ws, seval, c51r1, semI.eq_10, semI.eq_11, semI.eq_3, semI.eq_5, semI.eq_7, e_consignorref08_P]
  refine .seq ?_
  refine Rw.walk ?_
  simp only [wz, wd, ws, seval, c51r2, semI.eq_10, semI.eq_11, semI.eq_3, semI.eq_5, semI.eq_7, e_consignorref08_P]
  refine .seq ?_
  refine .seq ?_
  refine Rw.walk ?_
  simp only [wz, wd, ws, seval, c51r3, semI.eq_10, semI.eq_11, semI.eq_3, semI.eq_5, semI.eq_7, e_consignorref08_P]
  refine .blk ?_
  obtain ⟨s2, hf, h⟩ := Option.bind_eq_some_iff.1 h
  refine .loop (.weak (Imp.co [] _ _ ?c1 ?c2 ?c3 ?c4 ?c5) (f_ref08_Field_l7_ok s low high _ _ hR _ _ _ _ hf _ ?_))
  case c1 | c2 | c3 | c4 | c5 => simp only [wz, wd, ws, seval, wi, er_nil, e_consignorref08_P]
  · intro s2_ hs; subst hs
    refine .seq ?_
    refine Rw.walk ?_
    simp only [wz, wd, ws, seval, c51r7, semI.eq_10, semI.eq_11, semI.eq_3, semI.eq_5, semI.eq_7, e_consignorref08_P]
    refine Go1.of (sem_bsl (enc := e_consignorref08_P) (m := ([] : List consignorref08_P)) e_consignorref08_P_len (by rfl) (by rfl) (by rfl) trivial) ?_
    simp only [wz, wd, ws, seval, c51r7, semI.eq_10, semI.eq_11, semI.eq_3, semI.eq_5, semI.eq_7, e_consignorref08_P]
    refine .seq ?_
    refine .seq ?_
    refine Rw.walk ?_
    simp only [wz, wd, ws, seval, c51r8, semI.eq_10, semI.eq_11, semI.eq_3, semI.eq_5, semI.eq_7, e_consignorref08_P]
    obtain ⟨t, e1, h⟩ := Option.bind_eq_some_iff.1 h
    refine call_funO' [] ⟨trivial, trivial, trivial, trivial⟩ rfl ?_ (f_ref03_Split_ok _ _ _ e1) rfl (.inl rfl) ?_
    · simp only [wz, wd, ws, seval, e_consignorref08_P]
    simp only [wz, wd, ws, seval, c51r8, semI.eq_10, semI.eq_11, semI.eq_3, semI.eq_5, semI.eq_7, e_consignorref08_P]
    refine .blk ?_
    obtain ⟨s3, hf, h⟩ := Option.bind_eq_some_iff.1 h
    refine .loop (.weak (Imp.co [] _ _ ?c1 ?c2 ?c3 ?c4 ?c5) (f_ref08_Field_l17_ok s low high s2 t _ _ hR _ _ _ _ hf _ ?_ ?_))
    case c1 | c2 | c3 | c4 | c5 => simp only [wz, wd, ws, seval, wi, er_nil, e_consignorref08_P]
    · intro s4 hs; subst hs; dsimp only at h
      refine .seq ?_
      refine .seq ?_
      refine Rw.walk ?_
      simp only [wz, wd, ws, seval, c51r16, semI.eq_10, semI.eq_11, semI.eq_3, semI.eq_5, semI.eq_7, e_consignorref08_P]
      refine .blk ?_
      obtain ⟨s3, hf, h⟩ := Option.bind_eq_some_iff.1 h
      refine .loop (.weak (Imp.co [] _ _ ?c1 ?c2 ?c3 ?c4 ?c5) (f_ref08_Field_l32_ok s high s4 _ _ hR _ _ _ _ _ hf _ ?_))
      case c1 | c2 | c3 | c4 | c5 => simp only [wz, wd, ws, seval, wi, er_nil, e_consignorref08_P]
      · intro s3_ hs; subst hs
        refine .seq ?_
        refine Rw.walk ?_
        simp only [wz, wd, ws, seval, c51r29, semI.eq_10, semI.eq_11, semI.eq_3, semI.eq_5, semI.eq_7, e_consignorref08_P]
        obtain rfl := Option.some.inj h
        refine .ret ?_
        rw [← hR]
        simp only [wz, wd, ws, seval, rv51, e_consignorref08_P]
    · intro z hz; subst hz; dsimp only at h
      exact Option.some.inj h
-- 24 consignor/consignorref08.Parse
def c24r0 : List Opn := [
  ⟨(some 2), none, .new [(.d (.int .u64 0)), (.d (.int .u64 0)), (.d (.int .u64 0)), (.d (.int .u64 0)), (.d (.int .u64 0)), (.d (.bool false)), (.d (.bool false))]⟩, 
  ⟨(some 3), none, .mv (.c (.s (.d (.bool false))))⟩]
def c24r1 : List Opn := [
  ⟨(some 16), none, .mv (.t 0)⟩, 
  ⟨(some 17), none, .call (.fn 50) [(.t 16), (.c (.s (.d (.int .u8 32))))]⟩, 
  ⟨(some 4), none, .mv (.t 17)⟩]
def c24r2 : List Opn := [
  ⟨(some 18), none, .build [(.d (.int .u64 0)), (.d (.int .u64 0)), (.d (.int .u64 0)), (.d (.int .u64 0)), (.d (.int .u64 0)), (.d (.bool false)), (.d (.bool false))] []⟩, 
  ⟨(some 5), none, .new [(.d (.int .u64 0)), (.d (.int .u64 0)), (.d (.int .u64 0)), (.d (.int .u64 0)), (.d (.int .u64 0)), (.d (.bool false)), (.d (.bool false))]⟩, 
  ⟨none, none, .store 7 (.t 5) (.t 18)⟩]
def c24r3 : List Opn := [
  ⟨(some 19), none, .mv (.t 0)⟩, 
  ⟨(some 20), none, .len .str (.t 19)⟩, 
  ⟨(some 21), none, .bin .gtr (.t 20) (.c (.s (.d (.int .i64 200))))⟩, 
  ⟨(some 22), none, .mv (.t 21)⟩, 
  ⟨(some 23), some (22, false), .mv (.t 4)⟩, 
  ⟨(some 24), some (22, false), .len (.sl 0) (.t 23)⟩, 
  ⟨(some 25), some (22, false), .bin .neq (.t 24) (.c (.s (.d (.int .i64 5))))⟩, 
  ⟨(some 26), none, .pick (.t 22) (.c (.s (.d (.bool true)))) (.t 25)⟩]
def c24r4 : List Opn := [
  ⟨(some 27), none, .load true 7 (.t 5)⟩, 
  ⟨none, none, .store 7 (.t 2) (.t 27)⟩, 
  ⟨(some 3), none, .mv (.c (.s (.d (.bool false))))⟩]
def c24r5 : List Opn := [
  ⟨(some 29), none, .mv (.t 4)⟩, 
  ⟨(some 30), none, .iadr (.sl 1) (.t 29) (.c (.s (.d (.int .i64 0))))⟩, 
  ⟨(some 31), none, .load false 1 (.t 30)⟩, 
  ⟨(some 32), none, .call (.fn 51) [(.t 31), (.c (.s (.d (.int .i64 0)))), (.c (.s (.d (.int .i64 59))))]⟩, 
  ⟨(some 28), none, .mv (.t 32)⟩, 
  ⟨(some 33), none, .ext (.t 28) 0⟩, 
  ⟨(some 34), none, .ext (.t 28) 1⟩, 
  ⟨(some 6), none, .mv (.t 33)⟩, 
  ⟨(some 7), none, .mv (.t 34)⟩]
def c24r6 : List Opn := [
  ⟨(some 36), none, .mv (.t 4)⟩, 
  ⟨(some 37), none, .iadr (.sl 1) (.t 36) (.c (.s (.d (.int .i64 1))))⟩, 
  ⟨(some 38), none, .load false 1 (.t 37)⟩, 
  ⟨(some 39), none, .call (.fn 51) [(.t 38), (.c (.s (.d (.int .i64 0)))), (.c (.s (.d (.int .i64 23))))]⟩, 
  ⟨(some 35), none, .mv (.t 39)⟩, 
  ⟨(some 40), none, .ext (.t 35) 0⟩, 
  ⟨(some 41), none, .ext (.t 35) 1⟩, 
  ⟨(some 8), none, .mv (.t 40)⟩, 
  ⟨(some 9), none, .mv (.t 41)⟩]
def c24r7 : List Opn := [
  ⟨(some 43), none, .mv (.t 4)⟩, 
  ⟨(some 44), none, .iadr (.sl 1) (.t 43) (.c (.s (.d (.int .i64 2))))⟩, 
  ⟨(some 45), none, .load false 1 (.t 44)⟩, 
  ⟨(some 46), none, .call (.fn 51) [(.t 45), (.c (.s (.d (.int .i64 1)))), (.c (.s (.d (.int .i64 31))))]⟩, 
  ⟨(some 42), none, .mv (.t 46)⟩, 
  ⟨(some 47), none, .ext (.t 42) 0⟩, 
  ⟨(some 48), none, .ext (.t 42) 1⟩, 
  ⟨(some 10), none, .mv (.t 47)⟩, 
  ⟨(some 11), none, .mv (.t 48)⟩]
def c24r8 : List Opn := [
  ⟨(some 50), none, .mv (.t 4)⟩, 
  ⟨(some 51), none, .iadr (.sl 1) (.t 50) (.c (.s (.d (.int .i64 3))))⟩, 
  ⟨(some 52), none, .load false 1 (.t 51)⟩, 
  ⟨(some 53), none, .call (.fn 51) [(.t 52), (.c (.s (.d (.int .i64 1)))), (.c (.s (.d (.int .i64 12))))]⟩, 
  ⟨(some 49), none, .mv (.t 53)⟩, 
  ⟨(some 54), none, .ext (.t 49) 0⟩, 
  ⟨(some 55), none, .ext (.t 49) 1⟩, 
  ⟨(some 12), none, .mv (.t 54)⟩, 
  ⟨(some 13), none, .mv (.t 55)⟩]
def c24r9 : List Opn := [
  ⟨(some 57), none, .mv (.t 4)⟩, 
  ⟨(some 58), none, .iadr (.sl 1) (.t 57) (.c (.s (.d (.int .i64 4))))⟩, 
  ⟨(some 59), none, .load false 1 (.t 58)⟩, 
  ⟨(some 60), none, .call (.fn 51) [(.t 59), (.c (.s (.d (.int .i64 0)))), (.c (.s (.d (.int .i64 6))))]⟩, 
  ⟨(some 56), none, .mv (.t 60)⟩, 
  ⟨(some 61), none, .ext (.t 56) 0⟩, 
  ⟨(some 62), none, .ext (.t 56) 1⟩, 
  ⟨(some 14), none, .mv (.t 61)⟩, 
  ⟨(some 15), none, .mv (.t 62)⟩]
def c24r10 : List Opn := [
  ⟨(some 63), none, .mv (.t 7)⟩, 
  ⟨(some 64), none, .un .not (.t 63)⟩, 
  ⟨(some 65), none, .mv (.t 64)⟩, 
  ⟨(some 66), some (65, false), .mv (.t 9)⟩, 
  ⟨(some 67), some (65, false), .un .not (.t 66)⟩, 
  ⟨(some 68), none, .pick (.t 65) (.c (.s (.d (.bool true)))) (.t 67)⟩, 
  ⟨(some 69), none, .mv (.t 68)⟩, 
  ⟨(some 70), some (69, false), .mv (.t 11)⟩, 
  ⟨(some 71), some (69, false), .un .not (.t 70)⟩, 
  ⟨(some 72), none, .pick (.t 69) (.c (.s (.d (.bool true)))) (.t 71)⟩, 
  ⟨(some 73), none, .mv (.t 72)⟩, 
  ⟨(some 74), some (73, false), .mv (.t 13)⟩, 
  ⟨(some 75), some (73, false), .un .not (.t 74)⟩, 
  ⟨(some 76), none, .pick (.t 73) (.c (.s (.d (.bool true)))) (.t 75)⟩, 
  ⟨(some 77), none, .mv (.t 76)⟩, 
  ⟨(some 78), some (77, false), .mv (.t 15)⟩, 
  ⟨(some 79), some (77, false), .un .not (.t 78)⟩, 
  ⟨(some 80), none, .pick (.t 77) (.c (.s (.d (.bool true)))) (.t 79)⟩]
def c24r11 : List Opn := [
  ⟨(some 81), none, .load true 7 (.t 5)⟩, 
  ⟨none, none, .store 7 (.t 2) (.t 81)⟩, 
  ⟨(some 3), none, .mv (.c (.s (.d (.bool false))))⟩]
def c24r12 : List Opn := [
  ⟨(some 82), none, .mv (.t 6)⟩, 
  ⟨(some 83), none, .mv (.t 8)⟩, 
  ⟨(some 84), none, .mv (.t 10)⟩, 
  ⟨(some 85), none, .mv (.t 12)⟩, 
  ⟨(some 86), none, .mv (.t 14)⟩, 
  ⟨(some 87), none, .mv (.t 4)⟩, 
  ⟨(some 88), none, .iadr (.sl 1) (.t 87) (.c (.s (.d (.int .i64 2))))⟩, 
  ⟨(some 89), none, .load false 1 (.t 88)⟩, 
  ⟨(some 90), none, .bin .eql (.t 89) (.c (.s (.d (.str [42]))))⟩, 
  ⟨(some 91), none, .mv (.t 4)⟩, 
  ⟨(some 92), none, .iadr (.sl 1) (.t 91) (.c (.s (.d (.int .i64 4))))⟩, 
  ⟨(some 93), none, .load false 1 (.t 92)⟩, 
  ⟨(some 94), none, .bin .eql (.t 93) (.c (.s (.d (.str [42]))))⟩, 
  ⟨(some 95), none, .build [(.d (.int .u64 0)), (.d (.int .u64 0)), (.d (.int .u64 0)), (.d (.int .u64 0)), (.d (.int .u64 0)), (.d (.bool false)), (.d (.bool false))] [(0, 1, (.t 82)), (1, 1, (.t 83)), (2, 1, (.t 84)), (3, 1, (.t 85)), (4, 1, (.t 86)), (5, 1, (.t 90)), (6, 1, (.t 94))]⟩, 
  ⟨none, none, .store 7 (.t 2) (.t 95)⟩, 
  ⟨(some 3), none, .mv (.c (.s (.d (.bool true))))⟩]
def c24 : C := .seq (.reg c24r0 none [0, 2]) (.seq (.reg c24r1 none [0, 2, 4]) (.seq (.reg c24r2 none [0, 2, 4, 5]) (.seq (.seq (.reg c24r3 none [2, 4, 5, 26]) (.cond (.t 26) (.seq (.reg c24r4 none [2, 3]) (.ret)) (.skip))) (.seq (.reg c24r5 none [2, 4, 5, 6, 7]) (.seq (.reg c24r6 none [2, 4, 5, 6, 7, 8, 9]) (.seq (.reg c24r7 none [2, 4, 5, 6, 7, 8, 9, 10, 11]) (.seq (.reg c24r8 none [2, 4, 5, 6, 7, 8, 9, 10, 11, 12, 13]) (.seq (.reg c24r9 none [2, 4, 5, 6, 7, 8, 9, 10, 11, 12, 13, 14, 15]) (.seq (.seq (.reg c24r10 none [2, 4, 5, 6, 8, 10, 12, 14, 80]) (.cond (.t 80) (.seq (.reg c24r11 none [2, 3]) (.ret)) (.skip))) (.seq (.reg c24r12 (some [0, 0, 0, 0, 0, 0, 32, 96, 224, 0, 512, 1536, 3584, 8191, 16383, 32767]) [2, 3]) (.ret)))))))))))
def k24 : List (Nat × List Nat) := [(12, [2, 3]), (11, [2, 3]), (10, [2, 4, 5, 6, 8, 10, 12, 14, 80]), (9, [2, 4, 5, 6, 7, 8, 9, 10, 11, 12, 13, 14, 15]), (8, [2, 4, 5, 6, 7, 8, 9, 10, 11, 12, 13]), (7, [2, 4, 5, 6, 7, 8, 9, 10, 11]), (6, [2, 4, 5, 6, 7, 8, 9]), (5, [2, 4, 5, 6, 7]), (4, [2, 3]), (3, [2, 4, 5, 26]), (2, [0, 2, 4, 5]), (1, [0, 2, 4]), (0, [0, 2])]
theorem cc24 : (Tryd.f24.body).bind (cC Tryd.prog 96 k24) = some c24 := by kernel_rfl
def rv24 : List RV := [.c 2 true 7, .t 3]
theorem cr24 : cRVs Tryd.prog Tryd.f24.results.toList = some rv24 := by kernel_rfl
theorem f_ref08_Parse_ok (s : Str) (y_ : api_Cron × Bool) (h : f_ref08_Parse s = some y_) : Fun Tryd.prog glP 24 [.b (.s (.d (.str s)))] (.tup [.agg ((e_api_Cron y_.1).map Lc.d), .s (.d (.bool y_.2))]) := by
  refine fun_walk [] Tryd.func24 Tryd.ntmps24 cc24 cr24 (by kernel_rfl) (by simp only [List.length_cons, List.length_nil]; decide) ?_
  generalize hR : Ret _ _ _ _ _ = R_
  simp only [wz, wd, ws, seval, e_api_Cron]
  unfold f_ref08_Parse at h; unfold c24
  refine .seq ?_
  refine Rw.walk ?_
  simp only [wz, wd, ws, seval, c24r0, semI.eq_10, semI.eq_11, semI.eq_3, semI.eq_5, semI.eq_7, e_api_Cron]
  refine .seq ?_
  refine Rw.walk ?_
  simp only [wz, wd, ws, seval, c24r1, semI.eq_10, semI.eq_11, semI.eq_3, semI.eq_5, semI.eq_7, e_api_Cron]
  obtain ⟨t, e1, h⟩ := Option.bind_eq_some_iff.1 h
  refine call_funO' [] ⟨trivial, trivial, trivial, trivial⟩ rfl ?_ (f_ref03_Split_ok _ _ _ e1) rfl (.inl rfl) ?_
  · simp only [wz, wd, ws, seval, e_api_Cron]
  simp only [wz, wd, ws, seval, c24r1, semI.eq_10, semI.eq_11, semI.eq_3, semI.eq_5, semI.eq_7, e_api_Cron]
  refine .seq ?_
  refine Rw.walk ?_
  simp only [wz, wd, ws, seval, c24r2, semI.eq_10, semI.eq_11, semI.eq_3, semI.eq_5, semI.eq_7, e_api_Cron]
  refine .seq ?_
  refine .seq ?_
  refine Rw.walk ?_
  simp only [wz, wd, ws, seval, c24r3, semI.eq_10, semI.eq_11, semI.eq_3, semI.eq_5, semI.eq_7, e_api_Cron]
  repeat (refine And.intro ?_ ?_; · first | omega | (simp only [List.length_append, List.length_cons, List.length_nil] at *; omega) | (simp only [List.map_cons, List.map_nil] at *; omega) | (intro q; simp only [wz, wd, ws, seval, q]; done))
  refine .cond (p := ((decide ((s.length : Int) > 200)) || ((t.length : Int) != 5))) (by first | rfl | simp only [wz, wd, ws, seval]) (fun h1 => ?_) (fun h1 => ?_)
  · rw [ite_t h1] at h
    refine .seq ?_
    refine Rw.walk ?_
    simp only [wz, wd, ws, seval, c24r4, semI.eq_10, semI.eq_11, semI.eq_3, semI.eq_5, semI.eq_7, e_api_Cron]
    obtain rfl := Option.some.inj h
    refine .ret ?_
    rw [← hR]
    simp only [wz, wd, ws, seval, rv24, semI.eq_10, e_api_Cron]
  · rw [ite_f h1] at h
    refine .skip ?_
    refine .seq ?_
    refine Rw.walk ?_
    simp only [wz, wd, ws, seval, c24r5, semI.eq_10, semI.eq_11, semI.eq_3, semI.eq_5, semI.eq_7, e_api_Cron]
    obtain ⟨x, e2, h⟩ := Option.bind_eq_some_iff.1 h
    refine Go1.of (sem_iadrO (l := t) e2 (by rfl) (by rfl) (by rfl)) ?_
    simp only [wz, wd, ws, seval, c24r5, semI.eq_10, semI.eq_11, semI.eq_3, semI.eq_5, semI.eq_7, e_api_Cron, er_getN (i := 0) e2]
    obtain ⟨t2, e3, h⟩ := Option.bind_eq_some_iff.1 h
    refine call_fun [] false ⟨trivial, trivial, trivial, trivial, trivial⟩ rfl ?_ (f_ref08_Field_ok _ _ _ _ e3) (fun _ => rfl) (fun i hi => by cases hi) ?_
    · simp only [wz, wd, ws, seval, e_api_Cron, er_getN (i := 0) e2]
    simp only [wz, wd, ws, seval, c24r5, semI.eq_10, semI.eq_11, semI.eq_3, semI.eq_5, semI.eq_7, e_api_Cron, er_getN (i := 0) e2]
    refine .seq ?_
    refine Rw.walk ?_
    simp only [wz, wd, ws, seval, c24r6, semI.eq_10, semI.eq_11, semI.eq_3, semI.eq_5, semI.eq_7, e_api_Cron, er_getN (i := 0) e2]
    obtain ⟨x2, e4, h⟩ := Option.bind_eq_some_iff.1 h
    refine Go1.of (sem_iadrO (l := t) e4 (by rfl) (by rfl) (by rfl)) ?_
    simp only [wz, wd, ws, seval, c24r6, semI.eq_10, semI.eq_11, semI.eq_3, semI.eq_5, semI.eq_7, e_api_Cron, er_getN (i := 0) e2, er_getN (i := 1) e4]
    obtain ⟨t3, e5, h⟩ := Option.bind_eq_some_iff.1 h
    refine call_fun [] false ⟨trivial, trivial, trivial, trivial, trivial⟩ rfl ?_ (f_ref08_Field_ok _ _ _ _ e5) (fun _ => rfl) (fun i hi => by cases hi) ?_
    · simp only [wz, wd, ws, seval, e_api_Cron, er_getN (i := 0) e2, er_getN (i := 1) e4]
    simp only [wz, wd, ws, seval, c24r6, semI.eq_10, semI.eq_11, semI.eq_3, semI.eq_5, semI.eq_7, e_api_Cron, er_getN (i := 0) e2, er_getN (i := 1) e4]
    refine .seq ?_
    refine Rw.walk ?_
    simp only [wz, wd, ws, seval, c24r7, semI.eq_10, semI.eq_11, semI.eq_3, semI.eq_5, semI.eq_7, e_api_Cron, er_getN (i := 0) e2, er_getN (i := 1) e4]
    obtain ⟨x3, e6, h⟩ := Option.bind_eq_some_iff.1 h
    refine Go1.of (sem_iadrO (l := t) e6 (by rfl) (by rfl) (by rfl)) ?_
    simp only [wz, wd, ws, seval, c24r7, semI.eq_10, semI.eq_11, semI.eq_3, semI.eq_5, semI.eq_7, e_api_Cron, er_getN (i := 0) e2, er_getN (i := 1) e4, er_getN (i := 2) e6]
    obtain ⟨t4, e7, h⟩ := Option.bind_eq_some_iff.1 h
    refine call_fun [] false ⟨trivial, trivial, trivial, trivial, trivial⟩ rfl ?_ (f_ref08_Field_ok _ _ _ _ e7) (fun _ => rfl) (fun i hi => by cases hi) ?_
    · simp only [wz, wd, ws, seval, e_api_Cron, er_getN (i := 0) e2, er_getN (i := 1) e4, er_getN (i := 2) e6]
    simp only [wz, wd, ws, seval, c24r7, semI.eq_10, semI.eq_11, semI.eq_3, semI.eq_5, semI.eq_7, e_api_Cron, er_getN (i := 0) e2, er_getN (i := 1) e4, er_getN (i := 2) e6]
    refine .seq ?_
    refine Rw.walk ?_
    simp only [wz, wd, ws, seval, c24r8, semI.eq_10, semI.eq_11, semI.eq_3, semI.eq_5, semI.eq_7, e_api_Cron, er_getN (i := 0) e2, er_getN (i := 1) e4, er_getN (i := 2) e6]
    obtain ⟨x4, e8, h⟩ := Option.bind_eq_some_iff.1 h
    refine Go1.of (sem_iadrO (l := t) e8 (by rfl) (by rfl) (by rfl)) ?_
    simp only [wz, wd, ws, seval, c24r8, semI.eq_10, semI.eq_11, semI.eq_3, semI.eq_5, semI.eq_7, e_api_Cron, er_getN (i := 0) e2, er_getN (i := 1) e4, er_getN (i := 2) e6, er_getN (i := 3) e8]
    obtain ⟨t5, e9, h⟩ := Option.bind_eq_some_iff.1 h
    refine call_fun [] false ⟨trivial, trivial, trivial, trivial, trivial⟩ rfl ?_ (f_ref08_Field_ok _ _ _ _ e9) (fun _ => rfl) (fun i hi => by cases hi) ?_
    · simp only [wz, wd, ws, seval, e_api_Cron, er_getN (i := 0) e2, er_getN (i := 1) e4, er_getN (i := 2) e6, er_getN (i := 3) e8]
    simp only [wz, wd, ws, seval, c24r8, semI.eq_10, semI.eq_11, semI.eq_3, semI.eq_5, semI.eq_7, e_api_Cron, er_getN (i := 0) e2, er_getN (i := 1) e4, er_getN (i := 2) e6, er_getN (i := 3) e8]
    refine .seq ?_
    refine Rw.walk ?_
    simp only [wz, wd, ws, seval, c24r9, semI.eq_10, semI.eq_11, semI.eq_3, semI.eq_5, semI.eq_7, e_api_Cron, er_getN (i := 0) e2, er_getN (i := 1) e4, er_getN (i := 2) e6, er_getN (i := 3) e8]
    obtain ⟨x5, e10, h⟩ := Option.bind_eq_some_iff.1 h
    refine Go1.of (sem_iadrO (l := t) e10 (by rfl) (by rfl) (by rfl)) ?_
    simp only [wz, wd, ws, seval, c24r9, semI.eq_10, semI.eq_11, semI.eq_3, semI.eq_5, semI.eq_7, e_api_Cron, er_getN (i := 0) e2, er_getN (i := 1) e4, er_getN (i := 2) e6, er_getN (i := 3) e8, er_getN (i := 4) e10]
    obtain ⟨t6, e11, h⟩ := Option.bind_eq_some_iff.1 h
    refine call_fun [] false ⟨trivial, trivial, trivial, trivial, trivial⟩ rfl ?_ (f_ref08_Field_ok _ _ _ _ e11) (fun _ => rfl) (fun i hi => by cases hi) ?_
    · simp only [wz, wd, ws, seval, e_api_Cron, er_getN (i := 0) e2, er_getN (i := 1) e4, er_getN (i := 2) e6, er_getN (i := 3) e8, er_getN (i := 4) e10]
    simp only [wz, wd, ws, seval, c24r9, semI.eq_10, semI.eq_11, semI.eq_3, semI.eq_5, semI.eq_7, e_api_Cron, er_getN (i := 0) e2, er_getN (i := 1) e4, er_getN (i := 2) e6, er_getN (i := 3) e8, er_getN (i := 4) e10]
    refine .seq ?_
    refine .seq ?_
    refine Rw.walk ?_
    simp only [wz, wd, ws, seval, c24r10, semI.eq_10, semI.eq_11, semI.eq_3, semI.eq_5, semI.eq_7, e_api_Cron, er_getN (i := 0) e2, er_getN (i := 1) e4, er_getN (i := 2) e6, er_getN (i := 3) e8, er_getN (i := 4) e10]
    repeat (refine And.intro ?_ ?_; · first | omega | (simp only [List.length_append, List.length_cons, List.length_nil] at *; omega) | (simp only [List.map_cons, List.map_nil] at *; omega) | (intro q; simp only [wz, wd, ws, seval, q]; done))
    refine .cond (p := (((((!t2.2) || (!t3.2)) || (!t4.2)) || (!t5.2)) || (!t6.2))) (by first | rfl | simp only [wz, wd, ws, seval]) (fun h1 => ?_) (fun h1 => ?_)
    · rw [ite_t h1] at h
      refine .seq ?_
      refine Rw.walk ?_
      simp only [wz, wd, ws, seval, c24r11, semI.eq_10, semI.eq_11, semI.eq_3, semI.eq_5, semI.eq_7, e_api_Cron, er_getN (i := 0) e2, er_getN (i := 1) e4, er_getN (i := 2) e6, er_getN (i := 3) e8, er_getN (i := 4) e10]
      obtain rfl := Option.some.inj h
      refine .ret ?_
      rw [← hR]
      simp only [wz, wd, ws, seval, rv24, semI.eq_10, e_api_Cron, er_getN (i := 0) e2, er_getN (i := 1) e4, er_getN (i := 2) e6, er_getN (i := 3) e8, er_getN (i := 4) e10]
    · rw [ite_f h1] at h
      refine .skip ?_
      refine .seq ?_
      refine RwD.walk ?_
      simp only [wz, wd, ws, seval, c24r12, semI.eq_3, semI.eq_5, semI.eq_7, e_api_Cron, er_getN (i := 0) e2, er_getN (i := 1) e4, er_getN (i := 2) e6, er_getN (i := 3) e8, er_getN (i := 4) e10]
      obtain ⟨x6, e12, h⟩ := Option.bind_eq_some_iff.1 h
      refine GoD1.of (sem_iadrO (l := t) e12 (by rfl) (by rfl) (by rfl)) ?_
      simp only [wz, wd, ws, seval, c24r12, semI.eq_3, semI.eq_5, semI.eq_7, e_api_Cron, er_getN (i := 0) e2, er_getN (i := 1) e4, er_getN (i := 3) e8, er_getN (i := 4) e10, er_getN (i := 2) e12]
      refine GoD1.of (semI.eq_10 ..) ?_
      simp only [wz, wd, ws, seval, c24r12, semI.eq_3, semI.eq_5, semI.eq_7, e_api_Cron, er_getN (i := 0) e2, er_getN (i := 1) e4, er_getN (i := 3) e8, er_getN (i := 4) e10, er_getN (i := 2) e12]
      obtain ⟨x7, e13, h⟩ := Option.bind_eq_some_iff.1 h
      refine GoD1.of (sem_iadrO (l := t) e13 (by rfl) (by rfl) (by rfl)) ?_
      simp only [wz, wd, ws, seval, c24r12, semI.eq_3, semI.eq_5, semI.eq_7, e_api_Cron, er_getN (i := 0) e2, er_getN (i := 1) e4, er_getN (i := 3) e8, er_getN (i := 2) e12, er_getN (i := 4) e13]
      refine GoD1.of (semI.eq_10 ..) ?_
      simp only [wz, wd, ws, seval, c24r12, semI.eq_3, semI.eq_5, semI.eq_7, e_api_Cron, er_getN (i := 0) e2, er_getN (i := 1) e4, er_getN (i := 3) e8, er_getN (i := 2) e12, er_getN (i := 4) e13]
      refine GoD1.of (semI.eq_11 ..) ?_
      simp only [wz, wd, ws, seval, c24r12, semI.eq_3, semI.eq_5, semI.eq_7, e_api_Cron, er_getN (i := 0) e2, er_getN (i := 1) e4, er_getN (i := 3) e8, er_getN (i := 2) e12, er_getN (i := 4) e13]
      obtain rfl := Option.some.inj h
      refine .ret ?_
      rw [← hR]
      simp only [wz, wd, ws, seval, rv24, semI.eq_10, e_api_Cron, er_getN (i := 0) e2, er_getN (i := 1) e4, er_getN (i := 3) e8, er_getN (i := 2) e12, er_getN (i := 4) e13]
-- 52 consignor/cron.leap
def c52r0 : List Opn := [
  ⟨(some 2), none, .mv (.c (.s (.d (.bool false))))⟩]
def c52r1 : List Opn := [
  ⟨(some 3), none, .mv (.t 0)⟩, 
  ⟨(some 4), none, .bin .rem (.t 3) (.c (.s (.d (.int .i64 4))))⟩, 
  ⟨(some 5), none, .bin .eql (.t 4) (.c (.s (.d (.int .i64 0))))⟩, 
  ⟨(some 6), none, .mv (.t 5)⟩, 
  ⟨(some 7), some (6, true), .mv (.t 0)⟩, 
  ⟨(some 8), some (6, true), .bin .rem (.t 7) (.c (.s (.d (.int .i64 100))))⟩, 
  ⟨(some 9), some (6, true), .bin .neq (.t 8) (.c (.s (.d (.int .i64 0))))⟩, 
  ⟨(some 10), none, .pick (.t 6) (.t 9) (.c (.s (.d (.bool false))))⟩, 
  ⟨(some 11), none, .mv (.t 10)⟩, 
  ⟨(some 12), some (11, false), .mv (.t 0)⟩, 
  ⟨(some 13), some (11, false), .bin .rem (.t 12) (.c (.s (.d (.int .i64 400))))⟩, 
  ⟨(some 14), some (11, false), .bin .eql (.t 13) (.c (.s (.d (.int .i64 0))))⟩, 
  ⟨(some 15), none, .pick (.t 11) (.c (.s (.d (.bool true)))) (.t 14)⟩, 
  ⟨(some 2), none, .mv (.t 15)⟩]
def c52 : C := .seq (.reg c52r0 none [0]) (.seq (.reg c52r1 none [2]) (.ret))
def k52 : List (Nat × List Nat) := [(1, [2]), (0, [0])]
theorem cc52 : (Tryd.f52.body).bind (cC Tryd.prog 16 k52) = some c52 := by kernel_rfl
def rv52 : List RV := [.t 2]
theorem cr52 : cRVs Tryd.prog Tryd.f52.results.toList = some rv52 := by kernel_rfl
theorem f_cron_leap_ok (year : Int) (y_ : Bool) (h : f_cron_leap year = some y_) : Fun Tryd.prog glP 52 [.b (.s (.d (.int .i64 year)))] (.b (.s (.d (.bool y_)))) := by
  refine fun_walk [] Tryd.func52 Tryd.ntmps52 cc52 cr52 (by kernel_rfl) (by simp only [List.length_cons, List.length_nil]; decide) ?_
  generalize hR : Ret _ _ _ _ _ = R_
  simp only [wz, wd, ws, seval]
  unfold f_cron_leap at h; unfold c52
  refine .seq ?_
  refine Rw.walk ?_
  simp only [wz, wd, ws, seval, c52r0, semI.eq_10, semI.eq_11, semI.eq_3, semI.eq_5, semI.eq_7]
  refine .seq ?_
  refine Rw.walk ?_
  simp only [wz, wd, ws, seval, c52r1, semI.eq_10, semI.eq_11, semI.eq_3, semI.eq_5, semI.eq_7]
  repeat (refine And.intro ?_ ?_; · first | omega | (simp only [List.length_append, List.length_cons, List.length_nil] at *; omega) | (simp only [List.map_cons, List.map_nil] at *; omega) | (intro q; simp only [wz, wd, ws, seval, q]; done))
  obtain rfl := Option.some.inj h
  refine .ret ?_
  rw [← hR]
  simp only [wz, wd, ws, seval, rv52]
-- 53 consignor/cron.days
def c53r0 : List Opn := [
  ⟨(some 4), none, .mv (.c (.s (.d (.int .i64 0))))⟩]
def c53r1 : List Opn := [
  ⟨(some 5), none, .mv (.t 0)⟩]
def c53r2 : List Opn := [
  ⟨(some 7), none, .bin .eql (.t 5) (.c (.s (.d (.int .i64 2))))⟩, 
  ⟨(some 6), none, .mv (.t 7)⟩]
def c53r3 : List Opn := [
  ⟨(some 8), none, .mv (.t 1)⟩, 
  ⟨(some 9), none, .call (.fn 52) [(.t 8)]⟩]
def c53r4 : List Opn := [
  ⟨(some 4), none, .mv (.c (.s (.d (.int .i64 29))))⟩]
def c53r5 : List Opn := [
  ⟨(some 4), none, .mv (.c (.s (.d (.int .i64 28))))⟩]
def c53r6 : List Opn := [
  ⟨(some 11), none, .bin .eql (.t 5) (.c (.s (.d (.int .i64 4))))⟩, 
  ⟨(some 10), none, .mv (.t 11)⟩]
def c53r7 : List Opn := [
  ⟨(some 12), none, .bin .eql (.t 5) (.c (.s (.d (.int .i64 6))))⟩, 
  ⟨(some 10), none, .mv (.t 12)⟩]
def c53r8 : List Opn := [
  ⟨(some 13), none, .bin .eql (.t 5) (.c (.s (.d (.int .i64 9))))⟩, 
  ⟨(some 10), none, .mv (.t 13)⟩]
def c53r9 : List Opn := [
  ⟨(some 14), none, .bin .eql (.t 5) (.c (.s (.d (.int .i64 11))))⟩, 
  ⟨(some 10), none, .mv (.t 14)⟩]
def c53r10 : List Opn := [
  ⟨(some 4), none, .mv (.c (.s (.d (.int .i64 30))))⟩]
def c53r11 : List Opn := [
  ⟨(some 4), none, .mv (.c (.s (.d (.int .i64 31))))⟩]
def c53 : C := .seq (.reg c53r0 none [0, 1]) (.seq (.seq (.reg c53r1 none [1, 5]) (.blk 0 (.seq (.reg c53r2 none [1, 5, 6]) (.cond (.t 6) (.seq (.seq (.reg c53r3 none [9]) (.cond (.t 9) (.seq (.reg c53r4 none [4]) (.ret)) (.skip))) (.seq (.reg c53r5 none [4]) (.ret))) (.seq (.seq (.reg c53r6 none [5, 10]) (.cond (.t 10) (.skip) (.seq (.reg c53r7 none [5, 10]) (.cond (.t 10) (.skip) (.seq (.reg c53r8 none [5, 10]) (.cond (.t 10) (.skip) (.reg c53r9 none [10]))))))) (.cond (.t 10) (.seq (.reg c53r10 none [4]) (.ret)) (.skip))))))) (.seq (.reg c53r11 none [4]) (.ret)))
def k53 : List (Nat × List Nat) := [(11, [4]), (5, [4]), (4, [4]), (3, [9]), (10, [4]), (9, [10]), (8, [5, 10]), (7, [5, 10]), (6, [5, 10]), (2, [1, 5, 6]), (1, [1, 5]), (0, [0, 1])]
theorem cc53 : (Tryd.f53.body).bind (cC Tryd.prog 15 k53) = some c53 := by kernel_rfl
def rv53 : List RV := [.t 4]
theorem cr53 : cRVs Tryd.prog Tryd.f53.results.toList = some rv53 := by kernel_rfl
theorem f_cron_days_ok (month : Int) (year : Int) (y_ : Int) (h : f_cron_days month year = some y_) : Fun Tryd.prog glP 53 [.b (.s (.d (.int .i64 month))), .b (.s (.d (.int .i64 year)))] (.b (.s (.d (.int .i64 y_)))) := by
  refine fun_walk [] Tryd.func53 Tryd.ntmps53 cc53 cr53 (by kernel_rfl) (by simp only [List.length_cons, List.length_nil]; decide) ?_
  generalize hR : Ret _ _ _ _ _ = R_
  simp only [wz, wd, ws, seval]
  unfold f_cron_days at h; unfold c53
  refine .seq ?_
  refine Rw.walk ?_
  simp only [wz, wd, ws, seval, c53r0, semI.eq_10, semI.eq_11, semI.eq_3, semI.eq_5, semI.eq_7]
  refine .seq ?_
  refine .seq ?_
  refine Rw.walk ?_
  simp only [wz, wd, ws, seval, c53r1, semI.eq_10, semI.eq_11, semI.eq_3, semI.eq_5, semI.eq_7]
  refine .blk ?_
  refine .seq ?_
  refine Rw.walk ?_
  simp only [wz, wd, ws, seval, c53r2, semI.eq_10, semI.eq_11, semI.eq_3, semI.eq_5, semI.eq_7]
  refine .cond (p := (month == 2)) (by first | rfl | simp only [wz, wd, ws, seval]) (fun h1 => ?_) (fun h1 => ?_)
  · rw [ite_t h1] at h
    refine .seq ?_
    refine .seq ?_
    refine Rw.walk ?_
    simp only [wz, wd, ws, seval, c53r3, semI.eq_10, semI.eq_11, semI.eq_3, semI.eq_5, semI.eq_7]
    obtain ⟨t, e1, h⟩ := Option.bind_eq_some_iff.1 h
    refine call_fun [] false ⟨trivial, trivial, trivial⟩ rfl ?_ (f_cron_leap_ok _ _ e1) (fun _ => rfl) (fun i hi => by cases hi) ?_
    · simp only [wz, wd, ws, seval]
    simp only [wz, wd, ws, seval, c53r3, semI.eq_10, semI.eq_11, semI.eq_3, semI.eq_5, semI.eq_7]
    refine .cond (p := t) (by first | rfl | simp only [wz, wd, ws, seval]) (fun h1 => ?_) (fun h1 => ?_)
    · rw [ite_t h1] at h
      refine .seq ?_
      refine Rw.walk ?_
      simp only [wz, wd, ws, seval, c53r4, semI.eq_10, semI.eq_11, semI.eq_3, semI.eq_5, semI.eq_7]
      obtain rfl := Option.some.inj h
      refine .ret ?_
      rw [← hR]
      simp only [wz, wd, ws, seval, rv53]
    · rw [ite_f h1] at h
      refine .skip ?_
      refine .seq ?_
      refine Rw.walk ?_
      simp only [wz, wd, ws, seval, c53r5, semI.eq_10, semI.eq_11, semI.eq_3, semI.eq_5, semI.eq_7]
      obtain rfl := Option.some.inj h
      refine .ret ?_
      rw [← hR]
      simp only [wz, wd, ws, seval, rv53]
  · rw [ite_f h1] at h
    refine .seq ?_
    refine .seq ?_
    refine Rw.walk ?_
    simp only [wz, wd, ws, seval, c53r6, semI.eq_10, semI.eq_11, semI.eq_3, semI.eq_5, semI.eq_7]
    refine .cond (p := (month == 4)) (by first | rfl | simp only [wz, wd, ws, seval]) (fun h1 => ?_) (fun h1 => ?_)
    · rw [ite_t h1] at h
      refine .skip ?_
      refine .cond (p := (month == 4)) (by first | rfl | simp only [wz, wd, ws, seval]) (fun h1 => ?_) (fun h1 => ?_)
      · rw [ite_t h1] at h
        refine .seq ?_
        refine Rw.walk ?_
        simp only [wz, wd, ws, seval, c53r10, semI.eq_10, semI.eq_11, semI.eq_3, semI.eq_5, semI.eq_7]
        obtain rfl := Option.some.inj h
        refine .ret ?_
        rw [← hR]
        simp only [wz, wd, ws, seval, rv53]
      · rw [ite_f h1] at h
        refine .skip ?_
        refine .eblk ?_
        refine .seq ?_
        refine Rw.walk ?_
        simp only [wz, wd, ws, seval, c53r11, semI.eq_10, semI.eq_11, semI.eq_3, semI.eq_5, semI.eq_7]
        obtain rfl := Option.some.inj h
        refine .ret ?_
        rw [← hR]
        simp only [wz, wd, ws, seval, rv53]
    · rw [ite_f h1] at h
      refine .seq ?_
      refine Rw.walk ?_
      simp only [wz, wd, ws, seval, c53r7, semI.eq_10, semI.eq_11, semI.eq_3, semI.eq_5, semI.eq_7]
      refine .cond (p := (month == 6)) (by first | rfl | simp only [wz, wd, ws, seval]) (fun h1 => ?_) (fun h1 => ?_)
      · rw [ite_t h1] at h
        refine .skip ?_
        refine .cond (p := (month == 6)) (by first | rfl | simp only [wz, wd, ws, seval]) (fun h1 => ?_) (fun h1 => ?_)
        · rw [ite_t h1] at h
          refine .seq ?_
          refine Rw.walk ?_
          simp only [wz, wd, ws, seval, c53r10, semI.eq_10, semI.eq_11, semI.eq_3, semI.eq_5, semI.eq_7]
          obtain rfl := Option.some.inj h
          refine .ret ?_
          rw [← hR]
          simp only [wz, wd, ws, seval, rv53]
        · rw [ite_f h1] at h
          refine .skip ?_
          refine .eblk ?_
          refine .seq ?_
          refine Rw.walk ?_
          simp only [wz, wd, ws, seval, c53r11, semI.eq_10, semI.eq_11, semI.eq_3, semI.eq_5, semI.eq_7]
          obtain rfl := Option.some.inj h
          refine .ret ?_
          rw [← hR]
          simp only [wz, wd, ws, seval, rv53]
      · rw [ite_f h1] at h
        refine .seq ?_
        refine Rw.walk ?_
        simp only [wz, wd, ws, seval, c53r8, semI.eq_10, semI.eq_11, semI.eq_3, semI.eq_5, semI.eq_7]
        refine .cond (p := (month == 9)) (by first | rfl | simp only [wz, wd, ws, seval]) (fun h1 => ?_) (fun h1 => ?_)
        · rw [ite_t h1] at h
          refine .skip ?_
          refine .cond (p := (month == 9)) (by first | rfl | simp only [wz, wd, ws, seval]) (fun h1 => ?_) (fun h1 => ?_)
          · rw [ite_t h1] at h
            refine .seq ?_
            refine Rw.walk ?_
            simp only [wz, wd, ws, seval, c53r10, semI.eq_10, semI.eq_11, semI.eq_3, semI.eq_5, semI.eq_7]
            obtain rfl := Option.some.inj h
            refine .ret ?_
            rw [← hR]
            simp only [wz, wd, ws, seval, rv53]
          · rw [ite_f h1] at h
            refine .skip ?_
            refine .eblk ?_
            refine .seq ?_
            refine Rw.walk ?_
            simp only [wz, wd, ws, seval, c53r11, semI.eq_10, semI.eq_11, semI.eq_3, semI.eq_5, semI.eq_7]
            obtain rfl := Option.some.inj h
            refine .ret ?_
            rw [← hR]
            simp only [wz, wd, ws, seval, rv53]
        · rw [ite_f h1] at h
          refine Rw.walk ?_
          simp only [wz, wd, ws, seval, c53r9, semI.eq_10, semI.eq_11, semI.eq_3, semI.eq_5, semI.eq_7]
          refine .cond (p := (month == 11)) (by first | rfl | simp only [wz, wd, ws, seval]) (fun h1 => ?_) (fun h1 => ?_)
          · rw [ite_t h1] at h
            refine .seq ?_
            refine Rw.walk ?_
            simp only [wz, wd, ws, seval, c53r10, semI.eq_10, semI.eq_11, semI.eq_3, semI.eq_5, semI.eq_7]
            obtain rfl := Option.some.inj h
            refine .ret ?_
            rw [← hR]
            simp only [wz, wd, ws, seval, rv53]
          · rw [ite_f h1] at h
            refine .skip ?_
            refine .eblk ?_
            refine .seq ?_
            refine Rw.walk ?_
            simp only [wz, wd, ws, seval, c53r11, semI.eq_10, semI.eq_11, semI.eq_3, semI.eq_5, semI.eq_7]
            obtain rfl := Option.some.inj h
            refine .ret ?_
            rw [← hR]
            simp only [wz, wd, ws, seval, rv53]
-- 26 consignor/cron.At
def c26r0 : List Opn := [
  ⟨(some 2), none, .new [(.d (.int .i64 0)), (.d (.int .i64 0)), (.d (.int .i64 0)), (.d (.int .i64 0)), (.d (.int .i64 0)), (.d (.int .i64 0))]⟩, 
  ⟨(some 3), none, .mv (.c (.s (.d (.int .i64 0))))⟩]
def c26r1 : List Opn := [
  ⟨(some 7), none, .mv (.t 0)⟩, 
  ⟨(some 8), none, .bin .lss (.t 7) (.c (.s (.d (.int .i64 0))))⟩, 
  ⟨(some 9), none, .mv (.t 8)⟩, 
  ⟨(some 10), some (9, false), .mv (.t 0)⟩, 
  ⟨(some 11), some (9, false), .bin .gtr (.t 10) (.c (.s (.d (.int .i64 1099511627776))))⟩, 
  ⟨(some 12), none, .pick (.t 9) (.c (.s (.d (.bool true)))) (.t 11)⟩]
def c26r2 : List Opn := [
  ⟨(some 13), none, .build [(.d (.int .i64 0)), (.d (.int .i64 0)), (.d (.int .i64 0)), (.d (.int .i64 0)), (.d (.int .i64 0)), (.d (.int .i64 0))] []⟩, 
  ⟨none, none, .store 6 (.t 2) (.t 13)⟩, 
  ⟨(some 3), none, .mv (.c (.s (.d (.int .i64 1))))⟩]
def c26r3 : List Opn := [
  ⟨(some 14), none, .mv (.t 0)⟩, 
  ⟨(some 15), none, .bin .quo (.t 14) (.c (.s (.d (.int .i64 1440))))⟩, 
  ⟨(some 4), none, .mv (.t 15)⟩]
def c26r4 : List Opn := [
  ⟨(some 16), none, .mv (.t 0)⟩, 
  ⟨(some 17), none, .bin .rem (.t 16) (.c (.s (.d (.int .i64 60))))⟩, 
  ⟨(some 18), none, .mv (.t 0)⟩, 
  ⟨(some 19), none, .bin .rem (.t 18) (.c (.s (.d (.int .i64 1440))))⟩, 
  ⟨(some 20), none, .bin .quo (.t 19) (.c (.s (.d (.int .i64 60))))⟩, 
  ⟨(some 21), none, .mv (.t 4)⟩, 
  ⟨(some 22), none, .bin .add (.t 21) (.c (.s (.d (.int .i64 4))))⟩, 
  ⟨(some 23), none, .bin .rem (.t 22) (.c (.s (.d (.int .i64 7))))⟩, 
  ⟨(some 24), none, .mv (.t 4)⟩, 
  ⟨(some 25), none, .bin .quo (.t 24) (.c (.s (.d (.int .i64 146097))))⟩, 
  ⟨(some 26), none, .bin .mul (.t 25) (.c (.s (.d (.int .i64 400))))⟩, 
  ⟨(some 27), none, .bin .add (.c (.s (.d (.int .i64 1970)))) (.t 26)⟩, 
  ⟨(some 28), none, .build [(.d (.int .i64 0)), (.d (.int .i64 0)), (.d (.int .i64 0)), (.d (.int .i64 0)), (.d (.int .i64 0)), (.d (.int .i64 0))] [(0, 1, (.t 17)), (1, 1, (.t 20)), (5, 1, (.t 23)), (4, 1, (.t 27)), (3, 1, (.c (.s (.d (.int .i64 1)))))]⟩, 
  ⟨(some 5), none, .new [(.d (.int .i64 0)), (.d (.int .i64 0)), (.d (.int .i64 0)), (.d (.int .i64 0)), (.d (.int .i64 0)), (.d (.int .i64 0))]⟩, 
  ⟨none, none, .store 6 (.t 5) (.t 28)⟩]
def c26r5 : List Opn := [
  ⟨(some 29), none, .mv (.t 4)⟩, 
  ⟨(some 30), none, .bin .rem (.t 29) (.c (.s (.d (.int .i64 146097))))⟩, 
  ⟨(some 4), none, .mv (.t 30)⟩]
def c26r6 : List Opn := [
  ⟨(some 6), none, .mv (.c (.s (.d (.int .i64 365))))⟩]
def c26r7 : List Opn := [
  ⟨(some 31), none, .fadr 4 (.t 5)⟩, 
  ⟨(some 32), none, .load false 1 (.t 31)⟩, 
  ⟨(some 33), none, .call (.fn 52) [(.t 32)]⟩]
def c26r8 : List Opn := [
  ⟨(some 34), none, .mv (.t 6)⟩, 
  ⟨(some 35), none, .bin .add (.t 34) (.c (.s (.d (.int .i64 1))))⟩, 
  ⟨(some 6), none, .mv (.t 35)⟩]
def c26r9 : List Opn := [
  ⟨(some 36), none, .mv (.t 4)⟩, 
  ⟨(some 37), none, .mv (.t 6)⟩, 
  ⟨(some 38), none, .bin .lss (.t 36) (.t 37)⟩]
def c26r10 : List Opn := [
  ⟨(some 39), none, .mv (.t 4)⟩, 
  ⟨(some 40), none, .mv (.t 6)⟩, 
  ⟨(some 41), none, .bin .sub (.t 39) (.t 40)⟩, 
  ⟨(some 4), none, .mv (.t 41)⟩]
def c26r11 : List Opn := [
  ⟨(some 42), none, .fadr 4 (.t 5)⟩, 
  ⟨(some 43), none, .load false 1 (.t 42)⟩, 
  ⟨(some 44), none, .bin .add (.t 43) (.c (.s (.d (.int .i64 1))))⟩, 
  ⟨(some 45), none, .fadr 4 (.t 5)⟩, 
  ⟨none, none, .store 1 (.t 45) (.t 44)⟩]
def c26l12 : C := .blk 1 (.seq (.reg c26r6 none [2, 4, 5, 6]) (.seq (.seq (.reg c26r7 none [2, 4, 5, 6, 33]) (.cond (.t 33) (.reg c26r8 none [2, 4, 5, 6]) (.skip))) (.seq (.seq (.reg c26r9 none [2, 4, 5, 6, 38]) (.cond (.t 38) (.exit 0) (.skip))) (.seq (.reg c26r10 none [2, 4, 5]) (.reg c26r11 none [2, 4, 5])))))
def c26r12 : List Opn := [
  ⟨(some 46), none, .mv (.t 4)⟩, 
  ⟨(some 47), none, .fadr 3 (.t 5)⟩, 
  ⟨(some 48), none, .load false 1 (.t 47)⟩, 
  ⟨(some 49), none, .fadr 4 (.t 5)⟩, 
  ⟨(some 50), none, .load false 1 (.t 49)⟩, 
  ⟨(some 51), none, .call (.fn 53) [(.t 48), (.t 50)]⟩, 
  ⟨(some 52), none, .bin .geq (.t 46) (.t 51)⟩]
def c26r13 : List Opn := [
  ⟨(some 53), none, .mv (.t 4)⟩, 
  ⟨(some 54), none, .fadr 3 (.t 5)⟩, 
  ⟨(some 55), none, .load false 1 (.t 54)⟩, 
  ⟨(some 56), none, .fadr 4 (.t 5)⟩, 
  ⟨(some 57), none, .load false 1 (.t 56)⟩, 
  ⟨(some 58), none, .call (.fn 53) [(.t 55), (.t 57)]⟩, 
  ⟨(some 59), none, .bin .sub (.t 53) (.t 58)⟩, 
  ⟨(some 4), none, .mv (.t 59)⟩]
def c26r14 : List Opn := [
  ⟨(some 60), none, .fadr 3 (.t 5)⟩, 
  ⟨(some 61), none, .load false 1 (.t 60)⟩, 
  ⟨(some 62), none, .bin .add (.t 61) (.c (.s (.d (.int .i64 1))))⟩, 
  ⟨(some 63), none, .fadr 3 (.t 5)⟩, 
  ⟨none, none, .store 1 (.t 63) (.t 62)⟩]
def c26l16 : C := .seq (.seq (.reg c26r12 none [2, 4, 5, 52]) (.cond (.t 52) (.skip) (.exit 2))) (.blk 3 (.seq (.reg c26r13 none [2, 4, 5]) (.reg c26r14 none [2, 4, 5])))
def c26r15 : List Opn := [
  ⟨(some 64), none, .mv (.t 4)⟩, 
  ⟨(some 65), none, .bin .add (.t 64) (.c (.s (.d (.int .i64 1))))⟩, 
  ⟨(some 66), none, .fadr 2 (.t 5)⟩, 
  ⟨none, none, .store 1 (.t 66) (.t 65)⟩]
def c26r16 : List Opn := [
  ⟨(some 67), none, .load true 6 (.t 5)⟩, 
  ⟨none, none, .store 6 (.t 2) (.t 67)⟩, 
  ⟨(some 3), none, .mv (.c (.s (.d (.int .i64 0))))⟩]
def c26 : C := .seq (.reg c26r0 none [0, 2]) (.seq (.seq (.reg c26r1 none [0, 2, 12]) (.cond (.t 12) (.seq (.reg c26r2 none [2, 3]) (.ret)) (.skip))) (.seq (.reg c26r3 none [0, 2, 4]) (.seq (.reg c26r4 none [2, 4, 5]) (.seq (.reg c26r5 none [2, 4, 5]) (.seq (.blk 0 (.loop c26l12)) (.seq (.blk 2 (.loop c26l16)) (.seq (.reg c26r15 none [2, 5]) (.seq (.reg c26r16 none [2, 3]) (.ret)))))))))
def k26 : List (Nat × List Nat) := [(16, [2, 3]), (15, [2, 5]), (14, [2, 4, 5]), (13, [2, 4, 5]), (12, [2, 4, 5, 52]), (11, [2, 4, 5]), (10, [2, 4, 5]), (9, [2, 4, 5, 6, 38]), (8, [2, 4, 5, 6]), (7, [2, 4, 5, 6, 33]), (6, [2, 4, 5, 6]), (5, [2, 4, 5]), (4, [2, 4, 5]), (3, [0, 2, 4]), (2, [2, 3]), (1, [0, 2, 12]), (0, [0, 2])]
theorem cc26 : (Tryd.f26.body).bind (cC Tryd.prog 68 k26) = some c26 := by kernel_rfl
def rv26 : List RV := [.c 2 true 6, .t 3]
theorem cr26 : cRVs Tryd.prog Tryd.f26.results.toList = some rv26 := by kernel_rfl
theorem f_cron_At_l12_ok (tick : Int) (y_ : api_Clock × Int) (R_ : St → Prop) (hR : (Ret Tryd.prog glP [] rv26 (.tup [.agg ((e_api_Clock y_.1).map Lc.d), .s (.d (.int .i64 y_.2))])) = R_) : ∀ (m_ : Nat) (n : Int) (c : Int) (res_ : Int × Int × Int) (h : f_cron_At_l12 tick m_ n c = some res_) (k_ : List It) (hx : ∀ s_ : Int × Int × Int, res_ = s_ → W Tryd.prog glP 68 k_ ⟨lkT [(2, .b (.s (.ptr 2 1 0 0))), (4, .b (.s (.d (.int .i64 s_.1)))), (5, .b (.s (.ptr 5 1 0 0))), (6, .b (.s (.d (.int .i64 s_.2.1))))], lkG [(2, ⟨6, [[(.d (.int .i64 0)), (.d (.int .i64 0)), (.d (.int .i64 0)), (.d (.int .i64 0)), (.d (.int .i64 0)), (.d (.int .i64 0))]], false⟩), (5, ⟨6, [[(.d (.int .i64 (tick.tmod 60))), (.d (.int .i64 (IntKind.i64.wrap ((tick.tmod 1440).tdiv 60)))), (.d (.int .i64 0)), (.d (.int .i64 1)), (.d (.int .i64 s_.2.2)), (.d (.int .i64 ((IntKind.i64.wrap ((IntKind.i64.wrap (tick.tdiv 1440)) + 4)).tmod 7)))]], false⟩)]⟩ R_), W Tryd.prog glP 68 (.c c26l12 :: .lp c26l12 :: .blk 0 :: k_) ⟨lkT [(2, .b (.s (.ptr 2 1 0 0))), (4, .b (.s (.d (.int .i64 n)))), (5, .b (.s (.ptr 5 1 0 0)))], lkG [(2, ⟨6, [[(.d (.int .i64 0)), (.d (.int .i64 0)), (.d (.int .i64 0)), (.d (.int .i64 0)), (.d (.int .i64 0)), (.d (.int .i64 0))]], false⟩), (5, ⟨6, [[(.d (.int .i64 (tick.tmod 60))), (.d (.int .i64 (IntKind.i64.wrap ((tick.tmod 1440).tdiv 60)))), (.d (.int .i64 0)), (.d (.int .i64 1)), (.d (.int .i64 c)), (.d (.int .i64 ((IntKind.i64.wrap ((IntKind.i64.wrap (tick.tdiv 1440)) + 4)).tmod 7)))]], false⟩)]⟩ R_ := by
  intro m_; induction m_ with
  | zero => intro n c res_ h; rw [f_cron_At_l12.eq_1] at h; cases h
  | succ m_ ih =>
    intro n c res_ h k_ hx; rw [f_cron_At_l12.eq_2] at h; refine W.cdef c26l12.eq_1 ?_
    refine .blk ?_
    refine .seq ?_
    refine Rw.walk ?_
    simp only [wz, wd, ws, seval, c26r6, semI.eq_10, semI.eq_11, semI.eq_3, semI.eq_5, semI.eq_7, e_api_Clock]
    refine .seq ?_
    obtain ⟨s, hf, h⟩ := Option.bind_eq_some_iff.1 h
    refine W.cut1 ⟨lkT [(2, .b (.s (.ptr 2 1 0 0))), (4, .b (.s (.d (.int .i64 n)))), (5, .b (.s (.ptr 5 1 0 0))), (6, .b (.s (.d (.int .i64 s))))], lkG [(2, ⟨6, [[(.d (.int .i64 0)), (.d (.int .i64 0)), (.d (.int .i64 0)), (.d (.int .i64 0)), (.d (.int .i64 0)), (.d (.int .i64 0))]], false⟩), (5, ⟨6, [[(.d (.int .i64 (tick.tmod 60))), (.d (.int .i64 (IntKind.i64.wrap ((tick.tmod 1440).tdiv 60)))), (.d (.int .i64 0)), (.d (.int .i64 1)), (.d (.int .i64 c)), (.d (.int .i64 ((IntKind.i64.wrap ((IntKind.i64.wrap (tick.tdiv 1440)) + 4)).tmod 7)))]], false⟩)]⟩ ?_ (fun tail => ?_)
    · skip
      refine .seq ?_
      refine .seq ?_
      refine Rw.walk ?_
      simp only [wz, wd, ws, seval, c26r9, semI.eq_10, semI.eq_11, semI.eq_3, semI.eq_5, semI.eq_7, e_api_Clock]
      refine .cond (p := (decide (n < s))) (by first | rfl | simp only [wz, wd, ws, seval]) (fun h1 => ?_) (fun h1 => ?_)
      · rw [ite_t h1] at h
        refine .exit rfl ?_
        obtain rfl := Option.some.inj h
        refine .weak (Imp.co [] _ _ ?_ ?_ ?_ ?_ ?_) (hx _ rfl) <;> simp only [wz, wd, ws, seval, wi, er_nil, e_api_Clock]
      · rw [ite_f h1] at h
        refine .skip ?_
        refine .seq ?_
        refine Rw.walk ?_
        simp only [wz, wd, ws, seval, c26r10, semI.eq_10, semI.eq_11, semI.eq_3, semI.eq_5, semI.eq_7, e_api_Clock]
        refine Rw.walk ?_
        simp only [wz, wd, ws, seval, c26r11, semI.eq_10, semI.eq_11, semI.eq_3, semI.eq_5, semI.eq_7, e_api_Clock]
        refine .eblk ?_
        refine .lp ?_
        refine .weak (Imp.co [] _ _ ?_ ?_ ?_ ?_ ?_) (ih (IntKind.i64.wrap (n - s)) (IntKind.i64.wrap (c + 1)) _ h k_ hx) <;> simp only [wz, wd, ws, seval, wi, er_nil, e_api_Clock]
    replace h := hf
    refine .seq ?_
    refine Rw.walk ?_
    simp only [wz, wd, ws, seval, c26r7, semI.eq_10, semI.eq_11, semI.eq_3, semI.eq_5, semI.eq_7, e_api_Clock]
    obtain ⟨t, e1, h⟩ := Option.bind_eq_some_iff.1 h
    refine call_fun [] false ⟨trivial, trivial, trivial⟩ rfl ?_ (f_cron_leap_ok _ _ e1) (fun _ => rfl) (fun i hi => by cases hi) ?_
    · simp only [wz, wd, ws, seval, e_api_Clock]
    simp only [wz, wd, ws, seval, c26r7, semI.eq_10, semI.eq_11, semI.eq_3, semI.eq_5, semI.eq_7, e_api_Clock]
    refine .cond (p := t) (by first | rfl | simp only [wz, wd, ws, seval]) (fun h1 => ?_) (fun h1 => ?_)
    · rw [ite_t h1] at h
      refine Rw.walk ?_
      simp only [wz, wd, ws, seval, c26r8, semI.eq_10, semI.eq_11, semI.eq_3, semI.eq_5, semI.eq_7, e_api_Clock]
      obtain rfl := Option.some.inj h
      refine .weak (Imp.co [] _ _ ?_ ?_ ?_ ?_ ?_) (tail) <;> simp only [wz, wd, ws, seval, wi, er_nil, e_api_Clock]
    · rw [ite_f h1] at h
      refine .skip ?_
      obtain rfl := Option.some.inj h
      refine .weak (Imp.co [] _ _ ?_ ?_ ?_ ?_ ?_) (tail) <;> simp only [wz, wd, ws, seval, wi, er_nil, e_api_Clock]
theorem f_cron_At_l16_ok (tick : Int) (s : Int × Int × Int) (y_ : api_Clock × Int) (R_ : St → Prop) (hR : (Ret Tryd.prog glP [] rv26 (.tup [.agg ((e_api_Clock y_.1).map Lc.d), .s (.d (.int .i64 y_.2))])) = R_) : ∀ (m_ : Nat) (n : Int) (c : Int) (res_ : Int × Int) (h : f_cron_At_l16 tick s m_ n c = some res_) (k_ : List It) (hx : ∀ s_ : Int × Int, res_ = s_ → W Tryd.prog glP 68 k_ ⟨lkT [(2, .b (.s (.ptr 2 1 0 0))), (4, .b (.s (.d (.int .i64 s_.1)))), (5, .b (.s (.ptr 5 1 0 0)))], lkG [(2, ⟨6, [[(.d (.int .i64 0)), (.d (.int .i64 0)), (.d (.int .i64 0)), (.d (.int .i64 0)), (.d (.int .i64 0)), (.d (.int .i64 0))]], false⟩), (5, ⟨6, [[(.d (.int .i64 (tick.tmod 60))), (.d (.int .i64 (IntKind.i64.wrap ((tick.tmod 1440).tdiv 60)))), (.d (.int .i64 0)), (.d (.int .i64 s_.2)), (.d (.int .i64 s.2.2)), (.d (.int .i64 ((IntKind.i64.wrap ((IntKind.i64.wrap (tick.tdiv 1440)) + 4)).tmod 7)))]], false⟩)]⟩ R_), W Tryd.prog glP 68 (.c c26l16 :: .lp c26l16 :: .blk 2 :: k_) ⟨lkT [(2, .b (.s (.ptr 2 1 0 0))), (4, .b (.s (.d (.int .i64 n)))), (5, .b (.s (.ptr 5 1 0 0)))], lkG [(2, ⟨6, [[(.d (.int .i64 0)), (.d (.int .i64 0)), (.d (.int .i64 0)), (.d (.int .i64 0)), (.d (.int .i64 0)), (.d (.int .i64 0))]], false⟩), (5, ⟨6, [[(.d (.int .i64 (tick.tmod 60))), (.d (.int .i64 (IntKind.i64.wrap ((tick.tmod 1440).tdiv 60)))), (.d (.int .i64 0)), (.d (.int .i64 c)), (.d (.int .i64 s.2.2)), (.d (.int .i64 ((IntKind.i64.wrap ((IntKind.i64.wrap (tick.tdiv 1440)) + 4)).tmod 7)))]], false⟩)]⟩ R_ := by
  intro m_; induction m_ with
  | zero => intro n c res_ h; rw [f_cron_At_l16.eq_1] at h; cases h
  | succ m_ ih =>
    intro n c res_ h k_ hx; rw [f_cron_At_l16.eq_2] at h; refine W.cdef c26l16.eq_1 ?_
    refine .seq ?_
    refine .seq ?_
    refine Rw.walk ?_
    simp only [wz, wd, ws, seval, c26r12, semI.eq_10, semI.eq_11, semI.eq_3, semI.eq_5, semI.eq_7, e_api_Clock]
    obtain ⟨t, e2, h⟩ := Option.bind_eq_some_iff.1 h
    refine call_fun [] false ⟨trivial, trivial, trivial, trivial⟩ rfl ?_ (f_cron_days_ok _ _ _ e2) (fun _ => rfl) (fun i hi => by cases hi) ?_
    · simp only [wz, wd, ws, seval, e_api_Clock]
    simp only [wz, wd, ws, seval, c26r12, semI.eq_10, semI.eq_11, semI.eq_3, semI.eq_5, semI.eq_7, e_api_Clock]
    refine .cond (p := (decide (n ≥ t))) (by first | rfl | simp only [wz, wd, ws, seval]) (fun h1 => ?_) (fun h1 => ?_)
    · rw [ite_t h1] at h
      refine .skip ?_
      refine .blk ?_
      refine .seq ?_
      refine Rw.walk ?_
      simp only [wz, wd, ws, seval, c26r13, semI.eq_10, semI.eq_11, semI.eq_3, semI.eq_5, semI.eq_7, e_api_Clock]
      obtain ⟨t2, e3, h⟩ := Option.bind_eq_some_iff.1 h
      refine call_fun [] false ⟨trivial, trivial, trivial, trivial⟩ rfl ?_ (f_cron_days_ok _ _ _ e3) (fun _ => rfl) (fun i hi => by cases hi) ?_
      · simp only [wz, wd, ws, seval, e_api_Clock]
      simp only [wz, wd, ws, seval, c26r13, semI.eq_10, semI.eq_11, semI.eq_3, semI.eq_5, semI.eq_7, e_api_Clock]
      refine Rw.walk ?_
      simp only [wz, wd, ws, seval, c26r14, semI.eq_10, semI.eq_11, semI.eq_3, semI.eq_5, semI.eq_7, e_api_Clock]
      refine .eblk ?_
      refine .lp ?_
      refine .weak (Imp.co [] _ _ ?_ ?_ ?_ ?_ ?_) (ih (IntKind.i64.wrap (n - t2)) (IntKind.i64.wrap (c + 1)) _ h k_ hx) <;> simp only [wz, wd, ws, seval, wi, er_nil, e_api_Clock]
    · rw [ite_f h1] at h
      refine .exit rfl ?_
      obtain rfl := Option.some.inj h
      refine .weak (Imp.co [] _ _ ?_ ?_ ?_ ?_ ?_) (hx _ rfl) <;> simp only [wz, wd, ws, seval, wi, er_nil, e_api_Clock]
theorem f_cron_At_ok (tick : Int) (y_ : api_Clock × Int) (h : f_cron_At tick = some y_) : Fun Tryd.prog glP 26 [.b (.s (.d (.int .i64 tick)))] (.tup [.agg ((e_api_Clock y_.1).map Lc.d), .s (.d (.int .i64 y_.2))]) := by
  refine fun_walk [] Tryd.func26 Tryd.ntmps26 cc26 cr26 (by kernel_rfl) (by simp only [List.length_cons, List.length_nil]; decide) ?_
  generalize hR : Ret _ _ _ _ _ = R_
  simp only [wz, wd, ws, seval, e_api_Clock]
  unfold f_cron_At at h; unfold c26
  refine .seq ?_
  refine Rw.walk ?_
  simp only [wz, wd, ws, seval, c26r0, semI.eq_10, semI.eq_11, semI.eq_3, semI.eq_5, semI.eq_7, e_api_Clock]
  refine .seq ?_
  refine .seq ?_
  refine Rw.walk ?_
  simp only [wz, wd, ws, seval, c26r1, semI.eq_10, semI.eq_11, semI.eq_3, semI.eq_5, semI.eq_7, e_api_Clock]
  repeat (refine And.intro ?_ ?_; · first | omega | (simp only [List.length_append, List.length_cons, List.length_nil] at *; omega) | (simp only [List.map_cons, List.map_nil] at *; omega) | (intro q; simp only [wz, wd, ws, seval, q]; done))
  refine .cond (p := ((decide (tick < 0)) || (decide (tick > 1099511627776)))) (by first | rfl | simp only [wz, wd, ws, seval]) (fun h1 => ?_) (fun h1 => ?_)
  · rw [ite_t h1] at h
    refine .seq ?_
    refine Rw.walk ?_
    simp only [wz, wd, ws, seval, c26r2, semI.eq_10, semI.eq_11, semI.eq_3, semI.eq_5, semI.eq_7, e_api_Clock]
    obtain rfl := Option.some.inj h
    refine .ret ?_
    rw [← hR]
    simp only [wz, wd, ws, seval, rv26, semI.eq_10, e_api_Clock]
  · rw [ite_f h1] at h
    refine .skip ?_
    refine .seq ?_
    refine Rw.walk ?_
    simp only [wz, wd, ws, seval, c26r3, semI.eq_10, semI.eq_11, semI.eq_3, semI.eq_5, semI.eq_7, e_api_Clock]
    repeat (refine And.intro ?_ ?_; · first | omega | (simp only [List.length_append, List.length_cons, List.length_nil] at *; omega) | (simp only [List.map_cons, List.map_nil] at *; omega) | (intro q; simp only [wz, wd, ws, seval, q]; done))
    refine .seq ?_
    refine Rw.walk ?_
    simp only [wz, wd, ws, seval, c26r4, semI.eq_10, semI.eq_11, semI.eq_3, semI.eq_5, semI.eq_7, e_api_Clock]
    repeat (refine And.intro ?_ ?_; · first | omega | (simp only [List.length_append, List.length_cons, List.length_nil] at *; omega) | (simp only [List.map_cons, List.map_nil] at *; omega) | (intro q; simp only [wz, wd, ws, seval, q]; done))
    refine .seq ?_
    refine Rw.walk ?_
    simp only [wz, wd, ws, seval, c26r5, semI.eq_10, semI.eq_11, semI.eq_3, semI.eq_5, semI.eq_7, e_api_Clock]
    repeat (refine And.intro ?_ ?_; · first | omega | (simp only [List.length_append, List.length_cons, List.length_nil] at *; omega) | (simp only [List.map_cons, List.map_nil] at *; omega) | (intro q; simp only [wz, wd, ws, seval, q]; done))
    refine .seq ?_
    refine .blk ?_
    obtain ⟨s, hf, h⟩ := Option.bind_eq_some_iff.1 h
    refine .loop (.weak (Imp.co [] _ _ ?c1 ?c2 ?c3 ?c4 ?c5) (f_cron_At_l12_ok tick _ _ hR _ _ _ _ hf _ ?_))
    case c1 | c2 | c3 | c4 | c5 => simp only [wz, wd, ws, seval, wi, er_nil, e_api_Clock]
    · intro s_ hs; subst hs
      refine .seq ?_
      refine .blk ?_
      obtain ⟨s2, hf, h⟩ := Option.bind_eq_some_iff.1 h
      refine .loop (.weak (Imp.co [] _ _ ?c1 ?c2 ?c3 ?c4 ?c5) (f_cron_At_l16_ok tick s _ _ hR _ _ _ _ hf _ ?_))
      case c1 | c2 | c3 | c4 | c5 => simp only [wz, wd, ws, seval, wi, er_nil, e_api_Clock]
      · intro s2_ hs; subst hs
        refine .seq ?_
        refine Rw.walk ?_
        simp only [wz, wd, ws, seval, c26r15, semI.eq_10, semI.eq_11, semI.eq_3, semI.eq_5, semI.eq_7, e_api_Clock]
        refine .seq ?_
        refine Rw.walk ?_
        simp only [wz, wd, ws, seval, c26r16, semI.eq_10, semI.eq_11, semI.eq_3, semI.eq_5, semI.eq_7, e_api_Clock]
        obtain rfl := Option.some.inj h
        refine .ret ?_
        rw [← hR]
        simp only [wz, wd, ws, seval, rv26, semI.eq_10, e_api_Clock]
-- 55 consignor/cron.set
def c55r0 : List Opn := [
  ⟨(some 4), none, .mv (.c (.s (.d (.bool false))))⟩]
def c55r1 : List Opn := [
  ⟨(some 5), none, .mv (.t 0)⟩, 
  ⟨(some 6), none, .mv (.t 1)⟩, 
  ⟨(some 7), none, .bin .shr (.t 5) (.t 6)⟩, 
  ⟨(some 8), none, .bin .and (.t 7) (.c (.s (.d (.int .u64 1))))⟩, 
  ⟨(some 9), none, .bin .eql (.t 8) (.c (.s (.d (.int .u64 1))))⟩, 
  ⟨(some 4), none, .mv (.t 9)⟩]
def c55 : C := .seq (.reg c55r0 none [0, 1]) (.seq (.reg c55r1 none [4]) (.ret))
def k55 : List (Nat × List Nat) := [(1, [4]), (0, [0, 1])]
theorem cc55 : (Tryd.f55.body).bind (cC Tryd.prog 10 k55) = some c55 := by kernel_rfl
def rv55 : List RV := [.t 4]
theorem cr55 : cRVs Tryd.prog Tryd.f55.results.toList = some rv55 := by kernel_rfl
theorem f_cron_set_ok (bits : Int) (n : Int) (y_ : Bool) (h : f_cron_set bits n = some y_) : Fun Tryd.prog glP 55 [.b (.s (.d (.int .u64 bits))), .b (.s (.d (.int .i64 n)))] (.b (.s (.d (.bool y_)))) := by
  refine fun_walk [] Tryd.func55 Tryd.ntmps55 cc55 cr55 (by kernel_rfl) (by simp only [List.length_cons, List.length_nil]; decide) ?_
  generalize hR : Ret _ _ _ _ _ = R_
  simp only [wz, wd, ws, seval]
  unfold f_cron_set at h; unfold c55
  refine .seq ?_
  refine Rw.walk ?_
  simp only [wz, wd, ws, seval, c55r0, semI.eq_10, semI.eq_11, semI.eq_3, semI.eq_5, semI.eq_7]
  refine .seq ?_
  refine Rw.walk ?_
  obtain ⟨g1, h⟩ := gd_iff.1 h
  simp only [wz, wd, ws, seval, c55r1, semI.eq_10, semI.eq_11, semI.eq_3, semI.eq_5, semI.eq_7]
  repeat (refine And.intro ?_ ?_; · first | omega | (simp only [List.length_append, List.length_cons, List.length_nil] at *; omega) | (simp only [List.map_cons, List.map_nil] at *; omega) | (intro q; simp only [wz, wd, ws, seval, q]; done))
  obtain rfl := Option.some.inj h
  refine .ret ?_
  rw [← hR]
  simp only [wz, wd, ws, seval, rv55]
-- 29 consignor/cron.Fires
def c29r0 : List Opn := [
  ⟨(some 2), none, .box 7 (.t 0)⟩, 
  ⟨(some 4), none, .mv (.c (.s (.d (.bool false))))⟩]
def c29r1 : List Opn := [
  ⟨(some 8), none, .mv (.t 1)⟩, 
  ⟨(some 9), none, .call (.fn 26) [(.t 8)]⟩, 
  ⟨(some 7), none, .mv (.t 9)⟩, 
  ⟨(some 10), none, .ext (.t 7) 0⟩, 
  ⟨(some 11), none, .ext (.t 7) 1⟩, 
  ⟨(some 5), none, .new [(.d (.int .i64 0)), (.d (.int .i64 0)), (.d (.int .i64 0)), (.d (.int .i64 0)), (.d (.int .i64 0)), (.d (.int .i64 0))]⟩, 
  ⟨none, none, .store 6 (.t 5) (.t 10)⟩, 
  ⟨(some 6), none, .mv (.t 11)⟩]
def c29r2 : List Opn := [
  ⟨(some 12), none, .mv (.t 6)⟩, 
  ⟨(some 13), none, .bin .neq (.t 12) (.c (.s (.d (.int .i64 0))))⟩, 
  ⟨(some 14), none, .mv (.t 13)⟩, 
  ⟨(some 15), some (14, false), .fadr 0 (.t 2)⟩, 
  ⟨(some 16), some (14, false), .load false 1 (.t 15)⟩, 
  ⟨(some 17), some (14, false), .fadr 0 (.t 5)⟩, 
  ⟨(some 18), some (14, false), .load false 1 (.t 17)⟩, 
  ⟨(some 19), some (14, false), .call (.fn 55) [(.t 16), (.t 18)]⟩, 
  ⟨(some 20), some (14, false), .un .not (.t 19)⟩, 
  ⟨(some 21), none, .pick (.t 14) (.c (.s (.d (.bool true)))) (.t 20)⟩, 
  ⟨(some 22), none, .mv (.t 21)⟩, 
  ⟨(some 23), some (22, false), .fadr 1 (.t 2)⟩, 
  ⟨(some 24), some (22, false), .load false 1 (.t 23)⟩, 
  ⟨(some 25), some (22, false), .fadr 1 (.t 5)⟩, 
  ⟨(some 26), some (22, false), .load false 1 (.t 25)⟩, 
  ⟨(some 27), some (22, false), .call (.fn 55) [(.t 24), (.t 26)]⟩, 
  ⟨(some 28), some (22, false), .un .not (.t 27)⟩, 
  ⟨(some 29), none, .pick (.t 22) (.c (.s (.d (.bool true)))) (.t 28)⟩, 
  ⟨(some 30), none, .mv (.t 29)⟩, 
  ⟨(some 31), some (30, false), .fadr 3 (.t 2)⟩, 
  ⟨(some 32), some (30, false), .load false 1 (.t 31)⟩, 
  ⟨(some 33), some (30, false), .fadr 3 (.t 5)⟩, 
  ⟨(some 34), some (30, false), .load false 1 (.t 33)⟩, 
  ⟨(some 35), some (30, false), .call (.fn 55) [(.t 32), (.t 34)]⟩, 
  ⟨(some 36), some (30, false), .un .not (.t 35)⟩, 
  ⟨(some 37), none, .pick (.t 30) (.c (.s (.d (.bool true)))) (.t 36)⟩]
def c29r3 : List Opn := [
  ⟨(some 4), none, .mv (.c (.s (.d (.bool false))))⟩]
def c29r4 : List Opn := [
  ⟨(some 39), none, .fadr 5 (.t 2)⟩, 
  ⟨(some 40), none, .load false 1 (.t 39)⟩, 
  ⟨(some 41), none, .mv (.t 40)⟩, 
  ⟨(some 42), some (41, true), .fadr 6 (.t 2)⟩, 
  ⟨(some 43), some (41, true), .load false 1 (.t 42)⟩, 
  ⟨(some 44), none, .pick (.t 41) (.t 43) (.c (.s (.d (.bool false))))⟩, 
  ⟨(some 38), none, .mv (.t 44)⟩]
def c29r5 : List Opn := [
  ⟨(some 4), none, .mv (.c (.s (.d (.bool true))))⟩]
def c29r6 : List Opn := [
  ⟨(some 46), none, .fadr 5 (.t 2)⟩, 
  ⟨(some 47), none, .load false 1 (.t 46)⟩, 
  ⟨(some 45), none, .mv (.t 47)⟩]
def c29r7 : List Opn := [
  ⟨(some 48), none, .fadr 4 (.t 2)⟩, 
  ⟨(some 49), none, .load false 1 (.t 48)⟩, 
  ⟨(some 50), none, .fadr 5 (.t 5)⟩, 
  ⟨(some 51), none, .load false 1 (.t 50)⟩, 
  ⟨(some 52), none, .call (.fn 55) [(.t 49), (.t 51)]⟩, 
  ⟨(some 4), none, .mv (.t 52)⟩]
def c29r8 : List Opn := [
  ⟨(some 54), none, .fadr 6 (.t 2)⟩, 
  ⟨(some 55), none, .load false 1 (.t 54)⟩, 
  ⟨(some 53), none, .mv (.t 55)⟩]
def c29r9 : List Opn := [
  ⟨(some 56), none, .fadr 2 (.t 2)⟩, 
  ⟨(some 57), none, .load false 1 (.t 56)⟩, 
  ⟨(some 58), none, .fadr 2 (.t 5)⟩, 
  ⟨(some 59), none, .load false 1 (.t 58)⟩, 
  ⟨(some 60), none, .call (.fn 55) [(.t 57), (.t 59)]⟩, 
  ⟨(some 4), none, .mv (.t 60)⟩]
def c29r10 : List Opn := [
  ⟨(some 61), none, .fadr 2 (.t 2)⟩, 
  ⟨(some 62), none, .load false 1 (.t 61)⟩, 
  ⟨(some 63), none, .fadr 2 (.t 5)⟩, 
  ⟨(some 64), none, .load false 1 (.t 63)⟩, 
  ⟨(some 65), none, .call (.fn 55) [(.t 62), (.t 64)]⟩, 
  ⟨(some 66), none, .mv (.t 65)⟩, 
  ⟨(some 67), some (66, false), .fadr 4 (.t 2)⟩, 
  ⟨(some 68), some (66, false), .load false 1 (.t 67)⟩, 
  ⟨(some 69), some (66, false), .fadr 5 (.t 5)⟩, 
  ⟨(some 70), some (66, false), .load false 1 (.t 69)⟩, 
  ⟨(some 71), some (66, false), .call (.fn 55) [(.t 68), (.t 70)]⟩, 
  ⟨(some 72), none, .pick (.t 66) (.c (.s (.d (.bool true)))) (.t 71)⟩, 
  ⟨(some 4), none, .mv (.t 72)⟩]
def c29 : C := .seq (.reg c29r0 none [1, 2]) (.seq (.reg c29r1 none [2, 5, 6]) (.seq (.seq (.reg c29r2 none [2, 5, 37]) (.cond (.t 37) (.seq (.reg c29r3 none [4]) (.ret)) (.skip))) (.seq (.blk 0 (.seq (.reg c29r4 none [2, 5, 38]) (.cond (.t 38) (.seq (.reg c29r5 none [4]) (.ret)) (.seq (.reg c29r6 none [2, 5, 45]) (.cond (.t 45) (.seq (.reg c29r7 none [4]) (.ret)) (.seq (.reg c29r8 none [2, 5, 53]) (.cond (.t 53) (.seq (.reg c29r9 none [4]) (.ret)) (.skip)))))))) (.seq (.reg c29r10 none [4]) (.ret)))))
def k29 : List (Nat × List Nat) := [(10, [4]), (5, [4]), (7, [4]), (9, [4]), (8, [2, 5, 53]), (6, [2, 5, 45]), (4, [2, 5, 38]), (3, [4]), (2, [2, 5, 37]), (1, [2, 5, 6]), (0, [1, 2])]
theorem cc29 : (Tryd.f29.body).bind (cC Tryd.prog 73 k29) = some c29 := by kernel_rfl
def rv29 : List RV := [.t 4]
theorem cr29 : cRVs Tryd.prog Tryd.f29.results.toList = some rv29 := by kernel_rfl
theorem f_cron_Fires_ok (c : api_Cron) (tick : Int) (y_ : Bool) (h : f_cron_Fires c tick = some y_) : Fun Tryd.prog glP 29 [.b (.agg ((e_api_Cron c).map Lc.d)), .b (.s (.d (.int .i64 tick)))] (.b (.s (.d (.bool y_)))) := by
  refine fun_walk [] Tryd.func29 Tryd.ntmps29 cc29 cr29 (by kernel_rfl) (by simp only [List.length_cons, List.length_nil]; decide) ?_
  generalize hR : Ret _ _ _ _ _ = R_
  simp only [wz, wd, ws, seval, e_api_Clock, e_api_Cron]
  unfold f_cron_Fires at h; unfold c29
  refine .seq ?_
  refine Rw.walk ?_
  simp only [wz, wd, ws, seval, c29r0, semI.eq_10, semI.eq_11, semI.eq_3, semI.eq_5, semI.eq_7, e_api_Clock, e_api_Cron]
  refine .seq ?_
  refine Rw.walk ?_
  simp only [wz, wd, ws, seval, c29r1, semI.eq_10, semI.eq_11, semI.eq_3, semI.eq_5, semI.eq_7, e_api_Clock, e_api_Cron]
  obtain ⟨t, e1, h⟩ := Option.bind_eq_some_iff.1 h
  refine call_fun [] false ⟨trivial, trivial, trivial⟩ rfl ?_ (f_cron_At_ok _ _ e1) (fun _ => rfl) (fun i hi => by cases hi) ?_
  · simp only [wz, wd, ws, seval, e_api_Clock, e_api_Cron]
  simp only [wz, wd, ws, seval, c29r1, semI.eq_10, semI.eq_11, semI.eq_3, semI.eq_5, semI.eq_7, e_api_Clock, e_api_Cron]
  refine .seq ?_
  refine .seq ?_
  refine Rw.walk ?_
  simp only [wz, wd, ws, seval, c29r2, semI.eq_10, semI.eq_11, semI.eq_3, semI.eq_5, semI.eq_7, e_api_Clock, e_api_Cron]
  refine call_alt (v := .b (.s (.d (.int .u64 c.Minutes)))) rfl rfl (by simp only [wz, wd, ws, seval]) (fun q => ⟨_, by simp only [wz, wd, ws, seval, semI.eq_10, e_api_Clock, e_api_Cron], trivial⟩) ?_
  simp only [wz, wd, ws, seval, c29r2, semI.eq_10, semI.eq_11, semI.eq_3, semI.eq_5, semI.eq_7, e_api_Clock, e_api_Cron]
  refine call_alt (v := .b (.s (.d (.int .i64 t.1.Minute)))) rfl rfl (by simp only [wz, wd, ws, seval]) (fun q => ⟨_, by simp only [wz, wd, ws, seval, semI.eq_10, e_api_Clock, e_api_Cron], trivial⟩) ?_
  simp only [wz, wd, ws, seval, c29r2, semI.eq_10, semI.eq_11, semI.eq_3, semI.eq_5, semI.eq_7, e_api_Clock, e_api_Cron]
  obtain ⟨t2, e2, h⟩ := Option.bind_eq_some_iff.1 h
  refine call_funG [] rfl (by simp only [wz, wd, ws, seval]) rfl ?_ (fun q => (f_cron_set_ok _ _ _ (gx_iff e2 (by first | exact q | simpa using q)))) rfl (fun i hi => by cases hi) ?_
  · simp only [wz, wd, ws, seval, e_api_Clock, e_api_Cron]
  simp only [wz, wd, ws, seval, c29r2, semI.eq_10, semI.eq_11, semI.eq_3, semI.eq_5, semI.eq_7, e_api_Clock, e_api_Cron]
  repeat (refine And.intro ?_ ?_; · first | omega | (simp only [List.length_append, List.length_cons, List.length_nil] at *; omega) | (simp only [List.map_cons, List.map_nil] at *; omega) | (intro q; simp only [wz, wd, ws, seval, q]; done))
  refine call_alt (v := .b (.s (.d (.int .u64 c.Hours)))) rfl rfl (by simp only [wz, wd, ws, seval]) (fun q => ⟨_, by simp only [wz, wd, ws, seval, semI.eq_10, e_api_Clock, e_api_Cron], trivial⟩) ?_
  simp only [wz, wd, ws, seval, c29r2, semI.eq_10, semI.eq_11, semI.eq_3, semI.eq_5, semI.eq_7, e_api_Clock, e_api_Cron]
  refine call_alt (v := .b (.s (.d (.int .i64 t.1.Hour)))) rfl rfl (by simp only [wz, wd, ws, seval]) (fun q => ⟨_, by simp only [wz, wd, ws, seval, semI.eq_10, e_api_Clock, e_api_Cron], trivial⟩) ?_
  simp only [wz, wd, ws, seval, c29r2, semI.eq_10, semI.eq_11, semI.eq_3, semI.eq_5, semI.eq_7, e_api_Clock, e_api_Cron]
  obtain ⟨t3, e3, h⟩ := Option.bind_eq_some_iff.1 h
  refine call_funG [] rfl (by simp only [wz, wd, ws, seval]) rfl ?_ (fun q => (f_cron_set_ok _ _ _ (gx_iff e3 (by first | exact q | simpa using q)))) rfl (fun i hi => by cases hi) ?_
  · simp only [wz, wd, ws, seval, e_api_Clock, e_api_Cron]
  simp only [wz, wd, ws, seval, c29r2, semI.eq_10, semI.eq_11, semI.eq_3, semI.eq_5, semI.eq_7, e_api_Clock, e_api_Cron]
  repeat (refine And.intro ?_ ?_; · first | omega | (simp only [List.length_append, List.length_cons, List.length_nil] at *; omega) | (simp only [List.map_cons, List.map_nil] at *; omega) | (intro q; simp only [wz, wd, ws, seval, q]; done))
  refine call_alt (v := .b (.s (.d (.int .u64 c.Months)))) rfl rfl (by simp only [wz, wd, ws, seval]) (fun q => ⟨_, by simp only [wz, wd, ws, seval, semI.eq_10, e_api_Clock, e_api_Cron], trivial⟩) ?_
  simp only [wz, wd, ws, seval, c29r2, semI.eq_10, semI.eq_11, semI.eq_3, semI.eq_5, semI.eq_7, e_api_Clock, e_api_Cron]
  refine call_alt (v := .b (.s (.d (.int .i64 t.1.Month)))) rfl rfl (by simp only [wz, wd, ws, seval]) (fun q => ⟨_, by simp only [wz, wd, ws, seval, semI.eq_10, e_api_Clock, e_api_Cron], trivial⟩) ?_
  simp only [wz, wd, ws, seval, c29r2, semI.eq_10, semI.eq_11, semI.eq_3, semI.eq_5, semI.eq_7, e_api_Clock, e_api_Cron]
  obtain ⟨t4, e4, h⟩ := Option.bind_eq_some_iff.1 h
  refine call_funG [] rfl (by simp only [wz, wd, ws, seval]) rfl ?_ (fun q => (f_cron_set_ok _ _ _ (gx_iff e4 (by first | exact q | simpa using q)))) rfl (fun i hi => by cases hi) ?_
  · simp only [wz, wd, ws, seval, e_api_Clock, e_api_Cron]
  simp only [wz, wd, ws, seval, c29r2, semI.eq_10, semI.eq_11, semI.eq_3, semI.eq_5, semI.eq_7, e_api_Clock, e_api_Cron]
  repeat (refine And.intro ?_ ?_; · first | omega | (simp only [List.length_append, List.length_cons, List.length_nil] at *; omega) | (simp only [List.map_cons, List.map_nil] at *; omega) | (intro q; simp only [wz, wd, ws, seval, q]; done))
  refine .cond (p := ((((t.2 != 0) || (!t2)) || (!t3)) || (!t4))) (by first | rfl | simp only [wz, wd, ws, seval]) (fun h1 => ?_) (fun h1 => ?_)
  · rw [ite_t h1] at h
    refine .seq ?_
    refine Rw.walk ?_
    simp only [wz, wd, ws, seval, c29r3, semI.eq_10, semI.eq_11, semI.eq_3, semI.eq_5, semI.eq_7, e_api_Clock, e_api_Cron]
    obtain rfl := Option.some.inj h
    refine .ret ?_
    rw [← hR]
    simp only [wz, wd, ws, seval, rv29, e_api_Clock, e_api_Cron]
  · rw [ite_f h1] at h
    refine .skip ?_
    refine .seq ?_
    refine .blk ?_
    refine .seq ?_
    refine Rw.walk ?_
    simp only [wz, wd, ws, seval, c29r4, semI.eq_10, semI.eq_11, semI.eq_3, semI.eq_5, semI.eq_7, e_api_Clock, e_api_Cron]
    refine call_alt (v := .b (.s (.d (.bool c.AnyWeek)))) rfl rfl (by simp only [wz, wd, ws, seval]) (fun q => ⟨_, by simp only [wz, wd, ws, seval, semI.eq_10, e_api_Clock, e_api_Cron], trivial⟩) ?_
    simp only [wz, wd, ws, seval, c29r4, semI.eq_10, semI.eq_11, semI.eq_3, semI.eq_5, semI.eq_7, e_api_Clock, e_api_Cron]
    repeat (refine And.intro ?_ ?_; · first | omega | (simp only [List.length_append, List.length_cons, List.length_nil] at *; omega) | (simp only [List.map_cons, List.map_nil] at *; omega) | (intro q; simp only [wz, wd, ws, seval, q]; done))
    refine .cond (p := (c.AnyDay && c.AnyWeek)) (by first | rfl | simp only [wz, wd, ws, seval]) (fun h1 => ?_) (fun h1 => ?_)
    · rw [ite_t h1] at h
      refine .seq ?_
      refine Rw.walk ?_
      simp only [wz, wd, ws, seval, c29r5, semI.eq_10, semI.eq_11, semI.eq_3, semI.eq_5, semI.eq_7, e_api_Clock, e_api_Cron]
      obtain rfl := Option.some.inj h
      refine .ret ?_
      rw [← hR]
      simp only [wz, wd, ws, seval, rv29, e_api_Clock, e_api_Cron]
    · rw [ite_f h1] at h
      refine .seq ?_
      refine Rw.walk ?_
      simp only [wz, wd, ws, seval, c29r6, semI.eq_10, semI.eq_11, semI.eq_3, semI.eq_5, semI.eq_7, e_api_Clock, e_api_Cron]
      refine .cond (p := c.AnyDay) (by first | rfl | simp only [wz, wd, ws, seval]) (fun h1 => ?_) (fun h1 => ?_)
      · rw [ite_t h1] at h
        refine .seq ?_
        refine Rw.walk ?_
        simp only [wz, wd, ws, seval, c29r7, semI.eq_10, semI.eq_11, semI.eq_3, semI.eq_5, semI.eq_7, e_api_Clock, e_api_Cron]
        obtain ⟨t5, e5, h⟩ := Option.bind_eq_some_iff.1 h
        refine call_fun [] false ⟨trivial, trivial, trivial, trivial⟩ rfl ?_ (f_cron_set_ok _ _ _ e5) (fun _ => rfl) (fun i hi => by cases hi) ?_
        · simp only [wz, wd, ws, seval, e_api_Clock, e_api_Cron]
        simp only [wz, wd, ws, seval, c29r7, semI.eq_10, semI.eq_11, semI.eq_3, semI.eq_5, semI.eq_7, e_api_Clock, e_api_Cron]
        obtain rfl := Option.some.inj h
        refine .ret ?_
        rw [← hR]
        simp only [wz, wd, ws, seval, rv29, e_api_Clock, e_api_Cron]
      · rw [ite_f h1] at h
        refine .seq ?_
        refine Rw.walk ?_
        simp only [wz, wd, ws, seval, c29r8, semI.eq_10, semI.eq_11, semI.eq_3, semI.eq_5, semI.eq_7, e_api_Clock, e_api_Cron]
        refine .cond (p := c.AnyWeek) (by first | rfl | simp only [wz, wd, ws, seval]) (fun h1 => ?_) (fun h1 => ?_)
        · rw [ite_t h1] at h
          refine .seq ?_
          refine Rw.walk ?_
          simp only [wz, wd, ws, seval, c29r9, semI.eq_10, semI.eq_11, semI.eq_3, semI.eq_5, semI.eq_7, e_api_Clock, e_api_Cron]
          obtain ⟨t5, e6, h⟩ := Option.bind_eq_some_iff.1 h
          refine call_fun [] false ⟨trivial, trivial, trivial, trivial⟩ rfl ?_ (f_cron_set_ok _ _ _ e6) (fun _ => rfl) (fun i hi => by cases hi) ?_
          · simp only [wz, wd, ws, seval, e_api_Clock, e_api_Cron]
          simp only [wz, wd, ws, seval, c29r9, semI.eq_10, semI.eq_11, semI.eq_3, semI.eq_5, semI.eq_7, e_api_Clock, e_api_Cron]
          obtain rfl := Option.some.inj h
          refine .ret ?_
          rw [← hR]
          simp only [wz, wd, ws, seval, rv29, e_api_Clock, e_api_Cron]
        · rw [ite_f h1] at h
          refine .skip ?_
          refine .eblk ?_
          refine .seq ?_
          refine Rw.walk ?_
          simp only [wz, wd, ws, seval, c29r10, semI.eq_10, semI.eq_11, semI.eq_3, semI.eq_5, semI.eq_7, e_api_Clock, e_api_Cron]
          obtain ⟨t5, e7, h⟩ := Option.bind_eq_some_iff.1 h
          refine call_fun [] false ⟨trivial, trivial, trivial, trivial⟩ rfl ?_ (f_cron_set_ok _ _ _ e7) (fun _ => rfl) (fun i hi => by cases hi) ?_
          · simp only [wz, wd, ws, seval, e_api_Clock, e_api_Cron]
          simp only [wz, wd, ws, seval, c29r10, semI.eq_10, semI.eq_11, semI.eq_3, semI.eq_5, semI.eq_7, e_api_Clock, e_api_Cron]
          refine call_alt (v := .b (.s (.d (.int .u64 c.Week)))) rfl rfl (by simp only [wz, wd, ws, seval]) (fun q => ⟨_, by simp only [wz, wd, ws, seval, semI.eq_10, e_api_Clock, e_api_Cron], trivial⟩) ?_
          simp only [wz, wd, ws, seval, c29r10, semI.eq_10, semI.eq_11, semI.eq_3, semI.eq_5, semI.eq_7, e_api_Clock, e_api_Cron]
          refine call_alt (v := .b (.s (.d (.int .i64 t.1.Week)))) rfl rfl (by simp only [wz, wd, ws, seval]) (fun q => ⟨_, by simp only [wz, wd, ws, seval, semI.eq_10, e_api_Clock, e_api_Cron], trivial⟩) ?_
          simp only [wz, wd, ws, seval, c29r10, semI.eq_10, semI.eq_11, semI.eq_3, semI.eq_5, semI.eq_7, e_api_Clock, e_api_Cron]
          obtain ⟨t6, e8, h⟩ := Option.bind_eq_some_iff.1 h
          refine call_funG [] rfl (by simp only [wz, wd, ws, seval]) rfl ?_ (fun q => (f_cron_set_ok _ _ _ (gx_iff e8 (by first | exact q | simpa using q)))) rfl (fun i hi => by cases hi) ?_
          · simp only [wz, wd, ws, seval, e_api_Clock, e_api_Cron]
          simp only [wz, wd, ws, seval, c29r10, semI.eq_10, semI.eq_11, semI.eq_3, semI.eq_5, semI.eq_7, e_api_Clock, e_api_Cron]
          repeat (refine And.intro ?_ ?_; · first | omega | (simp only [List.length_append, List.length_cons, List.length_nil] at *; omega) | (simp only [List.map_cons, List.map_nil] at *; omega) | (intro q; simp only [wz, wd, ws, seval, q]; done))
          obtain rfl := Option.some.inj h
          refine .ret ?_
          rw [← hR]
          simp only [wz, wd, ws, seval, rv29, e_api_Clock, e_api_Cron]
-- 25 consignor/consignorlaw08.alive
def c25r0 : List Opn := [
  ⟨(some 0), none, .mv (.c (.s (.d (.bool false))))⟩]
def c25r1 : List Opn := [
  ⟨(some 6), none, .call (.fn 23) [(.c (.s (.d (.str [42, 32, 42, 32, 42, 32, 42, 32, 42]))))]⟩, 
  ⟨(some 5), none, .mv (.t 6)⟩, 
  ⟨(some 7), none, .ext (.t 5) 0⟩, 
  ⟨(some 8), none, .ext (.t 5) 1⟩, 
  ⟨(some 1), none, .new [(.d (.int .u64 0)), (.d (.int .u64 0)), (.d (.int .u64 0)), (.d (.int .u64 0)), (.d (.int .u64 0)), (.d (.bool false)), (.d (.bool false))]⟩, 
  ⟨none, none, .store 7 (.t 1) (.t 7)⟩, 
  ⟨(some 2), none, .mv (.t 8)⟩]
def c25r2 : List Opn := [
  ⟨(some 10), none, .call (.fn 26) [(.c (.s (.d (.int .i64 0))))]⟩, 
  ⟨(some 9), none, .mv (.t 10)⟩, 
  ⟨(some 11), none, .ext (.t 9) 0⟩, 
  ⟨(some 12), none, .ext (.t 9) 1⟩, 
  ⟨(some 3), none, .new [(.d (.int .i64 0)), (.d (.int .i64 0)), (.d (.int .i64 0)), (.d (.int .i64 0)), (.d (.int .i64 0)), (.d (.int .i64 0))]⟩, 
  ⟨none, none, .store 6 (.t 3) (.t 11)⟩, 
  ⟨(some 4), none, .mv (.t 12)⟩]
def c25r3 : List Opn := [
  ⟨(some 13), none, .mv (.t 2)⟩, 
  ⟨(some 14), none, .bin .eql (.t 13) (.c (.s (.d (.int .i64 0))))⟩, 
  ⟨(some 15), none, .mv (.t 14)⟩, 
  ⟨(some 16), some (15, true), .mv (.t 4)⟩, 
  ⟨(some 17), some (15, true), .bin .eql (.t 16) (.c (.s (.d (.int .i64 0))))⟩, 
  ⟨(some 18), none, .pick (.t 15) (.t 17) (.c (.s (.d (.bool false))))⟩, 
  ⟨(some 19), none, .mv (.t 18)⟩, 
  ⟨(some 20), some (19, true), .load true 7 (.t 1)⟩, 
  ⟨(some 21), some (19, true), .call (.fn 29) [(.t 20), (.c (.s (.d (.int .i64 0))))]⟩, 
  ⟨(some 22), none, .pick (.t 19) (.t 21) (.c (.s (.d (.bool false))))⟩, 
  ⟨(some 23), none, .mv (.t 22)⟩, 
  ⟨(some 24), some (23, true), .load true 6 (.t 3)⟩, 
  ⟨(some 25), some (23, true), .build [(.d (.int .i64 0)), (.d (.int .i64 0)), (.d (.int .i64 0)), (.d (.int .i64 0)), (.d (.int .i64 0)), (.d (.int .i64 0))] [(2, 1, (.c (.s (.d (.int .i64 1))))), (3, 1, (.c (.s (.d (.int .i64 1))))), (4, 1, (.c (.s (.d (.int .i64 1970))))), (5, 1, (.c (.s (.d (.int .i64 4)))))]⟩, 
  ⟨(some 26), some (23, true), .bagg .eql [.int, .int, .int, .int, .int, .int] (.t 24) (.t 25)⟩, 
  ⟨(some 27), none, .pick (.t 23) (.t 26) (.c (.s (.d (.bool false))))⟩, 
  ⟨(some 0), none, .mv (.t 27)⟩]
def c25 : C := .seq (.reg c25r0 none []) (.seq (.reg c25r1 none [1, 2]) (.seq (.reg c25r2 none [1, 2, 3, 4]) (.seq (.reg c25r3 none [0]) (.ret))))
def k25 : List (Nat × List Nat) := [(3, [0]), (2, [1, 2, 3, 4]), (1, [1, 2]), (0, [])]
theorem cc25 : (Tryd.f25.body).bind (cC Tryd.prog 28 k25) = some c25 := by kernel_rfl
def rv25 : List RV := [.t 0]
theorem cr25 : cRVs Tryd.prog Tryd.f25.results.toList = some rv25 := by kernel_rfl
theorem f_law08_alive_ok (y_ : Bool) (h : f_law08_alive = some y_) : Fun Tryd.prog glP 25 [] (.b (.s (.d (.bool y_)))) := by
  refine fun_walk [] Tryd.func25 Tryd.ntmps25 cc25 cr25 (by kernel_rfl) (by simp only [List.length_cons, List.length_nil]; decide) ?_
  generalize hR : Ret _ _ _ _ _ = R_
  simp only [wz, wd, ws, seval, e_api_Clock, e_api_Cron]
  unfold f_law08_alive at h; unfold c25
  refine .seq ?_
  refine Rw.walk ?_
  simp only [wz, wd, ws, seval, c25r0, semI.eq_10, semI.eq_11, semI.eq_3, semI.eq_5, semI.eq_7, e_api_Clock, e_api_Cron]
  refine .seq ?_
  refine Rw.walk ?_
  simp only [wz, wd, ws, seval, c25r1, semI.eq_10, semI.eq_11, semI.eq_3, semI.eq_5, semI.eq_7, e_api_Clock, e_api_Cron]
  obtain ⟨t, e1, h⟩ := Option.bind_eq_some_iff.1 h
  refine call_fun [] false ⟨trivial, trivial, trivial⟩ rfl ?_ (f_cron_Parse_ok _ _ e1) (fun _ => rfl) (fun i hi => by cases hi) ?_
  · simp only [wz, wd, ws, seval, e_api_Clock, e_api_Cron]
  simp only [wz, wd, ws, seval, c25r1, semI.eq_10, semI.eq_11, semI.eq_3, semI.eq_5, semI.eq_7, e_api_Clock, e_api_Cron]
  refine .seq ?_
  refine Rw.walk ?_
  simp only [wz, wd, ws, seval, c25r2, semI.eq_10, semI.eq_11, semI.eq_3, semI.eq_5, semI.eq_7, e_api_Clock, e_api_Cron]
  obtain ⟨t2, e2, h⟩ := Option.bind_eq_some_iff.1 h
  refine call_fun [] false ⟨trivial, trivial, trivial⟩ rfl ?_ (f_cron_At_ok _ _ e2) (fun _ => rfl) (fun i hi => by cases hi) ?_
  · simp only [wz, wd, ws, seval, e_api_Clock, e_api_Cron]
  simp only [wz, wd, ws, seval, c25r2, semI.eq_10, semI.eq_11, semI.eq_3, semI.eq_5, semI.eq_7, e_api_Clock, e_api_Cron]
  refine .seq ?_
  refine Rw.walk ?_
  simp only [wz, wd, ws, seval, c25r3, semI.eq_10, semI.eq_11, semI.eq_3, semI.eq_5, semI.eq_7, e_api_Clock, e_api_Cron]
  repeat (refine And.intro ?_ ?_; · first | omega | (simp only [List.length_append, List.length_cons, List.length_nil] at *; omega) | (simp only [List.map_cons, List.map_nil] at *; omega) | (intro q; simp only [wz, wd, ws, seval, q]; done))
  refine call_alt (v := .b (.agg [(.d (.int .u64 t.1.Minutes)), (.d (.int .u64 t.1.Hours)), (.d (.int .u64 t.1.Days)), (.d (.int .u64 t.1.Months)), (.d (.int .u64 t.1.Week)), (.d (.bool t.1.AnyDay)), (.d (.bool t.1.AnyWeek))])) rfl rfl (by simp only [wz, wd, ws, seval]) (fun q => ⟨_, by simp only [wz, wd, ws, seval, semI.eq_10, e_api_Clock, e_api_Cron], trivial⟩) ?_
  simp only [wz, wd, ws, seval, c25r3, semI.eq_10, semI.eq_11, semI.eq_3, semI.eq_5, semI.eq_7, e_api_Clock, e_api_Cron]
  obtain ⟨t3, e3, h⟩ := Option.bind_eq_some_iff.1 h
  refine call_funG [] rfl (by simp only [wz, wd, ws, seval]) rfl ?_ (fun q => (f_cron_Fires_ok _ _ _ (gx_iff e3 (by first | exact q | simpa using q)))) rfl (fun i hi => by cases hi) ?_
  · simp only [wz, wd, ws, seval, e_api_Clock, e_api_Cron]
  simp only [wz, wd, ws, seval, c25r3, semI.eq_10, semI.eq_11, semI.eq_3, semI.eq_5, semI.eq_7, e_api_Clock, e_api_Cron]
  repeat (refine And.intro ?_ ?_; · first | omega | (simp only [List.length_append, List.length_cons, List.length_nil] at *; omega) | (simp only [List.map_cons, List.map_nil] at *; omega) | (intro q; simp only [wz, wd, ws, seval, q]; done))
  refine call_alt (v := .b (.agg [(.d (.int .i64 t2.1.Minute)), (.d (.int .i64 t2.1.Hour)), (.d (.int .i64 t2.1.Day)), (.d (.int .i64 t2.1.Month)), (.d (.int .i64 t2.1.Year)), (.d (.int .i64 t2.1.Week))])) rfl rfl (by simp only [wz, wd, ws, seval]) (fun q => ⟨_, by simp only [wz, wd, ws, seval, semI.eq_10, e_api_Clock, e_api_Cron], trivial⟩) ?_
  simp only [wz, wd, ws, seval, c25r3, semI.eq_10, semI.eq_11, semI.eq_3, semI.eq_5, semI.eq_7, e_api_Clock, e_api_Cron]
  repeat (refine And.intro ?_ ?_; · first | omega | (simp only [List.length_append, List.length_cons, List.length_nil] at *; omega) | (simp only [List.map_cons, List.map_nil] at *; omega) | (intro q; simp only [wz, wd, ws, seval, q]; done))
  obtain rfl := Option.some.inj h
  refine .ret ?_
  rw [← hR]
  simp only [wz, wd, ws, seval, rv25, e_api_Clock, e_api_Cron]
-- 7 consignor/consignorlaw08.CronParses
def c7r0 : List Opn := [
  ⟨(some 2), none, .mv (.c (.s (.d (.bool false))))⟩]
def c7r1 : List Opn := [
  ⟨(some 7), none, .mv (.t 0)⟩, 
  ⟨(some 8), none, .mv (.t 0)⟩, 
  ⟨(some 9), none, .len .str (.t 8)⟩, 
  ⟨(some 10), none, .mm false (.t 9) (.c (.s (.d (.int .i64 210))))⟩, 
  ⟨(some 11), none, .slc .str (.t 7) none (some (.t 10)) none⟩, 
  ⟨(some 0), none, .mv (.t 11)⟩]
def c7r2 : List Opn := [
  ⟨(some 13), none, .mv (.t 0)⟩, 
  ⟨(some 14), none, .call (.fn 23) [(.t 13)]⟩, 
  ⟨(some 12), none, .mv (.t 14)⟩, 
  ⟨(some 15), none, .ext (.t 12) 0⟩, 
  ⟨(some 16), none, .ext (.t 12) 1⟩, 
  ⟨(some 3), none, .new [(.d (.int .u64 0)), (.d (.int .u64 0)), (.d (.int .u64 0)), (.d (.int .u64 0)), (.d (.int .u64 0)), (.d (.bool false)), (.d (.bool false))]⟩, 
  ⟨none, none, .store 7 (.t 3) (.t 15)⟩, 
  ⟨(some 4), none, .mv (.t 16)⟩]
def c7r3 : List Opn := [
  ⟨(some 18), none, .mv (.t 0)⟩, 
  ⟨(some 19), none, .call (.fn 24) [(.t 18)]⟩, 
  ⟨(some 17), none, .mv (.t 19)⟩, 
  ⟨(some 20), none, .ext (.t 17) 0⟩, 
  ⟨(some 21), none, .ext (.t 17) 1⟩, 
  ⟨(some 5), none, .new [(.d (.int .u64 0)), (.d (.int .u64 0)), (.d (.int .u64 0)), (.d (.int .u64 0)), (.d (.int .u64 0)), (.d (.bool false)), (.d (.bool false))]⟩, 
  ⟨none, none, .store 7 (.t 5) (.t 20)⟩, 
  ⟨(some 6), none, .mv (.t 21)⟩]
def c7r4 : List Opn := [
  ⟨(some 22), none, .call (.fn 25) []⟩, 
  ⟨(some 23), none, .mv (.t 22)⟩, 
  ⟨(some 24), some (23, true), .load true 7 (.t 3)⟩, 
  ⟨(some 25), some (23, true), .load true 7 (.t 5)⟩, 
  ⟨(some 26), some (23, true), .bagg .eql [.int, .int, .int, .int, .int, .bool, .bool] (.t 24) (.t 25)⟩, 
  ⟨(some 27), none, .pick (.t 23) (.t 26) (.c (.s (.d (.bool false))))⟩, 
  ⟨(some 28), none, .mv (.t 27)⟩, 
  ⟨(some 29), some (28, true), .mv (.t 4)⟩, 
  ⟨(some 30), some (28, true), .bin .eql (.t 29) (.c (.s (.d (.int .i64 0))))⟩, 
  ⟨(some 31), some (28, true), .mv (.t 6)⟩, 
  ⟨(some 32), some (28, true), .bbo .eql (.t 30) (.t 31)⟩, 
  ⟨(some 33), none, .pick (.t 28) (.t 32) (.c (.s (.d (.bool false))))⟩, 
  ⟨(some 34), none, .mv (.t 33)⟩, 
  ⟨(some 35), some (34, true), .mv (.t 6)⟩, 
  ⟨(some 36), some (34, true), .mv (.t 35)⟩, 
  ⟨(some 37), some (36, false), .mv (.t 4)⟩, 
  ⟨(some 38), some (36, false), .bin .eql (.t 37) (.c (.s (.d (.int .i64 6))))⟩, 
  ⟨(some 39), some (34, true), .pick (.t 36) (.c (.s (.d (.bool true)))) (.t 38)⟩, 
  ⟨(some 40), none, .pick (.t 34) (.t 39) (.c (.s (.d (.bool false))))⟩, 
  ⟨(some 2), none, .mv (.t 40)⟩]
def c7 : C := .seq (.reg c7r0 none [0]) (.seq (.reg c7r1 none [0]) (.seq (.reg c7r2 none [0, 3, 4]) (.seq (.reg c7r3 none [3, 4, 5, 6]) (.seq (.reg c7r4 none [2]) (.ret)))))
def k7 : List (Nat × List Nat) := [(4, [2]), (3, [3, 4, 5, 6]), (2, [0, 3, 4]), (1, [0]), (0, [0])]
theorem cc7 : (Tryd.f7.body).bind (cC Tryd.prog 41 k7) = some c7 := by kernel_rfl
def rv7 : List RV := [.t 2]
theorem cr7 : cRVs Tryd.prog Tryd.f7.results.toList = some rv7 := by kernel_rfl
theorem f_law08_CronParses_ok (s : Str) (y_ : Bool) (h : f_law08_CronParses s = some y_) : Fun Tryd.prog glP 7 [.b (.s (.d (.str s)))] (.b (.s (.d (.bool y_)))) := by
  refine fun_walk [] Tryd.func7 Tryd.ntmps7 cc7 cr7 (by kernel_rfl) (by simp only [List.length_cons, List.length_nil]; decide) ?_
  generalize hR : Ret _ _ _ _ _ = R_
  simp only [wz, wd, ws, seval, e_api_Cron]
  unfold f_law08_CronParses at h; unfold c7
  refine .seq ?_
  refine Rw.walk ?_
  simp only [wz, wd, ws, seval, c7r0, semI.eq_10, semI.eq_11, semI.eq_3, semI.eq_5, semI.eq_7, e_api_Cron]
  refine .seq ?_
  refine Rw.walk ?_
  obtain ⟨g1, h⟩ := gd_iff.1 h
  simp only [wz, wd, ws, seval, c7r1, semI.eq_10, semI.eq_11, semI.eq_3, semI.eq_5, semI.eq_7, e_api_Cron]
  repeat (refine And.intro ?_ ?_; · first | omega | (simp only [List.length_append, List.length_cons, List.length_nil] at *; omega) | (simp only [List.map_cons, List.map_nil] at *; omega) | (intro q; simp only [wz, wd, ws, seval, q]; done))
  refine .seq ?_
  refine Rw.walk ?_
  simp only [wz, wd, ws, seval, c7r2, semI.eq_10, semI.eq_11, semI.eq_3, semI.eq_5, semI.eq_7, e_api_Cron]
  obtain ⟨t, e2, h⟩ := Option.bind_eq_some_iff.1 h
  refine call_fun [] false ⟨trivial, trivial, trivial⟩ rfl ?_ (f_cron_Parse_ok _ _ e2) (fun _ => rfl) (fun i hi => by cases hi) ?_
  · simp only [wz, wd, ws, seval, e_api_Cron]
  simp only [wz, wd, ws, seval, c7r2, semI.eq_10, semI.eq_11, semI.eq_3, semI.eq_5, semI.eq_7, e_api_Cron]
  refine .seq ?_
  refine Rw.walk ?_
  simp only [wz, wd, ws, seval, c7r3, semI.eq_10, semI.eq_11, semI.eq_3, semI.eq_5, semI.eq_7, e_api_Cron]
  obtain ⟨t2, e3, h⟩ := Option.bind_eq_some_iff.1 h
  refine call_fun [] false ⟨trivial, trivial, trivial⟩ rfl ?_ (f_ref08_Parse_ok _ _ e3) (fun _ => rfl) (fun i hi => by cases hi) ?_
  · simp only [wz, wd, ws, seval, e_api_Cron]
  simp only [wz, wd, ws, seval, c7r3, semI.eq_10, semI.eq_11, semI.eq_3, semI.eq_5, semI.eq_7, e_api_Cron]
  refine .seq ?_
  refine Rw.walk ?_
  simp only [wz, wd, ws, seval, c7r4, semI.eq_10, semI.eq_11, semI.eq_3, semI.eq_5, semI.eq_7, e_api_Cron]
  obtain ⟨t3, e4, h⟩ := Option.bind_eq_some_iff.1 h
  refine call_fun [] false ⟨trivial, trivial⟩ rfl ?_ (f_law08_alive_ok _ e4) (fun _ => rfl) (fun i hi => by cases hi) ?_
  · simp only [wz, wd, ws, seval, e_api_Cron]
  simp only [wz, wd, ws, seval, c7r4, semI.eq_10, semI.eq_11, semI.eq_3, semI.eq_5, semI.eq_7, e_api_Cron]
  refine call_alt (v := .b (.agg [(.d (.int .u64 t.1.Minutes)), (.d (.int .u64 t.1.Hours)), (.d (.int .u64 t.1.Days)), (.d (.int .u64 t.1.Months)), (.d (.int .u64 t.1.Week)), (.d (.bool t.1.AnyDay)), (.d (.bool t.1.AnyWeek))])) rfl rfl (by simp only [wz, wd, ws, seval]) (fun q => ⟨_, by simp only [wz, wd, ws, seval, semI.eq_10, e_api_Cron], trivial⟩) ?_
  simp only [wz, wd, ws, seval, c7r4, semI.eq_10, semI.eq_11, semI.eq_3, semI.eq_5, semI.eq_7, e_api_Cron]
  refine call_alt (v := .b (.agg [(.d (.int .u64 t2.1.Minutes)), (.d (.int .u64 t2.1.Hours)), (.d (.int .u64 t2.1.Days)), (.d (.int .u64 t2.1.Months)), (.d (.int .u64 t2.1.Week)), (.d (.bool t2.1.AnyDay)), (.d (.bool t2.1.AnyWeek))])) rfl rfl (by simp only [wz, wd, ws, seval]) (fun q => ⟨_, by simp only [wz, wd, ws, seval, semI.eq_10, e_api_Cron], trivial⟩) ?_
  simp only [wz, wd, ws, seval, c7r4, semI.eq_10, semI.eq_11, semI.eq_3, semI.eq_5, semI.eq_7, e_api_Cron]
  repeat (refine And.intro ?_ ?_; · first | omega | (simp only [List.length_append, List.length_cons, List.length_nil] at *; omega) | (simp only [List.map_cons, List.map_nil] at *; omega) | (intro q; simp only [wz, wd, ws, seval, q]; done))
  obtain rfl := Option.some.inj h
  refine .ret ?_
  rw [← hR]
  simp only [wz, wd, ws, seval, rv7, e_api_Cron]
-- 54 consignor/consignorref08.Long
def c54r0 : List Opn := [
  ⟨(some 2), none, .mv (.c (.s (.d (.bool false))))⟩]
def c54r1 : List Opn := [
  ⟨(some 3), none, .mv (.t 0)⟩, 
  ⟨(some 4), none, .bin .rem (.t 3) (.c (.s (.d (.int .i64 4))))⟩, 
  ⟨(some 5), none, .bin .eql (.t 4) (.c (.s (.d (.int .i64 0))))⟩, 
  ⟨(some 6), none, .mv (.t 5)⟩, 
  ⟨(some 7), some (6, true), .mv (.t 0)⟩, 
  ⟨(some 8), some (6, true), .bin .rem (.t 7) (.c (.s (.d (.int .i64 100))))⟩, 
  ⟨(some 9), some (6, true), .bin .neq (.t 8) (.c (.s (.d (.int .i64 0))))⟩, 
  ⟨(some 10), some (6, true), .mv (.t 9)⟩, 
  ⟨(some 11), some (10, false), .mv (.t 0)⟩, 
  ⟨(some 12), some (10, false), .bin .rem (.t 11) (.c (.s (.d (.int .i64 400))))⟩, 
  ⟨(some 13), some (10, false), .bin .eql (.t 12) (.c (.s (.d (.int .i64 0))))⟩, 
  ⟨(some 14), some (6, true), .pick (.t 10) (.c (.s (.d (.bool true)))) (.t 13)⟩, 
  ⟨(some 15), none, .pick (.t 6) (.t 14) (.c (.s (.d (.bool false))))⟩, 
  ⟨(some 2), none, .mv (.t 15)⟩]
def c54 : C := .seq (.reg c54r0 none [0]) (.seq (.reg c54r1 none [2]) (.ret))
def k54 : List (Nat × List Nat) := [(1, [2]), (0, [0])]
theorem cc54 : (Tryd.f54.body).bind (cC Tryd.prog 16 k54) = some c54 := by kernel_rfl
def rv54 : List RV := [.t 2]
theorem cr54 : cRVs Tryd.prog Tryd.f54.results.toList = some rv54 := by kernel_rfl
theorem f_ref08_Long_ok (year : Int) (y_ : Bool) (h : f_ref08_Long year = some y_) : Fun Tryd.prog glP 54 [.b (.s (.d (.int .i64 year)))] (.b (.s (.d (.bool y_)))) := by
  refine fun_walk [] Tryd.func54 Tryd.ntmps54 cc54 cr54 (by kernel_rfl) (by simp only [List.length_cons, List.length_nil]; decide) ?_
  generalize hR : Ret _ _ _ _ _ = R_
  simp only [wz, wd, ws, seval]
  unfold f_ref08_Long at h; unfold c54
  refine .seq ?_
  refine Rw.walk ?_
  simp only [wz, wd, ws, seval, c54r0, semI.eq_10, semI.eq_11, semI.eq_3, semI.eq_5, semI.eq_7]
  refine .seq ?_
  refine Rw.walk ?_
  simp only [wz, wd, ws, seval, c54r1, semI.eq_10, semI.eq_11, semI.eq_3, semI.eq_5, semI.eq_7]
  repeat (refine And.intro ?_ ?_; · first | omega | (simp only [List.length_append, List.length_cons, List.length_nil] at *; omega) | (simp only [List.map_cons, List.map_nil] at *; omega) | (intro q; simp only [wz, wd, ws, seval, q]; done))
  obtain rfl := Option.some.inj h
  refine .ret ?_
  rw [← hR]
  simp only [wz, wd, ws, seval, rv54]
-- 27 consignor/consignorref08.Days
def c27r0 : List Opn := [
  ⟨(some 4), none, .mv (.c (.s (.d (.int .i64 0))))⟩]
def c27r1 : List Opn := [
  ⟨(some 6), none, .bsl 1 [(.c (.s (.d (.int .i64 31)))), (.c (.s (.d (.int .i64 28)))), (.c (.s (.d (.int .i64 31)))), (.c (.s (.d (.int .i64 30)))), (.c (.s (.d (.int .i64 31)))), (.c (.s (.d (.int .i64 30)))), (.c (.s (.d (.int .i64 31)))), (.c (.s (.d (.int .i64 31)))), (.c (.s (.d (.int .i64 30)))), (.c (.s (.d (.int .i64 31)))), (.c (.s (.d (.int .i64 30)))), (.c (.s (.d (.int .i64 31))))]⟩, 
  ⟨(some 7), none, .mv (.t 0)⟩, 
  ⟨(some 8), none, .bin .sub (.t 7) (.c (.s (.d (.int .i64 1))))⟩, 
  ⟨(some 9), none, .iadr (.sl 1) (.t 6) (.t 8)⟩, 
  ⟨(some 10), none, .load false 1 (.t 9)⟩, 
  ⟨(some 5), none, .mv (.t 10)⟩]
def c27r2 : List Opn := [
  ⟨(some 11), none, .mv (.t 0)⟩, 
  ⟨(some 12), none, .bin .eql (.t 11) (.c (.s (.d (.int .i64 2))))⟩, 
  ⟨(some 13), none, .mv (.t 12)⟩, 
  ⟨(some 14), some (13, true), .mv (.t 1)⟩, 
  ⟨(some 15), some (13, true), .call (.fn 54) [(.t 14)]⟩, 
  ⟨(some 16), none, .pick (.t 13) (.t 15) (.c (.s (.d (.bool false))))⟩]
def c27r3 : List Opn := [
  ⟨(some 4), none, .mv (.c (.s (.d (.int .i64 29))))⟩]
def c27r4 : List Opn := [
  ⟨(some 17), none, .mv (.t 5)⟩, 
  ⟨(some 4), none, .mv (.t 17)⟩]
def c27 : C := .seq (.reg c27r0 none [0, 1]) (.seq (.reg c27r1 none [0, 1, 5]) (.seq (.seq (.reg c27r2 none [5, 16]) (.cond (.t 16) (.seq (.reg c27r3 none [4]) (.ret)) (.skip))) (.seq (.reg c27r4 none [4]) (.ret))))
def k27 : List (Nat × List Nat) := [(4, [4]), (3, [4]), (2, [5, 16]), (1, [0, 1, 5]), (0, [0, 1])]
theorem cc27 : (Tryd.f27.body).bind (cC Tryd.prog 18 k27) = some c27 := by kernel_rfl
def rv27 : List RV := [.t 4]
theorem cr27 : cRVs Tryd.prog Tryd.f27.results.toList = some rv27 := by kernel_rfl
theorem f_ref08_Days_ok (month : Int) (year : Int) (y_ : Int) (h : f_ref08_Days month year = some y_) : Fun Tryd.prog glP 27 [.b (.s (.d (.int .i64 month))), .b (.s (.d (.int .i64 year)))] (.b (.s (.d (.int .i64 y_)))) := by
  refine fun_walk [] Tryd.func27 Tryd.ntmps27 cc27 cr27 (by kernel_rfl) (by simp only [List.length_cons, List.length_nil]; decide) ?_
  generalize hR : Ret _ _ _ _ _ = R_
  simp only [wz, wd, ws, seval]
  unfold f_ref08_Days at h; unfold c27
  refine .seq ?_
  refine Rw.walk ?_
  simp only [wz, wd, ws, seval, c27r0, semI.eq_10, semI.eq_11, semI.eq_3, semI.eq_5, semI.eq_7]
  refine .seq ?_
  refine Rw.walk ?_
  simp only [wz, wd, ws, seval, c27r1, semI.eq_10, semI.eq_11, semI.eq_3, semI.eq_5, semI.eq_7]
  refine Go1.of (sem_bsl (enc := (eI .i64)) (m := ([31, 28, 31, 30, 31, 30, 31, 31, 30, 31, 30, 31] : List Int)) (eI_len _) (by rfl) (by rfl) (by rfl) ⟨trivial, trivial, trivial, trivial, trivial, trivial, trivial, trivial, trivial, trivial, trivial, trivial, trivial⟩) ?_
  simp only [wz, wd, ws, seval, c27r1, semI.eq_10, semI.eq_11, semI.eq_3, semI.eq_5, semI.eq_7]
  obtain ⟨x, e1, h⟩ := Option.bind_eq_some_iff.1 h
  refine Go1.of (sem_iadrO (l := ([31, 28, 31, 30, 31, 30, 31, 31, 30, 31, 30, 31] : List Int)) e1 (by rfl) (by rfl) (by rfl)) ?_
  simp only [wz, wd, ws, seval, c27r1, semI.eq_10, semI.eq_11, semI.eq_3, semI.eq_5, semI.eq_7, er_get e1]
  refine .seq ?_
  refine .seq ?_
  refine Rw.walk ?_
  simp only [wz, wd, ws, seval, c27r2, semI.eq_10, semI.eq_11, semI.eq_3, semI.eq_5, semI.eq_7, er_get e1]
  obtain ⟨t, e2, h⟩ := Option.bind_eq_some_iff.1 h
  refine call_funG [] rfl (by simp only [wz, wd, ws, seval]) rfl ?_ (fun q => (f_ref08_Long_ok _ _ (gx_iff e2 (by first | exact q | simpa using q)))) rfl (fun i hi => by cases hi) ?_
  · simp only [wz, wd, ws, seval, er_get e1]
  simp only [wz, wd, ws, seval, c27r2, semI.eq_10, semI.eq_11, semI.eq_3, semI.eq_5, semI.eq_7, er_get e1]
  repeat (refine And.intro ?_ ?_; · first | omega | (simp only [List.length_append, List.length_cons, List.length_nil] at *; omega) | (simp only [List.map_cons, List.map_nil] at *; omega) | (intro q; simp only [wz, wd, ws, seval, q]; done))
  refine .cond (p := ((month == 2) && t)) (by first | rfl | simp only [wz, wd, ws, seval]) (fun h1 => ?_) (fun h1 => ?_)
  · rw [ite_t h1] at h
    refine .seq ?_
    refine Rw.walk ?_
    simp only [wz, wd, ws, seval, c27r3, semI.eq_10, semI.eq_11, semI.eq_3, semI.eq_5, semI.eq_7, er_get e1]
    obtain rfl := Option.some.inj h
    refine .ret ?_
    rw [← hR]
    simp only [wz, wd, ws, seval, rv27, er_get e1]
  · rw [ite_f h1] at h
    refine .skip ?_
    refine .seq ?_
    refine Rw.walk ?_
    simp only [wz, wd, ws, seval, c27r4, semI.eq_10, semI.eq_11, semI.eq_3, semI.eq_5, semI.eq_7, er_get e1]
    obtain rfl := Option.some.inj h
    refine .ret ?_
    rw [← hR]
    simp only [wz, wd, ws, seval, rv27, er_get e1]
-- 28 consignor/consignorref08.Tick
def c28r0 : List Opn := [
  ⟨(some 1), none, .box 6 (.t 0)⟩, 
  ⟨(some 2), none, .mv (.c (.s (.d (.int .i64 0))))⟩]
def c28r1 : List Opn := [
  ⟨(some 6), none, .fadr 4 (.t 1)⟩, 
  ⟨(some 7), none, .load false 1 (.t 6)⟩, 
  ⟨(some 8), none, .bin .sub (.t 7) (.c (.s (.d (.int .i64 1))))⟩, 
  ⟨(some 3), none, .mv (.t 8)⟩]
def c28r2 : List Opn := [
  ⟨(some 9), none, .fadr 4 (.t 1)⟩, 
  ⟨(some 10), none, .load false 1 (.t 9)⟩, 
  ⟨(some 11), none, .bin .mul (.c (.s (.d (.int .i64 365)))) (.t 10)⟩, 
  ⟨(some 12), none, .mv (.t 3)⟩, 
  ⟨(some 13), none, .bin .quo (.t 12) (.c (.s (.d (.int .i64 4))))⟩, 
  ⟨(some 14), none, .bin .add (.t 11) (.t 13)⟩, 
  ⟨(some 15), none, .mv (.t 3)⟩, 
  ⟨(some 16), none, .bin .quo (.t 15) (.c (.s (.d (.int .i64 100))))⟩, 
  ⟨(some 17), none, .bin .sub (.t 14) (.t 16)⟩, 
  ⟨(some 18), none, .mv (.t 3)⟩, 
  ⟨(some 19), none, .bin .quo (.t 18) (.c (.s (.d (.int .i64 400))))⟩, 
  ⟨(some 20), none, .bin .add (.t 17) (.t 19)⟩, 
  ⟨(some 4), none, .mv (.t 20)⟩]
def c28r3 : List Opn := [
  ⟨(some 21), none, .mv (.t 4)⟩, 
  ⟨(some 22), none, .bin .sub (.t 21) (.c (.s (.d (.int .i64 719527))))⟩, 
  ⟨(some 4), none, .mv (.t 22)⟩]
def c28r4 : List Opn := [
  ⟨(some 5), none, .mv (.c (.s (.d (.int .i64 1))))⟩]
def c28r5 : List Opn := [
  ⟨(some 23), none, .mv (.t 5)⟩, 
  ⟨(some 24), none, .fadr 3 (.t 1)⟩, 
  ⟨(some 25), none, .load false 1 (.t 24)⟩, 
  ⟨(some 26), none, .bin .lss (.t 23) (.t 25)⟩]
def c28r7 : List Opn := [
  ⟨(some 29), none, .mv (.t 4)⟩, 
  ⟨(some 30), none, .mv (.t 5)⟩, 
  ⟨(some 31), none, .fadr 4 (.t 1)⟩, 
  ⟨(some 32), none, .load false 1 (.t 31)⟩, 
  ⟨(some 33), none, .call (.fn 27) [(.t 30), (.t 32)]⟩, 
  ⟨(some 34), none, .bin .add (.t 29) (.t 33)⟩, 
  ⟨(some 4), none, .mv (.t 34)⟩]
def c28r6 : List Opn := [
  ⟨(some 27), none, .mv (.t 5)⟩, 
  ⟨(some 28), none, .bin .add (.t 27) (.c (.s (.d (.int .i64 1))))⟩, 
  ⟨(some 5), none, .mv (.t 28)⟩]
def c28l8 : C := .seq (.seq (.reg c28r5 none [1, 4, 5, 26]) (.cond (.t 26) (.skip) (.exit 0))) (.seq (.blk 1 (.reg c28r7 none [1, 4, 5])) (.reg c28r6 none [1, 4, 5]))
def c28r8 : List Opn := [
  ⟨(some 35), none, .mv (.t 4)⟩, 
  ⟨(some 36), none, .fadr 2 (.t 1)⟩, 
  ⟨(some 37), none, .load false 1 (.t 36)⟩, 
  ⟨(some 38), none, .bin .add (.t 35) (.t 37)⟩, 
  ⟨(some 39), none, .bin .sub (.t 38) (.c (.s (.d (.int .i64 1))))⟩, 
  ⟨(some 40), none, .bin .mul (.c (.s (.d (.int .i64 1440)))) (.t 39)⟩, 
  ⟨(some 41), none, .fadr 1 (.t 1)⟩, 
  ⟨(some 42), none, .load false 1 (.t 41)⟩, 
  ⟨(some 43), none, .bin .mul (.c (.s (.d (.int .i64 60)))) (.t 42)⟩, 
  ⟨(some 44), none, .bin .add (.t 40) (.t 43)⟩, 
  ⟨(some 45), none, .fadr 0 (.t 1)⟩, 
  ⟨(some 46), none, .load false 1 (.t 45)⟩, 
  ⟨(some 47), none, .bin .add (.t 44) (.t 46)⟩, 
  ⟨(some 2), none, .mv (.t 47)⟩]
def c28 : C := .seq (.reg c28r0 none [1]) (.seq (.reg c28r1 none [1, 3]) (.seq (.reg c28r2 none [1, 4]) (.seq (.reg c28r3 none [1, 4]) (.seq (.seq (.reg c28r4 none [1, 4, 5]) (.blk 0 (.loop c28l8))) (.seq (.reg c28r8 none [2]) (.ret))))))
def k28 : List (Nat × List Nat) := [(8, [2]), (6, [1, 4, 5]), (7, [1, 4, 5]), (5, [1, 4, 5, 26]), (4, [1, 4, 5]), (3, [1, 4]), (2, [1, 4]), (1, [1, 3]), (0, [1])]
theorem cc28 : (Tryd.f28.body).bind (cC Tryd.prog 48 k28) = some c28 := by kernel_rfl
def rv28 : List RV := [.t 2]
theorem cr28 : cRVs Tryd.prog Tryd.f28.results.toList = some rv28 := by kernel_rfl
theorem f_ref08_Tick_l8_ok (c : api_Clock) (y_ : Int) (R_ : St → Prop) (hR : (Ret Tryd.prog glP [] rv28 (.b (.s (.d (.int .i64 y_))))) = R_) : ∀ (m_ : Nat) (n2 : Int) (mv : Int) (res_ : Int × Int) (h : f_ref08_Tick_l8 c m_ n2 mv = some res_) (k_ : List It) (hx : ∀ s_ : Int × Int, res_ = s_ → W Tryd.prog glP 48 k_ ⟨lkT [(1, .b (.s (.ptr 1 1 0 0))), (4, .b (.s (.d (.int .i64 s_.1)))), (5, .b (.s (.d (.int .i64 s_.2))))], lkG [(1, ⟨6, [[(.d (.int .i64 c.Minute)), (.d (.int .i64 c.Hour)), (.d (.int .i64 c.Day)), (.d (.int .i64 c.Month)), (.d (.int .i64 c.Year)), (.d (.int .i64 c.Week))]], false⟩)]⟩ R_), W Tryd.prog glP 48 (.c c28l8 :: .lp c28l8 :: .blk 0 :: k_) ⟨lkT [(1, .b (.s (.ptr 1 1 0 0))), (4, .b (.s (.d (.int .i64 n2)))), (5, .b (.s (.d (.int .i64 mv))))], lkG [(1, ⟨6, [[(.d (.int .i64 c.Minute)), (.d (.int .i64 c.Hour)), (.d (.int .i64 c.Day)), (.d (.int .i64 c.Month)), (.d (.int .i64 c.Year)), (.d (.int .i64 c.Week))]], false⟩)]⟩ R_ := by
  intro m_; induction m_ with
  | zero => intro n2 mv res_ h; rw [f_ref08_Tick_l8.eq_1] at h; cases h
  | succ m_ ih =>
    intro n2 mv res_ h k_ hx; rw [f_ref08_Tick_l8.eq_2] at h; refine W.cdef c28l8.eq_1 ?_
    refine .seq ?_
    refine .seq ?_
    refine Rw.walk ?_
    simp only [wz, wd, ws, seval, c28r5, semI.eq_10, semI.eq_11, semI.eq_3, semI.eq_5, semI.eq_7, e_api_Clock]
    refine .cond (p := (decide (mv < c.Month))) (by first | rfl | simp only [wz, wd, ws, seval]) (fun h1 => ?_) (fun h1 => ?_)
    · rw [ite_t h1] at h
      refine .skip ?_
      refine .seq ?_
      refine .blk ?_
      refine Rw.walk ?_
      simp only [wz, wd, ws, seval, c28r7, semI.eq_10, semI.eq_11, semI.eq_3, semI.eq_5, semI.eq_7, e_api_Clock]
      obtain ⟨t, e2, h⟩ := Option.bind_eq_some_iff.1 h
      refine call_fun [] false ⟨trivial, trivial, trivial, trivial⟩ rfl ?_ (f_ref08_Days_ok _ _ _ e2) (fun _ => rfl) (fun i hi => by cases hi) ?_
      · simp only [wz, wd, ws, seval, e_api_Clock]
      simp only [wz, wd, ws, seval, c28r7, semI.eq_10, semI.eq_11, semI.eq_3, semI.eq_5, semI.eq_7, e_api_Clock]
      refine .eblk ?_
      refine Rw.walk ?_
      simp only [wz, wd, ws, seval, c28r6, semI.eq_10, semI.eq_11, semI.eq_3, semI.eq_5, semI.eq_7, e_api_Clock]
      refine .lp ?_
      refine .weak (Imp.co [] _ _ ?_ ?_ ?_ ?_ ?_) (ih (IntKind.i64.wrap (n2 + t)) (IntKind.i64.wrap (mv + 1)) _ h k_ hx) <;> simp only [wz, wd, ws, seval, wi, er_nil, e_api_Clock]
    · rw [ite_f h1] at h
      refine .exit rfl ?_
      obtain rfl := Option.some.inj h
      refine .weak (Imp.co [] _ _ ?_ ?_ ?_ ?_ ?_) (hx _ rfl) <;> simp only [wz, wd, ws, seval, wi, er_nil, e_api_Clock]
theorem f_ref08_Tick_ok (c : api_Clock) (y_ : Int) (h : f_ref08_Tick c = some y_) : Fun Tryd.prog glP 28 [.b (.agg ((e_api_Clock c).map Lc.d))] (.b (.s (.d (.int .i64 y_)))) := by
  refine fun_walk [] Tryd.func28 Tryd.ntmps28 cc28 cr28 (by kernel_rfl) (by simp only [List.length_cons, List.length_nil]; decide) ?_
  generalize hR : Ret _ _ _ _ _ = R_
  simp only [wz, wd, ws, seval, e_api_Clock]
  unfold f_ref08_Tick at h; unfold c28
  refine .seq ?_
  refine Rw.walk ?_
  simp only [wz, wd, ws, seval, c28r0, semI.eq_10, semI.eq_11, semI.eq_3, semI.eq_5, semI.eq_7, e_api_Clock]
  refine .seq ?_
  refine Rw.walk ?_
  simp only [wz, wd, ws, seval, c28r1, semI.eq_10, semI.eq_11, semI.eq_3, semI.eq_5, semI.eq_7, e_api_Clock]
  refine .seq ?_
  refine Rw.walk ?_
  simp only [wz, wd, ws, seval, c28r2, semI.eq_10, semI.eq_11, semI.eq_3, semI.eq_5, semI.eq_7, e_api_Clock]
  repeat (refine And.intro ?_ ?_; · first | omega | (simp only [List.length_append, List.length_cons, List.length_nil] at *; omega) | (simp only [List.map_cons, List.map_nil] at *; omega) | (intro q; simp only [wz, wd, ws, seval, q]; done))
  obtain ⟨n, e1, h⟩ := Option.bind_eq_some_iff.1 h
  replace e1 := Option.some.inj e1
  first | simp only [e1] | (simp only [wz, wd, ws, seval, e_api_Clock] at e1; simp only [e1])
  refine .seq ?_
  refine Rw.walk ?_
  simp only [wz, wd, ws, seval, c28r3, semI.eq_10, semI.eq_11, semI.eq_3, semI.eq_5, semI.eq_7, e_api_Clock]
  refine .seq ?_
  refine .seq ?_
  refine Rw.walk ?_
  simp only [wz, wd, ws, seval, c28r4, semI.eq_10, semI.eq_11, semI.eq_3, semI.eq_5, semI.eq_7, e_api_Clock]
  refine .blk ?_
  obtain ⟨s, hf, h⟩ := Option.bind_eq_some_iff.1 h
  refine .loop (.weak (Imp.co [] _ _ ?c1 ?c2 ?c3 ?c4 ?c5) (f_ref08_Tick_l8_ok c _ _ hR _ _ _ _ hf _ ?_))
  case c1 | c2 | c3 | c4 | c5 => simp only [wz, wd, ws, seval, wi, er_nil, e_api_Clock]
  · intro s_ hs; subst hs
    refine .seq ?_
    refine Rw.walk ?_
    simp only [wz, wd, ws, seval, c28r8, semI.eq_10, semI.eq_11, semI.eq_3, semI.eq_5, semI.eq_7, e_api_Clock]
    obtain rfl := Option.some.inj h
    refine .ret ?_
    rw [← hR]
    simp only [wz, wd, ws, seval, rv28, e_api_Clock]
-- 8 consignor/consignorlaw08.CronTimes
def c8r0 : List Opn := [
  ⟨(some 2), none, .mv (.c (.s (.d (.bool false))))⟩]
def c8r1 : List Opn := [
  ⟨(some 6), none, .mv (.t 0)⟩, 
  ⟨(some 7), none, .call (.fn 26) [(.t 6)]⟩, 
  ⟨(some 5), none, .mv (.t 7)⟩, 
  ⟨(some 8), none, .ext (.t 5) 0⟩, 
  ⟨(some 9), none, .ext (.t 5) 1⟩, 
  ⟨(some 3), none, .new [(.d (.int .i64 0)), (.d (.int .i64 0)), (.d (.int .i64 0)), (.d (.int .i64 0)), (.d (.int .i64 0)), (.d (.int .i64 0))]⟩, 
  ⟨none, none, .store 6 (.t 3) (.t 8)⟩, 
  ⟨(some 4), none, .mv (.t 9)⟩]
def c8r2 : List Opn := [
  ⟨(some 10), none, .mv (.t 0)⟩, 
  ⟨(some 11), none, .bin .lss (.t 10) (.c (.s (.d (.int .i64 0))))⟩, 
  ⟨(some 12), none, .mv (.t 11)⟩, 
  ⟨(some 13), some (12, false), .mv (.t 0)⟩, 
  ⟨(some 14), some (12, false), .bin .gtr (.t 13) (.c (.s (.d (.int .i64 1099511627776))))⟩, 
  ⟨(some 15), none, .pick (.t 12) (.c (.s (.d (.bool true)))) (.t 14)⟩]
def c8r3 : List Opn := [
  ⟨(some 16), none, .call (.fn 25) []⟩, 
  ⟨(some 17), none, .mv (.t 16)⟩, 
  ⟨(some 18), some (17, true), .mv (.t 4)⟩, 
  ⟨(some 19), some (17, true), .bin .eql (.t 18) (.c (.s (.d (.int .i64 1))))⟩, 
  ⟨(some 20), none, .pick (.t 17) (.t 19) (.c (.s (.d (.bool false))))⟩, 
  ⟨(some 21), none, .mv (.t 20)⟩, 
  ⟨(some 22), some (21, true), .load true 6 (.t 3)⟩, 
  ⟨(some 23), some (21, true), .build [(.d (.int .i64 0)), (.d (.int .i64 0)), (.d (.int .i64 0)), (.d (.int .i64 0)), (.d (.int .i64 0)), (.d (.int .i64 0))] []⟩, 
  ⟨(some 24), some (21, true), .bagg .eql [.int, .int, .int, .int, .int, .int] (.t 22) (.t 23)⟩, 
  ⟨(some 25), none, .pick (.t 21) (.t 24) (.c (.s (.d (.bool false))))⟩, 
  ⟨(some 2), none, .mv (.t 25)⟩]
def c8r4 : List Opn := [
  ⟨(some 26), none, .mv (.t 4)⟩, 
  ⟨(some 27), none, .bin .neq (.t 26) (.c (.s (.d (.int .i64 0))))⟩, 
  ⟨(some 28), none, .mv (.t 27)⟩, 
  ⟨(some 29), some (28, false), .fadr 0 (.t 3)⟩, 
  ⟨(some 30), some (28, false), .load false 1 (.t 29)⟩, 
  ⟨(some 31), some (28, false), .bin .lss (.t 30) (.c (.s (.d (.int .i64 0))))⟩, 
  ⟨(some 32), none, .pick (.t 28) (.c (.s (.d (.bool true)))) (.t 31)⟩, 
  ⟨(some 33), none, .mv (.t 32)⟩, 
  ⟨(some 34), some (33, false), .fadr 0 (.t 3)⟩, 
  ⟨(some 35), some (33, false), .load false 1 (.t 34)⟩, 
  ⟨(some 36), some (33, false), .bin .gtr (.t 35) (.c (.s (.d (.int .i64 59))))⟩, 
  ⟨(some 37), none, .pick (.t 33) (.c (.s (.d (.bool true)))) (.t 36)⟩, 
  ⟨(some 38), none, .mv (.t 37)⟩, 
  ⟨(some 39), some (38, false), .fadr 1 (.t 3)⟩, 
  ⟨(some 40), some (38, false), .load false 1 (.t 39)⟩, 
  ⟨(some 41), some (38, false), .bin .lss (.t 40) (.c (.s (.d (.int .i64 0))))⟩, 
  ⟨(some 42), none, .pick (.t 38) (.c (.s (.d (.bool true)))) (.t 41)⟩, 
  ⟨(some 43), none, .mv (.t 42)⟩, 
  ⟨(some 44), some (43, false), .fadr 1 (.t 3)⟩, 
  ⟨(some 45), some (43, false), .load false 1 (.t 44)⟩, 
  ⟨(some 46), some (43, false), .bin .gtr (.t 45) (.c (.s (.d (.int .i64 23))))⟩, 
  ⟨(some 47), none, .pick (.t 43) (.c (.s (.d (.bool true)))) (.t 46)⟩, 
  ⟨(some 48), none, .mv (.t 47)⟩, 
  ⟨(some 49), some (48, false), .fadr 3 (.t 3)⟩, 
  ⟨(some 50), some (48, false), .load false 1 (.t 49)⟩, 
  ⟨(some 51), some (48, false), .bin .lss (.t 50) (.c (.s (.d (.int .i64 1))))⟩, 
  ⟨(some 52), none, .pick (.t 48) (.c (.s (.d (.bool true)))) (.t 51)⟩, 
  ⟨(some 53), none, .mv (.t 52)⟩, 
  ⟨(some 54), some (53, false), .fadr 3 (.t 3)⟩, 
  ⟨(some 55), some (53, false), .load false 1 (.t 54)⟩, 
  ⟨(some 56), some (53, false), .bin .gtr (.t 55) (.c (.s (.d (.int .i64 12))))⟩, 
  ⟨(some 57), none, .pick (.t 53) (.c (.s (.d (.bool true)))) (.t 56)⟩, 
  ⟨(some 58), none, .mv (.t 57)⟩, 
  ⟨(some 59), some (58, false), .fadr 4 (.t 3)⟩, 
  ⟨(some 60), some (58, false), .load false 1 (.t 59)⟩, 
  ⟨(some 61), some (58, false), .bin .lss (.t 60) (.c (.s (.d (.int .i64 1970))))⟩, 
  ⟨(some 62), none, .pick (.t 58) (.c (.s (.d (.bool true)))) (.t 61)⟩, 
  ⟨(some 63), none, .mv (.t 62)⟩, 
  ⟨(some 64), some (63, false), .fadr 4 (.t 3)⟩, 
  ⟨(some 65), some (63, false), .load false 1 (.t 64)⟩, 
  ⟨(some 66), some (63, false), .bin .gtr (.t 65) (.c (.s (.d (.int .i64 3000000))))⟩, 
  ⟨(some 67), none, .pick (.t 63) (.c (.s (.d (.bool true)))) (.t 66)⟩, 
  ⟨(some 68), none, .mv (.t 67)⟩, 
  ⟨(some 69), some (68, false), .fadr 2 (.t 3)⟩, 
  ⟨(some 70), some (68, false), .load false 1 (.t 69)⟩, 
  ⟨(some 71), some (68, false), .bin .lss (.t 70) (.c (.s (.d (.int .i64 1))))⟩, 
  ⟨(some 72), none, .pick (.t 68) (.c (.s (.d (.bool true)))) (.t 71)⟩, 
  ⟨(some 73), none, .mv (.t 72)⟩, 
  ⟨(some 74), some (73, false), .fadr 2 (.t 3)⟩, 
  ⟨(some 75), some (73, false), .load false 1 (.t 74)⟩, 
  ⟨(some 76), some (73, false), .fadr 3 (.t 3)⟩, 
  ⟨(some 77), some (73, false), .load false 1 (.t 76)⟩, 
  ⟨(some 78), some (73, false), .fadr 4 (.t 3)⟩, 
  ⟨(some 79), some (73, false), .load false 1 (.t 78)⟩, 
  ⟨(some 80), some (73, false), .call (.fn 27) [(.t 77), (.t 79)]⟩, 
  ⟨(some 81), some (73, false), .bin .gtr (.t 75) (.t 80)⟩, 
  ⟨(some 82), none, .pick (.t 73) (.c (.s (.d (.bool true)))) (.t 81)⟩]
def c8r5 : List Opn := [
  ⟨(some 2), none, .mv (.c (.s (.d (.bool false))))⟩]
def c8r6 : List Opn := [
  ⟨(some 83), none, .call (.fn 25) []⟩, 
  ⟨(some 84), none, .mv (.t 83)⟩, 
  ⟨(some 85), some (84, true), .load true 6 (.t 3)⟩, 
  ⟨(some 86), some (84, true), .call (.fn 28) [(.t 85)]⟩, 
  ⟨(some 87), some (84, true), .mv (.t 0)⟩, 
  ⟨(some 88), some (84, true), .bin .eql (.t 86) (.t 87)⟩, 
  ⟨(some 89), none, .pick (.t 84) (.t 88) (.c (.s (.d (.bool false))))⟩, 
  ⟨(some 90), none, .mv (.t 89)⟩, 
  ⟨(some 91), some (90, true), .fadr 5 (.t 3)⟩, 
  ⟨(some 92), some (90, true), .load false 1 (.t 91)⟩, 
  ⟨(some 93), some (90, true), .mv (.t 0)⟩, 
  ⟨(some 94), some (90, true), .bin .quo (.t 93) (.c (.s (.d (.int .i64 1440))))⟩, 
  ⟨(some 95), some (90, true), .bin .add (.t 94) (.c (.s (.d (.int .i64 4))))⟩, 
  ⟨(some 96), some (90, true), .bin .rem (.t 95) (.c (.s (.d (.int .i64 7))))⟩, 
  ⟨(some 97), some (90, true), .bin .eql (.t 92) (.t 96)⟩, 
  ⟨(some 98), none, .pick (.t 90) (.t 97) (.c (.s (.d (.bool false))))⟩, 
  ⟨(some 2), none, .mv (.t 98)⟩]
def c8 : C := .seq (.reg c8r0 none [0]) (.seq (.reg c8r1 none [0, 3, 4]) (.seq (.seq (.reg c8r2 none [0, 3, 4, 15]) (.cond (.t 15) (.seq (.reg c8r3 none [2]) (.ret)) (.skip))) (.seq (.seq (.reg c8r4 (some [0, 1, 3, 7, 15, 31, 63, 127, 255, 511, 1023, 2047, 4095, 8191, 16383, 32767, 65535, 131071, 262143, 524287, 1048575, 2097151, 4194303, 8388607, 16777215, 33554431, 67108863, 134217727, 268435455, 536870911, 1073741823, 2147483647, 4294967295, 8589934591, 17179869183, 34359738367, 68719476735, 137438953471, 274877906943, 549755813887, 1099511627775, 2199023255551, 4398046511103, 8796093022207, 17592186044415, 35184372088831, 70368744177663, 140737488355327, 281474976710655, 562949953421311, 281474976710655, 1407374883553279, 281474976710655, 4785074604081151, 17169973579350015, 36028797018963967, 72057594037927935]) [0, 3, 82]) (.cond (.t 82) (.seq (.reg c8r5 none [2]) (.ret)) (.skip))) (.seq (.reg c8r6 none [2]) (.ret)))))
def k8 : List (Nat × List Nat) := [(6, [2]), (5, [2]), (4, [0, 3, 82]), (3, [2]), (2, [0, 3, 4, 15]), (1, [0, 3, 4]), (0, [0])]
theorem cc8 : (Tryd.f8.body).bind (cC Tryd.prog 99 k8) = some c8 := by kernel_rfl
def rv8 : List RV := [.t 2]
theorem cr8 : cRVs Tryd.prog Tryd.f8.results.toList = some rv8 := by kernel_rfl
theorem f_law08_CronTimes_ok (tick : Int) (y_ : Bool) (h : f_law08_CronTimes tick = some y_) : Fun Tryd.prog glP 8 [.b (.s (.d (.int .i64 tick)))] (.b (.s (.d (.bool y_)))) := by
  refine fun_walk [] Tryd.func8 Tryd.ntmps8 cc8 cr8 (by kernel_rfl) (by simp only [List.length_cons, List.length_nil]; decide) ?_
  generalize hR : Ret _ _ _ _ _ = R_
  simp only [wz, wd, ws, seval, e_api_Clock]
  unfold f_law08_CronTimes at h; unfold c8
  refine .seq ?_
  refine Rw.walk ?_
  simp only [wz, wd, ws, seval, c8r0, semI.eq_10, semI.eq_11, semI.eq_3, semI.eq_5, semI.eq_7, e_api_Clock]
  refine .seq ?_
  refine Rw.walk ?_
  simp only [wz, wd, ws, seval, c8r1, semI.eq_10, semI.eq_11, semI.eq_3, semI.eq_5, semI.eq_7, e_api_Clock]
  obtain ⟨t, e1, h⟩ := Option.bind_eq_some_iff.1 h
  refine call_fun [] false ⟨trivial, trivial, trivial⟩ rfl ?_ (f_cron_At_ok _ _ e1) (fun _ => rfl) (fun i hi => by cases hi) ?_
  · simp only [wz, wd, ws, seval, e_api_Clock]
  simp only [wz, wd, ws, seval, c8r1, semI.eq_10, semI.eq_11, semI.eq_3, semI.eq_5, semI.eq_7, e_api_Clock]
  refine .seq ?_
  refine .seq ?_
  refine Rw.walk ?_
  simp only [wz, wd, ws, seval, c8r2, semI.eq_10, semI.eq_11, semI.eq_3, semI.eq_5, semI.eq_7, e_api_Clock]
  repeat (refine And.intro ?_ ?_; · first | omega | (simp only [List.length_append, List.length_cons, List.length_nil] at *; omega) | (simp only [List.map_cons, List.map_nil] at *; omega) | (intro q; simp only [wz, wd, ws, seval, q]; done))
  refine .cond (p := ((decide (tick < 0)) || (decide (tick > 1099511627776)))) (by first | rfl | simp only [wz, wd, ws, seval]) (fun h1 => ?_) (fun h1 => ?_)
  · rw [ite_t h1] at h
    refine .seq ?_
    refine Rw.walk ?_
    simp only [wz, wd, ws, seval, c8r3, semI.eq_10, semI.eq_11, semI.eq_3, semI.eq_5, semI.eq_7, e_api_Clock]
    obtain ⟨t2, e2, h⟩ := Option.bind_eq_some_iff.1 h
    refine call_fun [] false ⟨trivial, trivial⟩ rfl ?_ (f_law08_alive_ok _ e2) (fun _ => rfl) (fun i hi => by cases hi) ?_
    · simp only [wz, wd, ws, seval, e_api_Clock]
    simp only [wz, wd, ws, seval, c8r3, semI.eq_10, semI.eq_11, semI.eq_3, semI.eq_5, semI.eq_7, e_api_Clock]
    repeat (refine And.intro ?_ ?_; · first | omega | (simp only [List.length_append, List.length_cons, List.length_nil] at *; omega) | (simp only [List.map_cons, List.map_nil] at *; omega) | (intro q; simp only [wz, wd, ws, seval, q]; done))
    refine call_alt (v := .b (.agg [(.d (.int .i64 t.1.Minute)), (.d (.int .i64 t.1.Hour)), (.d (.int .i64 t.1.Day)), (.d (.int .i64 t.1.Month)), (.d (.int .i64 t.1.Year)), (.d (.int .i64 t.1.Week))])) rfl rfl (by simp only [wz, wd, ws, seval]) (fun q => ⟨_, by simp only [wz, wd, ws, seval, semI.eq_10, e_api_Clock], trivial⟩) ?_
    simp only [wz, wd, ws, seval, c8r3, semI.eq_10, semI.eq_11, semI.eq_3, semI.eq_5, semI.eq_7, e_api_Clock]
    repeat (refine And.intro ?_ ?_; · first | omega | (simp only [List.length_append, List.length_cons, List.length_nil] at *; omega) | (simp only [List.map_cons, List.map_nil] at *; omega) | (intro q; simp only [wz, wd, ws, seval, q]; done))
    obtain rfl := Option.some.inj h
    refine .ret ?_
    rw [← hR]
    simp only [wz, wd, ws, seval, rv8, e_api_Clock]
  · rw [ite_f h1] at h
    refine .skip ?_
    refine .seq ?_
    refine .seq ?_
    refine RwD.walk ?_
    simp only [wz, wd, ws, seval, c8r4, semI.eq_10, semI.eq_11, semI.eq_3, semI.eq_5, semI.eq_7, e_api_Clock]
    refine call_alt (v := .b (.s (.d (.int .i64 t.1.Minute)))) rfl rfl (by simp only [wz, wd, ws, seval]) (fun q => ⟨_, by simp only [wz, wd, ws, seval, semI.eq_10, e_api_Clock], trivial⟩) ?_
    simp only [wz, wd, ws, seval, c8r4, semI.eq_10, semI.eq_11, semI.eq_3, semI.eq_5, semI.eq_7, e_api_Clock]
    repeat (refine And.intro ?_ ?_; · first | omega | (simp only [List.length_append, List.length_cons, List.length_nil] at *; omega) | (simp only [List.map_cons, List.map_nil] at *; omega) | (intro q; simp only [wz, wd, ws, seval, q]; done))
    refine call_alt (v := .b (.s (.d (.int .i64 t.1.Minute)))) rfl rfl (by simp only [wz, wd, ws, seval]) (fun q => ⟨_, by simp only [wz, wd, ws, seval, semI.eq_10, e_api_Clock], trivial⟩) ?_
    simp only [wz, wd, ws, seval, c8r4, semI.eq_10, semI.eq_11, semI.eq_3, semI.eq_5, semI.eq_7, e_api_Clock]
    repeat (refine And.intro ?_ ?_; · first | omega | (simp only [List.length_append, List.length_cons, List.length_nil] at *; omega) | (simp only [List.map_cons, List.map_nil] at *; omega) | (intro q; simp only [wz, wd, ws, seval, q]; done))
    refine call_alt (v := .b (.s (.d (.int .i64 t.1.Hour)))) rfl rfl (by simp only [wz, wd, ws, seval]) (fun q => ⟨_, by simp only [wz, wd, ws, seval, semI.eq_10, e_api_Clock], trivial⟩) ?_
    simp only [wz, wd, ws, seval, c8r4, semI.eq_10, semI.eq_11, semI.eq_3, semI.eq_5, semI.eq_7, e_api_Clock]
    repeat (refine And.intro ?_ ?_; · first | omega | (simp only [List.length_append, List.length_cons, List.length_nil] at *; omega) | (simp only [List.map_cons, List.map_nil] at *; omega) | (intro q; simp only [wz, wd, ws, seval, q]; done))
    refine call_alt (v := .b (.s (.d (.int .i64 t.1.Hour)))) rfl rfl (by simp only [wz, wd, ws, seval]) (fun q => ⟨_, by simp only [wz, wd, ws, seval, semI.eq_10, e_api_Clock], trivial⟩) ?_
    simp only [wz, wd, ws, seval, c8r4, semI.eq_10, semI.eq_11, semI.eq_3, semI.eq_5, semI.eq_7, e_api_Clock]
    repeat (refine And.intro ?_ ?_; · first | omega | (simp only [List.length_append, List.length_cons, List.length_nil] at *; omega) | (simp only [List.map_cons, List.map_nil] at *; omega) | (intro q; simp only [wz, wd, ws, seval, q]; done))
    refine call_alt (v := .b (.s (.d (.int .i64 t.1.Month)))) rfl rfl (by simp only [wz, wd, ws, seval]) (fun q => ⟨_, by simp only [wz, wd, ws, seval, semI.eq_10, e_api_Clock], trivial⟩) ?_
    simp only [wz, wd, ws, seval, c8r4, semI.eq_10, semI.eq_11, semI.eq_3, semI.eq_5, semI.eq_7, e_api_Clock]
    repeat (refine And.intro ?_ ?_; · first | omega | (simp only [List.length_append, List.length_cons, List.length_nil] at *; omega) | (simp only [List.map_cons, List.map_nil] at *; omega) | (intro q; simp only [wz, wd, ws, seval, q]; done))
    refine call_alt (v := .b (.s (.d (.int .i64 t.1.Month)))) rfl rfl (by simp only [wz, wd, ws, seval]) (fun q => ⟨_, by simp only [wz, wd, ws, seval, semI.eq_10, e_api_Clock], trivial⟩) ?_
    simp only [wz, wd, ws, seval, c8r4, semI.eq_10, semI.eq_11, semI.eq_3, semI.eq_5, semI.eq_7, e_api_Clock]
    repeat (refine And.intro ?_ ?_; · first | omega | (simp only [List.length_append, List.length_cons, List.length_nil] at *; omega) | (simp only [List.map_cons, List.map_nil] at *; omega) | (intro q; simp only [wz, wd, ws, seval, q]; done))
    refine call_alt (v := .b (.s (.d (.int .i64 t.1.Year)))) rfl rfl (by simp only [wz, wd, ws, seval]) (fun q => ⟨_, by simp only [wz, wd, ws, seval, semI.eq_10, e_api_Clock], trivial⟩) ?_
    simp only [wz, wd, ws, seval, c8r4, semI.eq_10, semI.eq_11, semI.eq_3, semI.eq_5, semI.eq_7, e_api_Clock]
    repeat (refine And.intro ?_ ?_; · first | omega | (simp only [List.length_append, List.length_cons, List.length_nil] at *; omega) | (simp only [List.map_cons, List.map_nil] at *; omega) | (intro q; simp only [wz, wd, ws, seval, q]; done))
    refine call_alt (v := .b (.s (.d (.int .i64 t.1.Year)))) rfl rfl (by simp only [wz, wd, ws, seval]) (fun q => ⟨_, by simp only [wz, wd, ws, seval, semI.eq_10, e_api_Clock], trivial⟩) ?_
    simp only [wz, wd, ws, seval, c8r4, semI.eq_10, semI.eq_11, semI.eq_3, semI.eq_5, semI.eq_7, e_api_Clock]
    repeat (refine And.intro ?_ ?_; · first | omega | (simp only [List.length_append, List.length_cons, List.length_nil] at *; omega) | (simp only [List.map_cons, List.map_nil] at *; omega) | (intro q; simp only [wz, wd, ws, seval, q]; done))
    refine call_alt (v := .b (.s (.d (.int .i64 t.1.Day)))) rfl rfl (by simp only [wz, wd, ws, seval]) (fun q => ⟨_, by simp only [wz, wd, ws, seval, semI.eq_10, e_api_Clock], trivial⟩) ?_
    simp only [wz, wd, ws, seval, c8r4, semI.eq_10, semI.eq_11, semI.eq_3, semI.eq_5, semI.eq_7, e_api_Clock]
    repeat (refine And.intro ?_ ?_; · first | omega | (simp only [List.length_append, List.length_cons, List.length_nil] at *; omega) | (simp only [List.map_cons, List.map_nil] at *; omega) | (intro q; simp only [wz, wd, ws, seval, q]; done))
    refine call_alt (v := .b (.s (.d (.int .i64 t.1.Day)))) rfl rfl (by simp only [wz, wd, ws, seval]) (fun q => ⟨_, by simp only [wz, wd, ws, seval, semI.eq_10, e_api_Clock], trivial⟩) ?_
    simp only [wz, wd, ws, seval, c8r4, semI.eq_10, semI.eq_11, semI.eq_3, semI.eq_5, semI.eq_7, e_api_Clock]
    refine call_alt (v := .b (.s (.d (.int .i64 t.1.Month)))) rfl rfl (by simp only [wz, wd, ws, seval]) (fun q => ⟨_, by simp only [wz, wd, ws, seval, semI.eq_10, e_api_Clock], trivial⟩) ?_
    simp only [wz, wd, ws, seval, c8r4, semI.eq_10, semI.eq_11, semI.eq_3, semI.eq_5, semI.eq_7, e_api_Clock]
    refine call_alt (v := .b (.s (.d (.int .i64 t.1.Year)))) rfl rfl (by simp only [wz, wd, ws, seval]) (fun q => ⟨_, by simp only [wz, wd, ws, seval, semI.eq_10, e_api_Clock], trivial⟩) ?_
    simp only [wz, wd, ws, seval, c8r4, semI.eq_10, semI.eq_11, semI.eq_3, semI.eq_5, semI.eq_7, e_api_Clock]
    obtain ⟨t2, e3, h⟩ := Option.bind_eq_some_iff.1 h
    refine call_funG [] rfl (by simp only [wz, wd, ws, seval]) rfl ?_ (fun q => (f_ref08_Days_ok _ _ _ (gx_iff e3 (by first | exact q | simpa using q)))) rfl (fun i hi => by cases hi) ?_
    · simp only [wz, wd, ws, seval, e_api_Clock]
    simp only [wz, wd, ws, seval, c8r4, semI.eq_10, semI.eq_11, semI.eq_3, semI.eq_5, semI.eq_7, e_api_Clock]
    repeat (refine And.intro ?_ ?_; · first | omega | (simp only [List.length_append, List.length_cons, List.length_nil] at *; omega) | (simp only [List.map_cons, List.map_nil] at *; omega) | (intro q; simp only [wz, wd, ws, seval, q]; done))
    refine .cond (p := (((((((((((t.2 != 0) || (decide (t.1.Minute < 0))) || (decide (t.1.Minute > 59))) || (decide (t.1.Hour < 0))) || (decide (t.1.Hour > 23))) || (decide (t.1.Month < 1))) || (decide (t.1.Month > 12))) || (decide (t.1.Year < 1970))) || (decide (t.1.Year > 3000000))) || (decide (t.1.Day < 1))) || (decide (t.1.Day > t2)))) (by first | rfl | simp only [wz, wd, ws, seval]) (fun h1 => ?_) (fun h1 => ?_)
    · rw [ite_t h1] at h
      refine .seq ?_
      refine Rw.walk ?_
      simp only [wz, wd, ws, seval, c8r5, semI.eq_10, semI.eq_11, semI.eq_3, semI.eq_5, semI.eq_7, e_api_Clock]
      obtain rfl := Option.some.inj h
      refine .ret ?_
      rw [← hR]
      simp only [wz, wd, ws, seval, rv8, e_api_Clock]
    · rw [ite_f h1] at h
      refine .skip ?_
      refine .seq ?_
      refine Rw.walk ?_
      simp only [wz, wd, ws, seval, c8r6, semI.eq_10, semI.eq_11, semI.eq_3, semI.eq_5, semI.eq_7, e_api_Clock]
      obtain ⟨t3, e4, h⟩ := Option.bind_eq_some_iff.1 h
      refine call_fun [] false ⟨trivial, trivial⟩ rfl ?_ (f_law08_alive_ok _ e4) (fun _ => rfl) (fun i hi => by cases hi) ?_
      · simp only [wz, wd, ws, seval, e_api_Clock]
      simp only [wz, wd, ws, seval, c8r6, semI.eq_10, semI.eq_11, semI.eq_3, semI.eq_5, semI.eq_7, e_api_Clock]
      refine call_alt (v := .b (.agg [(.d (.int .i64 t.1.Minute)), (.d (.int .i64 t.1.Hour)), (.d (.int .i64 t.1.Day)), (.d (.int .i64 t.1.Month)), (.d (.int .i64 t.1.Year)), (.d (.int .i64 t.1.Week))])) rfl rfl (by simp only [wz, wd, ws, seval]) (fun q => ⟨_, by simp only [wz, wd, ws, seval, semI.eq_10, e_api_Clock], trivial⟩) ?_
      simp only [wz, wd, ws, seval, c8r6, semI.eq_10, semI.eq_11, semI.eq_3, semI.eq_5, semI.eq_7, e_api_Clock]
      obtain ⟨t4, e5, h⟩ := Option.bind_eq_some_iff.1 h
      refine call_funG [] rfl (by simp only [wz, wd, ws, seval]) rfl ?_ (fun q => (f_ref08_Tick_ok _ _ (gx_iff e5 (by first | exact q | simpa using q)))) rfl (fun i hi => by cases hi) ?_
      · simp only [wz, wd, ws, seval, e_api_Clock]
      simp only [wz, wd, ws, seval, c8r6, semI.eq_10, semI.eq_11, semI.eq_3, semI.eq_5, semI.eq_7, e_api_Clock]
      repeat (refine And.intro ?_ ?_; · first | omega | (simp only [List.length_append, List.length_cons, List.length_nil] at *; omega) | (simp only [List.map_cons, List.map_nil] at *; omega) | (intro q; simp only [wz, wd, ws, seval, q]; done))
      refine call_alt (v := .b (.s (.d (.int .i64 t.1.Week)))) rfl rfl (by simp only [wz, wd, ws, seval]) (fun q => ⟨_, by simp only [wz, wd, ws, seval, semI.eq_10, e_api_Clock], trivial⟩) ?_
      simp only [wz, wd, ws, seval, c8r6, semI.eq_10, semI.eq_11, semI.eq_3, semI.eq_5, semI.eq_7, e_api_Clock]
      repeat (refine And.intro ?_ ?_; · first | omega | (simp only [List.length_append, List.length_cons, List.length_nil] at *; omega) | (simp only [List.map_cons, List.map_nil] at *; omega) | (intro q; simp only [wz, wd, ws, seval, q]; done))
      obtain rfl := Option.some.inj h
      refine .ret ?_
      rw [← hR]
      simp only [wz, wd, ws, seval, rv8, e_api_Clock]
end Go.Proofs.YthcngbbceahdlaaDoor.V
end

section
/- Go functions compute what Lean functions do. -/
namespace Go.Proofs.YthcngbbceahdlaaDoor.V
open Go Go.RowKit
set_option linter.unusedVariables false
set_option linter.unusedSimpArgs false
set_option maxHeartbeats 1000000
set_option maxRecDepth 20000
-- 9 consignor/consignorlaw08.CronDays
def c9r0 : List Opn := [
  ⟨(some 4), none, .mv (.c (.s (.d (.bool false))))⟩]
def c9r1 : List Opn := [
  ⟨(some 13), none, .mv (.t 0)⟩, 
  ⟨(some 14), none, .bin .rem (.t 13) (.c (.s (.d (.int .i64 1000000000))))⟩, 
  ⟨(some 15), none, .bin .add (.t 14) (.c (.s (.d (.int .i64 1000000000))))⟩, 
  ⟨(some 16), none, .bin .rem (.t 15) (.c (.s (.d (.int .i64 1000000000))))⟩, 
  ⟨(some 0), none, .mv (.t 16)⟩]
def c9r2 : List Opn := [
  ⟨(some 17), none, .mv (.t 1)⟩, 
  ⟨(some 18), none, .bin .rem (.t 17) (.c (.s (.d (.int .i64 7))))⟩, 
  ⟨(some 19), none, .bin .add (.t 18) (.c (.s (.d (.int .i64 7))))⟩, 
  ⟨(some 20), none, .bin .rem (.t 19) (.c (.s (.d (.int .i64 7))))⟩, 
  ⟨(some 1), none, .mv (.t 20)⟩]
def c9r3 : List Opn := [
  ⟨(some 22), none, .mv (.t 1)⟩, 
  ⟨(some 23), none, .bin .add (.c (.s (.d (.int .i64 48)))) (.t 22)⟩, 
  ⟨(some 24), none, .cv (.toInt .u8) (.t 23)⟩, 
  ⟨(some 25), none, .bsl 1 [(.t 24)]⟩, 
  ⟨(some 26), none, .cv .b2s (.t 25)⟩, 
  ⟨(some 27), none, .bin .add (.c (.s (.d (.str [42, 32, 42, 32, 42, 32, 42, 32])))) (.t 26)⟩, 
  ⟨(some 28), none, .call (.fn 23) [(.t 27)]⟩, 
  ⟨(some 21), none, .mv (.t 28)⟩, 
  ⟨(some 29), none, .ext (.t 21) 0⟩, 
  ⟨(some 30), none, .ext (.t 21) 1⟩, 
  ⟨(some 5), none, .new [(.d (.int .u64 0)), (.d (.int .u64 0)), (.d (.int .u64 0)), (.d (.int .u64 0)), (.d (.int .u64 0)), (.d (.bool false)), (.d (.bool false))]⟩, 
  ⟨none, none, .store 7 (.t 5) (.t 29)⟩, 
  ⟨(some 6), none, .mv (.t 30)⟩]
def c9r4 : List Opn := [
  ⟨(some 31), none, .mv (.t 6)⟩, 
  ⟨(some 32), none, .bin .neq (.t 31) (.c (.s (.d (.int .i64 0))))⟩, 
  ⟨(some 33), none, .mv (.t 32)⟩, 
  ⟨(some 34), some (33, false), .call (.fn 25) []⟩, 
  ⟨(some 35), some (33, false), .un .not (.t 34)⟩, 
  ⟨(some 36), none, .pick (.t 33) (.c (.s (.d (.bool true)))) (.t 35)⟩]
def c9r5 : List Opn := [
  ⟨(some 4), none, .mv (.c (.s (.d (.bool false))))⟩]
def c9r6 : List Opn := [
  ⟨(some 7), none, .mv (.c (.s (.d (.int .i64 0))))⟩]
def c9r7 : List Opn := [
  ⟨(some 37), none, .mv (.c (.s (.d (.int .i64 0))))⟩]
def c9r8 : List Opn := [
  ⟨(some 38), none, .bin .lss (.t 37) (.c (.s (.d (.int .i64 7))))⟩]
def c9r9 : List Opn := [
  ⟨(some 39), none, .mv (.t 37)⟩, 
  ⟨(some 8), none, .mv (.t 39)⟩]
def c9r10 : List Opn := [
  ⟨(some 41), none, .mv (.t 0)⟩, 
  ⟨(some 42), none, .mv (.t 8)⟩, 
  ⟨(some 43), none, .bin .mul (.c (.s (.d (.int .i64 1440)))) (.t 42)⟩, 
  ⟨(some 44), none, .bin .add (.t 41) (.t 43)⟩, 
  ⟨(some 45), none, .call (.fn 26) [(.t 44)]⟩, 
  ⟨(some 40), none, .mv (.t 45)⟩, 
  ⟨(some 46), none, .ext (.t 40) 0⟩, 
  ⟨(some 47), none, .ext (.t 40) 1⟩, 
  ⟨(some 9), none, .new [(.d (.int .i64 0)), (.d (.int .i64 0)), (.d (.int .i64 0)), (.d (.int .i64 0)), (.d (.int .i64 0)), (.d (.int .i64 0))]⟩, 
  ⟨none, none, .store 6 (.t 9) (.t 46)⟩, 
  ⟨(some 10), none, .mv (.t 47)⟩]
def c9r11 : List Opn := [
  ⟨(some 49), none, .mv (.t 0)⟩, 
  ⟨(some 50), none, .mv (.t 8)⟩, 
  ⟨(some 51), none, .bin .add (.t 50) (.c (.s (.d (.int .i64 1))))⟩, 
  ⟨(some 52), none, .bin .mul (.c (.s (.d (.int .i64 1440)))) (.t 51)⟩, 
  ⟨(some 53), none, .bin .add (.t 49) (.t 52)⟩, 
  ⟨(some 54), none, .call (.fn 26) [(.t 53)]⟩, 
  ⟨(some 48), none, .mv (.t 54)⟩, 
  ⟨(some 55), none, .ext (.t 48) 0⟩, 
  ⟨(some 56), none, .ext (.t 48) 1⟩, 
  ⟨(some 11), none, .new [(.d (.int .i64 0)), (.d (.int .i64 0)), (.d (.int .i64 0)), (.d (.int .i64 0)), (.d (.int .i64 0)), (.d (.int .i64 0))]⟩, 
  ⟨none, none, .store 6 (.t 11) (.t 55)⟩, 
  ⟨(some 12), none, .mv (.t 56)⟩]
def c9r12 : List Opn := [
  ⟨(some 57), none, .mv (.t 10)⟩, 
  ⟨(some 58), none, .bin .neq (.t 57) (.c (.s (.d (.int .i64 0))))⟩, 
  ⟨(some 59), none, .mv (.t 58)⟩, 
  ⟨(some 60), some (59, false), .mv (.t 12)⟩, 
  ⟨(some 61), some (59, false), .bin .neq (.t 60) (.c (.s (.d (.int .i64 0))))⟩, 
  ⟨(some 62), none, .pick (.t 59) (.c (.s (.d (.bool true)))) (.t 61)⟩, 
  ⟨(some 63), none, .mv (.t 62)⟩, 
  ⟨(some 64), some (63, false), .fadr 0 (.t 9)⟩, 
  ⟨(some 65), some (63, false), .load false 1 (.t 64)⟩, 
  ⟨(some 66), some (63, false), .fadr 0 (.t 11)⟩, 
  ⟨(some 67), some (63, false), .load false 1 (.t 66)⟩, 
  ⟨(some 68), some (63, false), .bin .neq (.t 65) (.t 67)⟩, 
  ⟨(some 69), none, .pick (.t 63) (.c (.s (.d (.bool true)))) (.t 68)⟩, 
  ⟨(some 70), none, .mv (.t 69)⟩, 
  ⟨(some 71), some (70, false), .fadr 1 (.t 9)⟩, 
  ⟨(some 72), some (70, false), .load false 1 (.t 71)⟩, 
  ⟨(some 73), some (70, false), .fadr 1 (.t 11)⟩, 
  ⟨(some 74), some (70, false), .load false 1 (.t 73)⟩, 
  ⟨(some 75), some (70, false), .bin .neq (.t 72) (.t 74)⟩, 
  ⟨(some 76), none, .pick (.t 70) (.c (.s (.d (.bool true)))) (.t 75)⟩, 
  ⟨(some 77), none, .mv (.t 76)⟩, 
  ⟨(some 78), some (77, false), .fadr 5 (.t 11)⟩, 
  ⟨(some 79), some (77, false), .load false 1 (.t 78)⟩, 
  ⟨(some 80), some (77, false), .fadr 5 (.t 9)⟩, 
  ⟨(some 81), some (77, false), .load false 1 (.t 80)⟩, 
  ⟨(some 82), some (77, false), .bin .add (.t 81) (.c (.s (.d (.int .i64 1))))⟩, 
  ⟨(some 83), some (77, false), .bin .rem (.t 82) (.c (.s (.d (.int .i64 7))))⟩, 
  ⟨(some 84), some (77, false), .bin .neq (.t 79) (.t 83)⟩, 
  ⟨(some 85), none, .pick (.t 77) (.c (.s (.d (.bool true)))) (.t 84)⟩, 
  ⟨(some 86), none, .mv (.t 85)⟩, 
  ⟨(some 87), some (86, false), .fadr 2 (.t 11)⟩, 
  ⟨(some 88), some (86, false), .load false 1 (.t 87)⟩, 
  ⟨(some 89), some (86, false), .fadr 2 (.t 9)⟩, 
  ⟨(some 90), some (86, false), .load false 1 (.t 89)⟩, 
  ⟨(some 91), some (86, false), .bin .add (.t 90) (.c (.s (.d (.int .i64 1))))⟩, 
  ⟨(some 92), some (86, false), .bin .neq (.t 88) (.t 91)⟩, 
  ⟨(some 93), some (86, false), .mv (.t 92)⟩, 
  ⟨(some 94), some (93, true), .fadr 2 (.t 11)⟩, 
  ⟨(some 95), some (93, true), .load false 1 (.t 94)⟩, 
  ⟨(some 96), some (93, true), .bin .neq (.t 95) (.c (.s (.d (.int .i64 1))))⟩, 
  ⟨(some 97), some (86, false), .pick (.t 93) (.t 96) (.c (.s (.d (.bool false))))⟩, 
  ⟨(some 98), none, .pick (.t 86) (.c (.s (.d (.bool true)))) (.t 97)⟩]
def c9r13 : List Opn := [
  ⟨(some 4), none, .mv (.c (.s (.d (.bool false))))⟩]
def c9r14 : List Opn := [
  ⟨(some 99), none, .load true 7 (.t 5)⟩, 
  ⟨(some 100), none, .mv (.t 0)⟩, 
  ⟨(some 101), none, .mv (.t 8)⟩, 
  ⟨(some 102), none, .bin .mul (.c (.s (.d (.int .i64 1440)))) (.t 101)⟩, 
  ⟨(some 103), none, .bin .add (.t 100) (.t 102)⟩, 
  ⟨(some 104), none, .call (.fn 29) [(.t 99), (.t 103)]⟩]
def c9r15 : List Opn := [
  ⟨(some 105), none, .mv (.t 7)⟩, 
  ⟨(some 106), none, .bin .add (.t 105) (.c (.s (.d (.int .i64 1))))⟩, 
  ⟨(some 7), none, .mv (.t 106)⟩]
def c9r16 : List Opn := [
  ⟨(some 107), none, .bin .add (.t 37) (.c (.s (.d (.int .i64 1))))⟩, 
  ⟨(some 37), none, .mv (.t 107)⟩]
def c9l17 : C := .seq (.reg c9r8 none [0, 5, 7, 37, 38]) (.seq (.cond (.t 38) (.skip) (.exit 0)) (.seq (.blk 1 (.seq (.reg c9r9 none [0, 5, 7, 8, 37]) (.seq (.reg c9r10 none [0, 5, 7, 8, 9, 10, 37]) (.seq (.reg c9r11 none [0, 5, 7, 8, 9, 10, 11, 12, 37]) (.seq (.seq (.reg c9r12 none [0, 5, 7, 8, 37, 98]) (.cond (.t 98) (.seq (.reg c9r13 none [4]) (.ret)) (.skip))) (.seq (.reg c9r14 none [0, 5, 7, 37, 104]) (.cond (.t 104) (.reg c9r15 none [0, 5, 7, 37]) (.skip)))))))) (.reg c9r16 none [0, 5, 7, 37])))
def c9r17 : List Opn := [
  ⟨(some 108), none, .mv (.t 7)⟩, 
  ⟨(some 109), none, .bin .eql (.t 108) (.c (.s (.d (.int .i64 1))))⟩, 
  ⟨(some 4), none, .mv (.t 109)⟩]
def c9 : C := .seq (.reg c9r0 none [0, 1]) (.seq (.reg c9r1 none [0, 1]) (.seq (.reg c9r2 none [0, 1]) (.seq (.reg c9r3 none [0, 5, 6]) (.seq (.seq (.reg c9r4 none [0, 5, 36]) (.cond (.t 36) (.seq (.reg c9r5 none [4]) (.ret)) (.skip))) (.seq (.reg c9r6 none [0, 5, 7]) (.seq (.seq (.reg c9r7 none [0, 5, 7, 37]) (.blk 0 (.loop c9l17))) (.seq (.reg c9r17 none [4]) (.ret))))))))
def k9 : List (Nat × List Nat) := [(17, [4]), (16, [0, 5, 7, 37]), (15, [0, 5, 7, 37]), (14, [0, 5, 7, 37, 104]), (13, [4]), (12, [0, 5, 7, 8, 37, 98]), (11, [0, 5, 7, 8, 9, 10, 11, 12, 37]), (10, [0, 5, 7, 8, 9, 10, 37]), (9, [0, 5, 7, 8, 37]), (8, [0, 5, 7, 37, 38]), (7, [0, 5, 7, 37]), (6, [0, 5, 7]), (5, [4]), (4, [0, 5, 36]), (3, [0, 5, 6]), (2, [0, 1]), (1, [0, 1]), (0, [0, 1])]
theorem cc9 : (Tryd.f9.body).bind (cC Tryd.prog 110 k9) = some c9 := by kernel_rfl
def rv9 : List RV := [.t 4]
theorem cr9 : cRVs Tryd.prog Tryd.f9.results.toList = some rv9 := by kernel_rfl
theorem f_law08_CronDays_l17_ok (tick : Int) (t : api_Cron × Int) (y_ : Bool) (R_ : St → Prop) (hR : (Ret Tryd.prog glP [] rv9 (.b (.s (.d (.bool y_))))) = R_) : ∀ (m_ : Nat) (fired : Int) (v37 : Int) (res_ : (Int × Int) ⊕ (Bool)) (h : f_law08_CronDays_l17 tick t m_ fired v37 = some res_) (k_ : List It) (hx : ∀ s_ : Int × Int, res_ = .inl s_ → W Tryd.prog glP 110 k_ ⟨lkT [(0, .b (.s (.d (.int .i64 ((IntKind.i64.wrap ((tick.tmod 1000000000) + 1000000000)).tmod 1000000000))))), (5, .b (.s (.ptr 5 1 0 0))), (7, .b (.s (.d (.int .i64 s_.1)))), (37, .b (.s (.d (.int .i64 s_.2))))], lkG [(5, ⟨7, [[(.d (.int .u64 t.1.Minutes)), (.d (.int .u64 t.1.Hours)), (.d (.int .u64 t.1.Days)), (.d (.int .u64 t.1.Months)), (.d (.int .u64 t.1.Week)), (.d (.bool t.1.AnyDay)), (.d (.bool t.1.AnyWeek))]], false⟩)]⟩ R_) (hr : ∀ z_ : Bool, res_ = .inr z_ → z_ = y_), W Tryd.prog glP 110 (.c c9l17 :: .lp c9l17 :: .blk 0 :: k_) ⟨lkT [(0, .b (.s (.d (.int .i64 ((IntKind.i64.wrap ((tick.tmod 1000000000) + 1000000000)).tmod 1000000000))))), (5, .b (.s (.ptr 5 1 0 0))), (7, .b (.s (.d (.int .i64 fired)))), (37, .b (.s (.d (.int .i64 v37))))], lkG [(5, ⟨7, [[(.d (.int .u64 t.1.Minutes)), (.d (.int .u64 t.1.Hours)), (.d (.int .u64 t.1.Days)), (.d (.int .u64 t.1.Months)), (.d (.int .u64 t.1.Week)), (.d (.bool t.1.AnyDay)), (.d (.bool t.1.AnyWeek))]], false⟩)]⟩ R_ := by
  intro m_; induction m_ with
  | zero => intro fired v37 res_ h; rw [f_law08_CronDays_l17.eq_1] at h; cases h
  | succ m_ ih =>
    intro fired v37 res_ h k_ hx hr; rw [f_law08_CronDays_l17.eq_2] at h; refine W.cdef c9l17.eq_1 ?_
    refine .seq ?_
    refine Rw.walk ?_
    simp only [wz, wd, ws, seval, c9r8, semI.eq_10, semI.eq_11, semI.eq_3, semI.eq_5, semI.eq_7, e_api_Clock, e_api_Cron]
    refine .seq ?_
    refine .cond (p := (decide (v37 < 7))) (by first | rfl | simp only [wz, wd, ws, seval]) (fun h1 => ?_) (fun h1 => ?_)
    · rw [ite_t h1] at h
      refine .skip ?_
      refine .seq ?_
      refine .blk ?_
      refine .seq ?_
      refine Rw.walk ?_
      simp only [wz, wd, ws, seval, c9r9, semI.eq_10, semI.eq_11, semI.eq_3, semI.eq_5, semI.eq_7, e_api_Clock, e_api_Cron]
      refine .seq ?_
      refine Rw.walk ?_
      simp only [wz, wd, ws, seval, c9r10, semI.eq_10, semI.eq_11, semI.eq_3, semI.eq_5, semI.eq_7, e_api_Clock, e_api_Cron]
      obtain ⟨t3, e4, h⟩ := Option.bind_eq_some_iff.1 h
      refine call_fun [] false ⟨trivial, trivial, trivial⟩ rfl ?_ (f_cron_At_ok _ _ e4) (fun _ => rfl) (fun i hi => by cases hi) ?_
      · simp only [wz, wd, ws, seval, e_api_Clock, e_api_Cron]
      simp only [wz, wd, ws, seval, c9r10, semI.eq_10, semI.eq_11, semI.eq_3, semI.eq_5, semI.eq_7, e_api_Clock, e_api_Cron]
      refine .seq ?_
      refine Rw.walk ?_
      simp only [wz, wd, ws, seval, c9r11, semI.eq_10, semI.eq_11, semI.eq_3, semI.eq_5, semI.eq_7, e_api_Clock, e_api_Cron]
      obtain ⟨t4, e5, h⟩ := Option.bind_eq_some_iff.1 h
      refine call_fun [] false ⟨trivial, trivial, trivial⟩ rfl ?_ (f_cron_At_ok _ _ e5) (fun _ => rfl) (fun i hi => by cases hi) ?_
      · simp only [wz, wd, ws, seval, e_api_Clock, e_api_Cron]
      simp only [wz, wd, ws, seval, c9r11, semI.eq_10, semI.eq_11, semI.eq_3, semI.eq_5, semI.eq_7, e_api_Clock, e_api_Cron]
      refine .seq ?_
      refine .seq ?_
      refine Rw.walk ?_
      simp only [wz, wd, ws, seval, c9r12, semI.eq_10, semI.eq_11, semI.eq_3, semI.eq_5, semI.eq_7, e_api_Clock, e_api_Cron]
      repeat (refine And.intro ?_ ?_; · first | omega | (simp only [List.length_append, List.length_cons, List.length_nil] at *; omega) | (simp only [List.map_cons, List.map_nil] at *; omega) | (intro q; simp only [wz, wd, ws, seval, q]; done))
      refine call_alt (v := .b (.s (.d (.int .i64 t3.1.Minute)))) rfl rfl (by simp only [wz, wd, ws, seval]) (fun q => ⟨_, by simp only [wz, wd, ws, seval, semI.eq_10, e_api_Clock, e_api_Cron], trivial⟩) ?_
      simp only [wz, wd, ws, seval, c9r12, semI.eq_10, semI.eq_11, semI.eq_3, semI.eq_5, semI.eq_7, e_api_Clock, e_api_Cron]
      refine call_alt (v := .b (.s (.d (.int .i64 t4.1.Minute)))) rfl rfl (by simp only [wz, wd, ws, seval]) (fun q => ⟨_, by simp only [wz, wd, ws, seval, semI.eq_10, e_api_Clock, e_api_Cron], trivial⟩) ?_
      simp only [wz, wd, ws, seval, c9r12, semI.eq_10, semI.eq_11, semI.eq_3, semI.eq_5, semI.eq_7, e_api_Clock, e_api_Cron]
      repeat (refine And.intro ?_ ?_; · first | omega | (simp only [List.length_append, List.length_cons, List.length_nil] at *; omega) | (simp only [List.map_cons, List.map_nil] at *; omega) | (intro q; simp only [wz, wd, ws, seval, q]; done))
      refine call_alt (v := .b (.s (.d (.int .i64 t3.1.Hour)))) rfl rfl (by simp only [wz, wd, ws, seval]) (fun q => ⟨_, by simp only [wz, wd, ws, seval, semI.eq_10, e_api_Clock, e_api_Cron], trivial⟩) ?_
      simp only [wz, wd, ws, seval, c9r12, semI.eq_10, semI.eq_11, semI.eq_3, semI.eq_5, semI.eq_7, e_api_Clock, e_api_Cron]
      refine call_alt (v := .b (.s (.d (.int .i64 t4.1.Hour)))) rfl rfl (by simp only [wz, wd, ws, seval]) (fun q => ⟨_, by simp only [wz, wd, ws, seval, semI.eq_10, e_api_Clock, e_api_Cron], trivial⟩) ?_
      simp only [wz, wd, ws, seval, c9r12, semI.eq_10, semI.eq_11, semI.eq_3, semI.eq_5, semI.eq_7, e_api_Clock, e_api_Cron]
      repeat (refine And.intro ?_ ?_; · first | omega | (simp only [List.length_append, List.length_cons, List.length_nil] at *; omega) | (simp only [List.map_cons, List.map_nil] at *; omega) | (intro q; simp only [wz, wd, ws, seval, q]; done))
      refine call_alt (v := .b (.s (.d (.int .i64 t4.1.Week)))) rfl rfl (by simp only [wz, wd, ws, seval]) (fun q => ⟨_, by simp only [wz, wd, ws, seval, semI.eq_10, e_api_Clock, e_api_Cron], trivial⟩) ?_
      simp only [wz, wd, ws, seval, c9r12, semI.eq_10, semI.eq_11, semI.eq_3, semI.eq_5, semI.eq_7, e_api_Clock, e_api_Cron]
      refine call_alt (v := .b (.s (.d (.int .i64 t3.1.Week)))) rfl rfl (by simp only [wz, wd, ws, seval]) (fun q => ⟨_, by simp only [wz, wd, ws, seval, semI.eq_10, e_api_Clock, e_api_Cron], trivial⟩) ?_
      simp only [wz, wd, ws, seval, c9r12, semI.eq_10, semI.eq_11, semI.eq_3, semI.eq_5, semI.eq_7, e_api_Clock, e_api_Cron]
      repeat (refine And.intro ?_ ?_; · first | omega | (simp only [List.length_append, List.length_cons, List.length_nil] at *; omega) | (simp only [List.map_cons, List.map_nil] at *; omega) | (intro q; simp only [wz, wd, ws, seval, q]; done))
      refine call_alt (v := .b (.s (.d (.int .i64 t4.1.Day)))) rfl rfl (by simp only [wz, wd, ws, seval]) (fun q => ⟨_, by simp only [wz, wd, ws, seval, semI.eq_10, e_api_Clock, e_api_Cron], trivial⟩) ?_
      simp only [wz, wd, ws, seval, c9r12, semI.eq_10, semI.eq_11, semI.eq_3, semI.eq_5, semI.eq_7, e_api_Clock, e_api_Cron]
      refine call_alt (v := .b (.s (.d (.int .i64 t3.1.Day)))) rfl rfl (by simp only [wz, wd, ws, seval]) (fun q => ⟨_, by simp only [wz, wd, ws, seval, semI.eq_10, e_api_Clock, e_api_Cron], trivial⟩) ?_
      simp only [wz, wd, ws, seval, c9r12, semI.eq_10, semI.eq_11, semI.eq_3, semI.eq_5, semI.eq_7, e_api_Clock, e_api_Cron]
      refine call_alt (v := .b (.s (.d (.int .i64 t4.1.Day)))) rfl rfl (by simp only [wz, wd, ws, seval]) (fun q => ⟨_, by simp only [wz, wd, ws, seval, semI.eq_10, e_api_Clock, e_api_Cron], trivial⟩) ?_
      simp only [wz, wd, ws, seval, c9r12, semI.eq_10, semI.eq_11, semI.eq_3, semI.eq_5, semI.eq_7, e_api_Clock, e_api_Cron]
      repeat (refine And.intro ?_ ?_; · first | omega | (simp only [List.length_append, List.length_cons, List.length_nil] at *; omega) | (simp only [List.map_cons, List.map_nil] at *; omega) | (intro q; simp only [wz, wd, ws, seval, q]; done))
      refine .cond (p := ((((((t3.2 != 0) || (t4.2 != 0)) || (t3.1.Minute != t4.1.Minute)) || (t3.1.Hour != t4.1.Hour)) || (t4.1.Week != ((IntKind.i64.wrap (t3.1.Week + 1)).tmod 7))) || ((t4.1.Day != (IntKind.i64.wrap (t3.1.Day + 1))) && (t4.1.Day != 1)))) (by first | rfl | simp only [wz, wd, ws, seval]) (fun h1 => ?_) (fun h1 => ?_)
      · rw [ite_t h1] at h
        refine .seq ?_
        refine Rw.walk ?_
        simp only [wz, wd, ws, seval, c9r13, semI.eq_10, semI.eq_11, semI.eq_3, semI.eq_5, semI.eq_7, e_api_Clock, e_api_Cron]
        obtain rfl := Option.some.inj h; obtain rfl := hr _ rfl
        refine .ret ?_
        rw [← hR]
        simp only [wz, wd, ws, seval, rv9, e_api_Clock, e_api_Cron]
      · rw [ite_f h1] at h
        refine .skip ?_
        refine .seq ?_
        refine Rw.walk ?_
        simp only [wz, wd, ws, seval, c9r14, semI.eq_10, semI.eq_11, semI.eq_3, semI.eq_5, semI.eq_7, e_api_Clock, e_api_Cron]
        obtain ⟨t5, e6, h⟩ := Option.bind_eq_some_iff.1 h
        refine call_fun [] false ⟨trivial, trivial, trivial, trivial⟩ rfl ?_ (f_cron_Fires_ok _ _ _ e6) (fun _ => rfl) (fun i hi => by cases hi) ?_
        · simp only [wz, wd, ws, seval, e_api_Clock, e_api_Cron]
        simp only [wz, wd, ws, seval, c9r14, semI.eq_10, semI.eq_11, semI.eq_3, semI.eq_5, semI.eq_7, e_api_Clock, e_api_Cron]
        refine .cond (p := t5) (by first | rfl | simp only [wz, wd, ws, seval]) (fun h1 => ?_) (fun h1 => ?_)
        · rw [ite_t h1] at h
          refine Rw.walk ?_
          simp only [wz, wd, ws, seval, c9r15, semI.eq_10, semI.eq_11, semI.eq_3, semI.eq_5, semI.eq_7, e_api_Clock, e_api_Cron]
          refine .eblk ?_
          refine Rw.walk ?_
          simp only [wz, wd, ws, seval, c9r16, semI.eq_10, semI.eq_11, semI.eq_3, semI.eq_5, semI.eq_7, e_api_Clock, e_api_Cron]
          refine .lp ?_
          refine .weak (Imp.co [] _ _ ?_ ?_ ?_ ?_ ?_) (ih (IntKind.i64.wrap (fired + 1)) (IntKind.i64.wrap (v37 + 1)) _ h k_ hx hr) <;> simp only [wz, wd, ws, seval, wi, er_nil, e_api_Clock, e_api_Cron]
        · rw [ite_f h1] at h
          refine .skip ?_
          refine .eblk ?_
          refine Rw.walk ?_
          simp only [wz, wd, ws, seval, c9r16, semI.eq_10, semI.eq_11, semI.eq_3, semI.eq_5, semI.eq_7, e_api_Clock, e_api_Cron]
          refine .lp ?_
          refine .weak (Imp.co [] _ _ ?_ ?_ ?_ ?_ ?_) (ih fired (IntKind.i64.wrap (v37 + 1)) _ h k_ hx hr) <;> simp only [wz, wd, ws, seval, wi, er_nil, e_api_Clock, e_api_Cron]
    · rw [ite_f h1] at h
      refine .exit rfl ?_
      obtain rfl := Option.some.inj h
      refine .weak (Imp.co [] _ _ ?_ ?_ ?_ ?_ ?_) (hx _ rfl) <;> simp only [wz, wd, ws, seval, wi, er_nil, e_api_Clock, e_api_Cron]
theorem f_law08_CronDays_ok (tick : Int) (day : Int) (y_ : Bool) (h : f_law08_CronDays tick day = some y_) : Fun Tryd.prog glP 9 [.b (.s (.d (.int .i64 tick))), .b (.s (.d (.int .i64 day)))] (.b (.s (.d (.bool y_)))) := by
  refine fun_walk [] Tryd.func9 Tryd.ntmps9 cc9 cr9 (by kernel_rfl) (by simp only [List.length_cons, List.length_nil]; decide) ?_
  generalize hR : Ret _ _ _ _ _ = R_
  simp only [wz, wd, ws, seval, e_api_Clock, e_api_Cron]
  unfold f_law08_CronDays at h; unfold c9
  refine .seq ?_
  refine Rw.walk ?_
  simp only [wz, wd, ws, seval, c9r0, semI.eq_10, semI.eq_11, semI.eq_3, semI.eq_5, semI.eq_7, e_api_Clock, e_api_Cron]
  refine .seq ?_
  refine Rw.walk ?_
  simp only [wz, wd, ws, seval, c9r1, semI.eq_10, semI.eq_11, semI.eq_3, semI.eq_5, semI.eq_7, e_api_Clock, e_api_Cron]
  repeat (refine And.intro ?_ ?_; · first | omega | (simp only [List.length_append, List.length_cons, List.length_nil] at *; omega) | (simp only [List.map_cons, List.map_nil] at *; omega) | (intro q; simp only [wz, wd, ws, seval, q]; done))
  refine .seq ?_
  refine Rw.walk ?_
  simp only [wz, wd, ws, seval, c9r2, semI.eq_10, semI.eq_11, semI.eq_3, semI.eq_5, semI.eq_7, e_api_Clock, e_api_Cron]
  repeat (refine And.intro ?_ ?_; · first | omega | (simp only [List.length_append, List.length_cons, List.length_nil] at *; omega) | (simp only [List.map_cons, List.map_nil] at *; omega) | (intro q; simp only [wz, wd, ws, seval, q]; done))
  refine .seq ?_
  refine Rw.walk ?_
  simp only [wz, wd, ws, seval, c9r3, semI.eq_10, semI.eq_11, semI.eq_3, semI.eq_5, semI.eq_7, e_api_Clock, e_api_Cron]
  refine Go1.of (sem_bsl (enc := (eI .u8)) (m := ([(IntKind.u8.wrap (IntKind.i64.wrap (48 + ((IntKind.i64.wrap ((day.tmod 7) + 7)).tmod 7))))] : List Int)) (eI_len _) (by rfl) (by rfl) (by rfl) ⟨trivial, trivial⟩) ?_
  simp only [wz, wd, ws, seval, c9r3, semI.eq_10, semI.eq_11, semI.eq_3, semI.eq_5, semI.eq_7, e_api_Clock, e_api_Cron]
  refine Go1.of (sem_b2s (n := ([(IntKind.u8.wrap (IntKind.i64.wrap (48 + ((IntKind.i64.wrap ((day.tmod 7) + 7)).tmod 7))))] : List Int)) (rowsV_own (m := ([(IntKind.u8.wrap (IntKind.i64.wrap (48 + ((IntKind.i64.wrap ((day.tmod 7) + 7)).tmod 7))))] : List Int)) (by rfl) (by rfl))) ?_
  simp only [wz, wd, ws, seval, c9r3, semI.eq_10, semI.eq_11, semI.eq_3, semI.eq_5, semI.eq_7, e_api_Clock, e_api_Cron]
  obtain ⟨g1, h⟩ := gd_iff.1 h
  repeat (refine And.intro ?_ ?_; · first | omega | (simp only [List.length_append, List.length_cons, List.length_nil] at *; omega) | (simp only [List.map_cons, List.map_nil] at *; omega) | (intro q; simp only [wz, wd, ws, seval, q]; done))
  obtain ⟨t, e2, h⟩ := Option.bind_eq_some_iff.1 h
  refine call_fun [] false ⟨trivial, trivial, trivial⟩ rfl ?_ (f_cron_Parse_ok _ _ e2) (fun _ => rfl) (fun i hi => by cases hi) ?_
  · simp only [wz, wd, ws, seval, e_api_Clock, e_api_Cron]
  simp only [wz, wd, ws, seval, c9r3, semI.eq_10, semI.eq_11, semI.eq_3, semI.eq_5, semI.eq_7, e_api_Clock, e_api_Cron]
  refine .seq ?_
  refine .seq ?_
  refine Rw.walk ?_
  simp only [wz, wd, ws, seval, c9r4, semI.eq_10, semI.eq_11, semI.eq_3, semI.eq_5, semI.eq_7, e_api_Clock, e_api_Cron]
  obtain ⟨t2, e3, h⟩ := Option.bind_eq_some_iff.1 h
  refine call_funG [] rfl (by simp only [wz, wd, ws, seval]) rfl ?_ (fun q => (f_law08_alive_ok _ (gx_iff e3 (by first | exact q | simpa using q)))) rfl (fun i hi => by cases hi) ?_
  · simp only [wz, wd, ws, seval, e_api_Clock, e_api_Cron]
  simp only [wz, wd, ws, seval, c9r4, semI.eq_10, semI.eq_11, semI.eq_3, semI.eq_5, semI.eq_7, e_api_Clock, e_api_Cron]
  repeat (refine And.intro ?_ ?_; · first | omega | (simp only [List.length_append, List.length_cons, List.length_nil] at *; omega) | (simp only [List.map_cons, List.map_nil] at *; omega) | (intro q; simp only [wz, wd, ws, seval, q]; done))
  refine .cond (p := ((t.2 != 0) || (!t2))) (by first | rfl | simp only [wz, wd, ws, seval]) (fun h1 => ?_) (fun h1 => ?_)
  · rw [ite_t h1] at h
    refine .seq ?_
    refine Rw.walk ?_
    simp only [wz, wd, ws, seval, c9r5, semI.eq_10, semI.eq_11, semI.eq_3, semI.eq_5, semI.eq_7, e_api_Clock, e_api_Cron]
    obtain rfl := Option.some.inj h
    refine .ret ?_
    rw [← hR]
    simp only [wz, wd, ws, seval, rv9, e_api_Clock, e_api_Cron]
  · rw [ite_f h1] at h
    refine .skip ?_
    refine .seq ?_
    refine Rw.walk ?_
    simp only [wz, wd, ws, seval, c9r6, semI.eq_10, semI.eq_11, semI.eq_3, semI.eq_5, semI.eq_7, e_api_Clock, e_api_Cron]
    refine .seq ?_
    refine .seq ?_
    refine Rw.walk ?_
    simp only [wz, wd, ws, seval, c9r7, semI.eq_10, semI.eq_11, semI.eq_3, semI.eq_5, semI.eq_7, e_api_Clock, e_api_Cron]
    refine .blk ?_
    obtain ⟨s, hf, h⟩ := Option.bind_eq_some_iff.1 h
    refine .loop (.weak (Imp.co [] _ _ ?c1 ?c2 ?c3 ?c4 ?c5) (f_law08_CronDays_l17_ok tick t _ _ hR _ _ _ _ hf _ ?_ ?_))
    case c1 | c2 | c3 | c4 | c5 => simp only [wz, wd, ws, seval, wi, er_nil, e_api_Clock, e_api_Cron]
    · intro s2 hs; subst hs; dsimp only at h
      refine .seq ?_
      refine Rw.walk ?_
      simp only [wz, wd, ws, seval, c9r17, semI.eq_10, semI.eq_11, semI.eq_3, semI.eq_5, semI.eq_7, e_api_Clock, e_api_Cron]
      obtain rfl := Option.some.inj h
      refine .ret ?_
      rw [← hR]
      simp only [wz, wd, ws, seval, rv9, e_api_Clock, e_api_Cron]
    · intro z hz; subst hz; dsimp only at h
      exact Option.some.inj h
-- 30 consignor/cron.Next
def c30r0 : List Opn := [
  ⟨(some 3), none, .box 7 (.t 0)⟩, 
  ⟨(some 6), none, .mv (.c (.s (.d (.int .i64 0))))⟩, 
  ⟨(some 7), none, .mv (.c (.s (.d (.int .i64 0))))⟩]
def c30r1 : List Opn := [
  ⟨(some 9), none, .mv (.t 1)⟩, 
  ⟨(some 10), none, .bin .lss (.t 9) (.c (.s (.d (.int .i64 0))))⟩, 
  ⟨(some 11), none, .mv (.t 10)⟩, 
  ⟨(some 12), some (11, false), .mv (.t 1)⟩, 
  ⟨(some 13), some (11, false), .bin .gtr (.t 12) (.c (.s (.d (.int .i64 1099511627776))))⟩, 
  ⟨(some 14), none, .pick (.t 11) (.c (.s (.d (.bool true)))) (.t 13)⟩, 
  ⟨(some 15), none, .mv (.t 14)⟩, 
  ⟨(some 16), some (15, false), .mv (.t 2)⟩, 
  ⟨(some 17), some (15, false), .bin .lss (.t 16) (.c (.s (.d (.int .i64 0))))⟩, 
  ⟨(some 18), none, .pick (.t 15) (.c (.s (.d (.bool true)))) (.t 17)⟩, 
  ⟨(some 19), none, .mv (.t 18)⟩, 
  ⟨(some 20), some (19, false), .mv (.t 2)⟩, 
  ⟨(some 21), some (19, false), .bin .gtr (.t 20) (.c (.s (.d (.int .i64 100000))))⟩, 
  ⟨(some 22), none, .pick (.t 19) (.c (.s (.d (.bool true)))) (.t 21)⟩]
def c30r2 : List Opn := [
  ⟨(some 6), none, .mv (.c (.s (.d (.int .i64 0))))⟩, 
  ⟨(some 7), none, .mv (.c (.s (.d (.int .i64 1))))⟩]
def c30r3 : List Opn := [
  ⟨(some 23), none, .mv (.t 1)⟩, 
  ⟨(some 24), none, .bin .add (.t 23) (.c (.s (.d (.int .i64 1))))⟩, 
  ⟨(some 8), none, .mv (.t 24)⟩]
def c30r4 : List Opn := [
  ⟨(some 25), none, .mv (.t 8)⟩, 
  ⟨(some 26), none, .mv (.t 1)⟩, 
  ⟨(some 27), none, .mv (.t 2)⟩, 
  ⟨(some 28), none, .bin .add (.t 26) (.t 27)⟩, 
  ⟨(some 29), none, .bin .leq (.t 25) (.t 28)⟩, 
  ⟨(some 30), none, .mv (.t 29)⟩, 
  ⟨(some 31), some (30, true), .mv (.t 8)⟩, 
  ⟨(some 32), some (30, true), .bin .leq (.t 31) (.c (.s (.d (.int .i64 1099511627776))))⟩, 
  ⟨(some 33), none, .pick (.t 30) (.t 32) (.c (.s (.d (.bool false))))⟩]
def c30r6 : List Opn := [
  ⟨(some 36), none, .load true 7 (.t 3)⟩, 
  ⟨(some 37), none, .mv (.t 8)⟩, 
  ⟨(some 38), none, .call (.fn 29) [(.t 36), (.t 37)]⟩]
def c30r7 : List Opn := [
  ⟨(some 39), none, .mv (.t 8)⟩, 
  ⟨(some 6), none, .mv (.t 39)⟩, 
  ⟨(some 7), none, .mv (.c (.s (.d (.int .i64 0))))⟩]
def c30r5 : List Opn := [
  ⟨(some 34), none, .mv (.t 8)⟩, 
  ⟨(some 35), none, .bin .add (.t 34) (.c (.s (.d (.int .i64 1))))⟩, 
  ⟨(some 8), none, .mv (.t 35)⟩]
def c30l8 : C := .seq (.seq (.reg c30r4 none [1, 2, 3, 8, 33]) (.cond (.t 33) (.skip) (.exit 0))) (.seq (.blk 1 (.seq (.reg c30r6 none [1, 2, 3, 8, 38]) (.cond (.t 38) (.seq (.reg c30r7 none [6, 7]) (.ret)) (.skip)))) (.reg c30r5 none [1, 2, 3, 8]))
def c30r8 : List Opn := [
  ⟨(some 6), none, .mv (.c (.s (.d (.int .i64 0))))⟩, 
  ⟨(some 7), none, .mv (.c (.s (.d (.int .i64 9))))⟩]
def c30 : C := .seq (.reg c30r0 none [1, 2, 3]) (.seq (.seq (.reg c30r1 none [1, 2, 3, 22]) (.cond (.t 22) (.seq (.reg c30r2 none [6, 7]) (.ret)) (.skip))) (.seq (.seq (.reg c30r3 none [1, 2, 3, 8]) (.blk 0 (.loop c30l8))) (.seq (.reg c30r8 none [6, 7]) (.ret))))
def k30 : List (Nat × List Nat) := [(8, [6, 7]), (5, [1, 2, 3, 8]), (7, [6, 7]), (6, [1, 2, 3, 8, 38]), (4, [1, 2, 3, 8, 33]), (3, [1, 2, 3, 8]), (2, [6, 7]), (1, [1, 2, 3, 22]), (0, [1, 2, 3])]
theorem cc30 : (Tryd.f30.body).bind (cC Tryd.prog 40 k30) = some c30 := by kernel_rfl
def rv30 : List RV := [.t 6, .t 7]
theorem cr30 : cRVs Tryd.prog Tryd.f30.results.toList = some rv30 := by kernel_rfl
theorem f_cron_Next_l8_ok (c : api_Cron) (tick : Int) (most : Int) (y_ : Int × Int) (R_ : St → Prop) (hR : (Ret Tryd.prog glP [] rv30 (.tup [.s (.d (.int .i64 y_.1)), .s (.d (.int .i64 y_.2))])) = R_) : ∀ (m_ : Nat) (t : Int) (res_ : (Int) ⊕ (Int × Int)) (h : f_cron_Next_l8 c tick most m_ t = some res_) (k_ : List It) (hx : ∀ s_ : Int, res_ = .inl s_ → W Tryd.prog glP 40 k_ ⟨lkT [(1, .b (.s (.d (.int .i64 tick)))), (2, .b (.s (.d (.int .i64 most)))), (3, .b (.s (.ptr 3 1 0 0))), (8, .b (.s (.d (.int .i64 s_))))], lkG [(3, ⟨7, [[(.d (.int .u64 c.Minutes)), (.d (.int .u64 c.Hours)), (.d (.int .u64 c.Days)), (.d (.int .u64 c.Months)), (.d (.int .u64 c.Week)), (.d (.bool c.AnyDay)), (.d (.bool c.AnyWeek))]], false⟩)]⟩ R_) (hr : ∀ z_ : Int × Int, res_ = .inr z_ → z_ = y_), W Tryd.prog glP 40 (.c c30l8 :: .lp c30l8 :: .blk 0 :: k_) ⟨lkT [(1, .b (.s (.d (.int .i64 tick)))), (2, .b (.s (.d (.int .i64 most)))), (3, .b (.s (.ptr 3 1 0 0))), (8, .b (.s (.d (.int .i64 t))))], lkG [(3, ⟨7, [[(.d (.int .u64 c.Minutes)), (.d (.int .u64 c.Hours)), (.d (.int .u64 c.Days)), (.d (.int .u64 c.Months)), (.d (.int .u64 c.Week)), (.d (.bool c.AnyDay)), (.d (.bool c.AnyWeek))]], false⟩)]⟩ R_ := by
  intro m_; induction m_ with
  | zero => intro t res_ h; rw [f_cron_Next_l8.eq_1] at h; cases h
  | succ m_ ih =>
    intro t res_ h k_ hx hr; rw [f_cron_Next_l8.eq_2] at h; refine W.cdef c30l8.eq_1 ?_
    refine .seq ?_
    refine .seq ?_
    refine Rw.walk ?_
    simp only [wz, wd, ws, seval, c30r4, semI.eq_10, semI.eq_11, semI.eq_3, semI.eq_5, semI.eq_7, e_api_Cron]
    repeat (refine And.intro ?_ ?_; · first | omega | (simp only [List.length_append, List.length_cons, List.length_nil] at *; omega) | (simp only [List.map_cons, List.map_nil] at *; omega) | (intro q; simp only [wz, wd, ws, seval, q]; done))
    refine .cond (p := ((decide (t ≤ (IntKind.i64.wrap (tick + most)))) && (decide (t ≤ 1099511627776)))) (by first | rfl | simp only [wz, wd, ws, seval]) (fun h1 => ?_) (fun h1 => ?_)
    · rw [ite_t h1] at h
      refine .skip ?_
      refine .seq ?_
      refine .blk ?_
      refine .seq ?_
      refine Rw.walk ?_
      simp only [wz, wd, ws, seval, c30r6, semI.eq_10, semI.eq_11, semI.eq_3, semI.eq_5, semI.eq_7, e_api_Cron]
      obtain ⟨t2, e1, h⟩ := Option.bind_eq_some_iff.1 h
      refine call_fun [] false ⟨trivial, trivial, trivial, trivial⟩ rfl ?_ (f_cron_Fires_ok _ _ _ e1) (fun _ => rfl) (fun i hi => by cases hi) ?_
      · simp only [wz, wd, ws, seval, e_api_Cron]
      simp only [wz, wd, ws, seval, c30r6, semI.eq_10, semI.eq_11, semI.eq_3, semI.eq_5, semI.eq_7, e_api_Cron]
      refine .cond (p := t2) (by first | rfl | simp only [wz, wd, ws, seval]) (fun h1 => ?_) (fun h1 => ?_)
      · rw [ite_t h1] at h
        refine .seq ?_
        refine Rw.walk ?_
        simp only [wz, wd, ws, seval, c30r7, semI.eq_10, semI.eq_11, semI.eq_3, semI.eq_5, semI.eq_7, e_api_Cron]
        obtain rfl := Option.some.inj h; obtain rfl := hr _ rfl
        refine .ret ?_
        rw [← hR]
        simp only [wz, wd, ws, seval, rv30, e_api_Cron]
      · rw [ite_f h1] at h
        refine .skip ?_
        refine .eblk ?_
        refine Rw.walk ?_
        simp only [wz, wd, ws, seval, c30r5, semI.eq_10, semI.eq_11, semI.eq_3, semI.eq_5, semI.eq_7, e_api_Cron]
        refine .lp ?_
        refine .weak (Imp.co [] _ _ ?_ ?_ ?_ ?_ ?_) (ih (IntKind.i64.wrap (t + 1)) _ h k_ hx hr) <;> simp only [wz, wd, ws, seval, wi, er_nil, e_api_Cron]
    · rw [ite_f h1] at h
      refine .exit rfl ?_
      obtain rfl := Option.some.inj h
      refine .weak (Imp.co [] _ _ ?_ ?_ ?_ ?_ ?_) (hx _ rfl) <;> simp only [wz, wd, ws, seval, wi, er_nil, e_api_Cron]
theorem f_cron_Next_ok (c : api_Cron) (tick : Int) (most : Int) (y_ : Int × Int) (h : f_cron_Next c tick most = some y_) : Fun Tryd.prog glP 30 [.b (.agg ((e_api_Cron c).map Lc.d)), .b (.s (.d (.int .i64 tick))), .b (.s (.d (.int .i64 most)))] (.tup [.s (.d (.int .i64 y_.1)), .s (.d (.int .i64 y_.2))]) := by
  refine fun_walk [] Tryd.func30 Tryd.ntmps30 cc30 cr30 (by kernel_rfl) (by simp only [List.length_cons, List.length_nil]; decide) ?_
  generalize hR : Ret _ _ _ _ _ = R_
  simp only [wz, wd, ws, seval, e_api_Cron]
  unfold f_cron_Next at h; unfold c30
  refine .seq ?_
  refine Rw.walk ?_
  simp only [wz, wd, ws, seval, c30r0, semI.eq_10, semI.eq_11, semI.eq_3, semI.eq_5, semI.eq_7, e_api_Cron]
  refine .seq ?_
  refine .seq ?_
  refine Rw.walk ?_
  simp only [wz, wd, ws, seval, c30r1, semI.eq_10, semI.eq_11, semI.eq_3, semI.eq_5, semI.eq_7, e_api_Cron]
  repeat (refine And.intro ?_ ?_; · first | omega | (simp only [List.length_append, List.length_cons, List.length_nil] at *; omega) | (simp only [List.map_cons, List.map_nil] at *; omega) | (intro q; simp only [wz, wd, ws, seval, q]; done))
  refine .cond (p := ((((decide (tick < 0)) || (decide (tick > 1099511627776))) || (decide (most < 0))) || (decide (most > 100000)))) (by first | rfl | simp only [wz, wd, ws, seval]) (fun h1 => ?_) (fun h1 => ?_)
  · rw [ite_t h1] at h
    refine .seq ?_
    refine Rw.walk ?_
    simp only [wz, wd, ws, seval, c30r2, semI.eq_10, semI.eq_11, semI.eq_3, semI.eq_5, semI.eq_7, e_api_Cron]
    obtain rfl := Option.some.inj h
    refine .ret ?_
    rw [← hR]
    simp only [wz, wd, ws, seval, rv30, e_api_Cron]
  · rw [ite_f h1] at h
    refine .skip ?_
    refine .seq ?_
    refine .seq ?_
    refine Rw.walk ?_
    simp only [wz, wd, ws, seval, c30r3, semI.eq_10, semI.eq_11, semI.eq_3, semI.eq_5, semI.eq_7, e_api_Cron]
    refine .blk ?_
    obtain ⟨s, hf, h⟩ := Option.bind_eq_some_iff.1 h
    refine .loop (.weak (Imp.co [] _ _ ?c1 ?c2 ?c3 ?c4 ?c5) (f_cron_Next_l8_ok c tick most _ _ hR _ _ _ hf _ ?_ ?_))
    case c1 | c2 | c3 | c4 | c5 => simp only [wz, wd, ws, seval, wi, er_nil, e_api_Cron]
    · intro s2 hs; subst hs; dsimp only at h
      refine .seq ?_
      refine Rw.walk ?_
      simp only [wz, wd, ws, seval, c30r8, semI.eq_10, semI.eq_11, semI.eq_3, semI.eq_5, semI.eq_7, e_api_Cron]
      obtain rfl := Option.some.inj h
      refine .ret ?_
      rw [← hR]
      simp only [wz, wd, ws, seval, rv30, e_api_Cron]
    · intro z hz; subst hz; dsimp only at h
      exact Option.some.inj h
-- 56 consignor/consignorref08.set
def c56r0 : List Opn := [
  ⟨(some 4), none, .mv (.c (.s (.d (.bool false))))⟩]
def c56r1 : List Opn := [
  ⟨(some 5), none, .mv (.c (.s (.d (.int .i64 0))))⟩]
def c56r2 : List Opn := [
  ⟨(some 6), none, .mv (.t 5)⟩, 
  ⟨(some 7), none, .mv (.t 1)⟩, 
  ⟨(some 8), none, .bin .lss (.t 6) (.t 7)⟩]
def c56r4 : List Opn := [
  ⟨(some 11), none, .mv (.t 0)⟩, 
  ⟨(some 12), none, .bin .quo (.t 11) (.c (.s (.d (.int .u64 2))))⟩, 
  ⟨(some 0), none, .mv (.t 12)⟩]
def c56r3 : List Opn := [
  ⟨(some 9), none, .mv (.t 5)⟩, 
  ⟨(some 10), none, .bin .add (.t 9) (.c (.s (.d (.int .i64 1))))⟩, 
  ⟨(some 5), none, .mv (.t 10)⟩]
def c56l5 : C := .seq (.seq (.reg c56r2 none [0, 1, 5, 8]) (.cond (.t 8) (.skip) (.exit 0))) (.seq (.blk 1 (.reg c56r4 none [0, 1, 5])) (.reg c56r3 none [0, 1, 5]))
def c56r5 : List Opn := [
  ⟨(some 13), none, .mv (.t 0)⟩, 
  ⟨(some 14), none, .bin .rem (.t 13) (.c (.s (.d (.int .u64 2))))⟩, 
  ⟨(some 15), none, .bin .eql (.t 14) (.c (.s (.d (.int .u64 1))))⟩, 
  ⟨(some 4), none, .mv (.t 15)⟩]
def c56 : C := .seq (.reg c56r0 none [0, 1]) (.seq (.seq (.reg c56r1 none [0, 1, 5]) (.blk 0 (.loop c56l5))) (.seq (.reg c56r5 none [4]) (.ret)))
def k56 : List (Nat × List Nat) := [(5, [4]), (3, [0, 1, 5]), (4, [0, 1, 5]), (2, [0, 1, 5, 8]), (1, [0, 1, 5]), (0, [0, 1])]
theorem cc56 : (Tryd.f56.body).bind (cC Tryd.prog 16 k56) = some c56 := by kernel_rfl
def rv56 : List RV := [.t 4]
theorem cr56 : cRVs Tryd.prog Tryd.f56.results.toList = some rv56 := by kernel_rfl
theorem f_ref08_set_l5_ok (n : Int) (y_ : Bool) (R_ : St → Prop) (hR : (Ret Tryd.prog glP [] rv56 (.b (.s (.d (.bool y_))))) = R_) : ∀ (m_ : Nat) (bits2 : Int) (i : Int) (res_ : Int × Int) (h : f_ref08_set_l5 n m_ bits2 i = some res_) (k_ : List It) (hx : ∀ s_ : Int × Int, res_ = s_ → W Tryd.prog glP 16 k_ ⟨lkT [(0, .b (.s (.d (.int .u64 s_.1)))), (1, .b (.s (.d (.int .i64 n)))), (5, .b (.s (.d (.int .i64 s_.2))))], lkG []⟩ R_), W Tryd.prog glP 16 (.c c56l5 :: .lp c56l5 :: .blk 0 :: k_) ⟨lkT [(0, .b (.s (.d (.int .u64 bits2)))), (1, .b (.s (.d (.int .i64 n)))), (5, .b (.s (.d (.int .i64 i))))], lkG []⟩ R_ := by
  intro m_; induction m_ with
  | zero => intro bits2 i res_ h; rw [f_ref08_set_l5.eq_1] at h; cases h
  | succ m_ ih =>
    intro bits2 i res_ h k_ hx; rw [f_ref08_set_l5.eq_2] at h; refine W.cdef c56l5.eq_1 ?_
    refine .seq ?_
    refine .seq ?_
    refine Rw.walk ?_
    simp only [wz, wd, ws, seval, c56r2, semI.eq_10, semI.eq_11, semI.eq_3, semI.eq_5, semI.eq_7]
    refine .cond (p := (decide (i < n))) (by first | rfl | simp only [wz, wd, ws, seval]) (fun h1 => ?_) (fun h1 => ?_)
    · rw [ite_t h1] at h
      refine .skip ?_
      refine .seq ?_
      refine .blk ?_
      refine Rw.walk ?_
      simp only [wz, wd, ws, seval, c56r4, semI.eq_10, semI.eq_11, semI.eq_3, semI.eq_5, semI.eq_7]
      repeat (refine And.intro ?_ ?_; · first | omega | (simp only [List.length_append, List.length_cons, List.length_nil] at *; omega) | (simp only [List.map_cons, List.map_nil] at *; omega) | (intro q; simp only [wz, wd, ws, seval, q]; done))
      refine .eblk ?_
      refine Rw.walk ?_
      simp only [wz, wd, ws, seval, c56r3, semI.eq_10, semI.eq_11, semI.eq_3, semI.eq_5, semI.eq_7]
      refine .lp ?_
      refine .weak (Imp.co [] _ _ ?_ ?_ ?_ ?_ ?_) (ih (IntKind.u64.wrap (bits2.tdiv 2)) (IntKind.i64.wrap (i + 1)) _ h k_ hx) <;> simp only [wz, wd, ws, seval, wi, er_nil]
    · rw [ite_f h1] at h
      refine .exit rfl ?_
      obtain rfl := Option.some.inj h
      refine .weak (Imp.co [] _ _ ?_ ?_ ?_ ?_ ?_) (hx _ rfl) <;> simp only [wz, wd, ws, seval, wi, er_nil]
theorem f_ref08_set_ok (bits : Int) (n : Int) (y_ : Bool) (h : f_ref08_set bits n = some y_) : Fun Tryd.prog glP 56 [.b (.s (.d (.int .u64 bits))), .b (.s (.d (.int .i64 n)))] (.b (.s (.d (.bool y_)))) := by
  refine fun_walk [] Tryd.func56 Tryd.ntmps56 cc56 cr56 (by kernel_rfl) (by simp only [List.length_cons, List.length_nil]; decide) ?_
  generalize hR : Ret _ _ _ _ _ = R_
  simp only [wz, wd, ws, seval]
  unfold f_ref08_set at h; unfold c56
  refine .seq ?_
  refine Rw.walk ?_
  simp only [wz, wd, ws, seval, c56r0, semI.eq_10, semI.eq_11, semI.eq_3, semI.eq_5, semI.eq_7]
  refine .seq ?_
  refine .seq ?_
  refine Rw.walk ?_
  simp only [wz, wd, ws, seval, c56r1, semI.eq_10, semI.eq_11, semI.eq_3, semI.eq_5, semI.eq_7]
  refine .blk ?_
  obtain ⟨s, hf, h⟩ := Option.bind_eq_some_iff.1 h
  refine .loop (.weak (Imp.co [] _ _ ?c1 ?c2 ?c3 ?c4 ?c5) (f_ref08_set_l5_ok n _ _ hR _ _ _ _ hf _ ?_))
  case c1 | c2 | c3 | c4 | c5 => simp only [wz, wd, ws, seval, wi, er_nil]
  · intro s_ hs; subst hs
    refine .seq ?_
    refine Rw.walk ?_
    simp only [wz, wd, ws, seval, c56r5, semI.eq_10, semI.eq_11, semI.eq_3, semI.eq_5, semI.eq_7]
    repeat (refine And.intro ?_ ?_; · first | omega | (simp only [List.length_append, List.length_cons, List.length_nil] at *; omega) | (simp only [List.map_cons, List.map_nil] at *; omega) | (intro q; simp only [wz, wd, ws, seval, q]; done))
    obtain rfl := Option.some.inj h
    refine .ret ?_
    rw [← hR]
    simp only [wz, wd, ws, seval, rv56]
-- 31 consignor/consignorref08.Fires
def c31r0 : List Opn := [
  ⟨(some 2), none, .box 7 (.t 0)⟩, 
  ⟨(some 3), none, .box 6 (.t 1)⟩, 
  ⟨(some 4), none, .mv (.c (.s (.d (.bool false))))⟩]
def c31r1 : List Opn := [
  ⟨(some 8), none, .fadr 2 (.t 2)⟩, 
  ⟨(some 9), none, .load false 1 (.t 8)⟩, 
  ⟨(some 10), none, .fadr 2 (.t 3)⟩, 
  ⟨(some 11), none, .load false 1 (.t 10)⟩, 
  ⟨(some 12), none, .call (.fn 56) [(.t 9), (.t 11)]⟩, 
  ⟨(some 5), none, .mv (.t 12)⟩]
def c31r2 : List Opn := [
  ⟨(some 13), none, .fadr 4 (.t 2)⟩, 
  ⟨(some 14), none, .load false 1 (.t 13)⟩, 
  ⟨(some 15), none, .fadr 5 (.t 3)⟩, 
  ⟨(some 16), none, .load false 1 (.t 15)⟩, 
  ⟨(some 17), none, .call (.fn 56) [(.t 14), (.t 16)]⟩, 
  ⟨(some 6), none, .mv (.t 17)⟩]
def c31r3 : List Opn := [
  ⟨(some 18), none, .mv (.t 5)⟩, 
  ⟨(some 19), none, .mv (.t 18)⟩, 
  ⟨(some 20), some (19, false), .mv (.t 6)⟩, 
  ⟨(some 21), none, .pick (.t 19) (.c (.s (.d (.bool true)))) (.t 20)⟩, 
  ⟨(some 7), none, .mv (.t 21)⟩]
def c31r4 : List Opn := [
  ⟨(some 22), none, .fadr 5 (.t 2)⟩, 
  ⟨(some 23), none, .load false 1 (.t 22)⟩]
def c31r5 : List Opn := [
  ⟨(some 24), none, .mv (.t 6)⟩, 
  ⟨(some 7), none, .mv (.t 24)⟩]
def c31r6 : List Opn := [
  ⟨(some 25), none, .fadr 6 (.t 2)⟩, 
  ⟨(some 26), none, .load false 1 (.t 25)⟩]
def c31r7 : List Opn := [
  ⟨(some 27), none, .mv (.t 5)⟩, 
  ⟨(some 7), none, .mv (.t 27)⟩]
def c31r8 : List Opn := [
  ⟨(some 28), none, .fadr 0 (.t 2)⟩, 
  ⟨(some 29), none, .load false 1 (.t 28)⟩, 
  ⟨(some 30), none, .fadr 0 (.t 3)⟩, 
  ⟨(some 31), none, .load false 1 (.t 30)⟩, 
  ⟨(some 32), none, .call (.fn 56) [(.t 29), (.t 31)]⟩, 
  ⟨(some 33), none, .mv (.t 32)⟩, 
  ⟨(some 34), some (33, true), .fadr 1 (.t 2)⟩, 
  ⟨(some 35), some (33, true), .load false 1 (.t 34)⟩, 
  ⟨(some 36), some (33, true), .fadr 1 (.t 3)⟩, 
  ⟨(some 37), some (33, true), .load false 1 (.t 36)⟩, 
  ⟨(some 38), some (33, true), .call (.fn 56) [(.t 35), (.t 37)]⟩, 
  ⟨(some 39), none, .pick (.t 33) (.t 38) (.c (.s (.d (.bool false))))⟩, 
  ⟨(some 40), none, .mv (.t 39)⟩, 
  ⟨(some 41), some (40, true), .fadr 3 (.t 2)⟩, 
  ⟨(some 42), some (40, true), .load false 1 (.t 41)⟩, 
  ⟨(some 43), some (40, true), .fadr 3 (.t 3)⟩, 
  ⟨(some 44), some (40, true), .load false 1 (.t 43)⟩, 
  ⟨(some 45), some (40, true), .call (.fn 56) [(.t 42), (.t 44)]⟩, 
  ⟨(some 46), none, .pick (.t 40) (.t 45) (.c (.s (.d (.bool false))))⟩, 
  ⟨(some 47), none, .mv (.t 46)⟩, 
  ⟨(some 48), some (47, true), .mv (.t 7)⟩, 
  ⟨(some 49), some (47, true), .mv (.t 48)⟩, 
  ⟨(some 50), some (49, false), .fadr 5 (.t 2)⟩, 
  ⟨(some 51), some (49, false), .load false 1 (.t 50)⟩, 
  ⟨(some 52), some (49, false), .mv (.t 51)⟩, 
  ⟨(some 53), some (52, true), .fadr 6 (.t 2)⟩, 
  ⟨(some 54), some (52, true), .load false 1 (.t 53)⟩, 
  ⟨(some 55), some (49, false), .pick (.t 52) (.t 54) (.c (.s (.d (.bool false))))⟩, 
  ⟨(some 56), some (47, true), .pick (.t 49) (.c (.s (.d (.bool true)))) (.t 55)⟩, 
  ⟨(some 57), none, .pick (.t 47) (.t 56) (.c (.s (.d (.bool false))))⟩, 
  ⟨(some 4), none, .mv (.t 57)⟩]
def c31 : C := .seq (.reg c31r0 none [2, 3]) (.seq (.reg c31r1 none [2, 3, 5]) (.seq (.reg c31r2 none [2, 3, 5, 6]) (.seq (.reg c31r3 none [2, 3, 5, 6, 7]) (.seq (.seq (.reg c31r4 none [2, 3, 5, 6, 7, 23]) (.cond (.t 23) (.reg c31r5 none [2, 3, 5, 7]) (.skip))) (.seq (.seq (.reg c31r6 none [2, 3, 5, 7, 26]) (.cond (.t 26) (.reg c31r7 none [2, 3, 7]) (.skip))) (.seq (.reg c31r8 none [4]) (.ret)))))))
def k31 : List (Nat × List Nat) := [(8, [4]), (7, [2, 3, 7]), (6, [2, 3, 5, 7, 26]), (5, [2, 3, 5, 7]), (4, [2, 3, 5, 6, 7, 23]), (3, [2, 3, 5, 6, 7]), (2, [2, 3, 5, 6]), (1, [2, 3, 5]), (0, [2, 3])]
theorem cc31 : (Tryd.f31.body).bind (cC Tryd.prog 58 k31) = some c31 := by kernel_rfl
def rv31 : List RV := [.t 4]
theorem cr31 : cRVs Tryd.prog Tryd.f31.results.toList = some rv31 := by kernel_rfl
theorem f_ref08_Fires_ok (c : api_Cron) (t : api_Clock) (y_ : Bool) (h : f_ref08_Fires c t = some y_) : Fun Tryd.prog glP 31 [.b (.agg ((e_api_Cron c).map Lc.d)), .b (.agg ((e_api_Clock t).map Lc.d))] (.b (.s (.d (.bool y_)))) := by
  refine fun_walk [] Tryd.func31 Tryd.ntmps31 cc31 cr31 (by kernel_rfl) (by simp only [List.length_cons, List.length_nil]; decide) ?_
  generalize hR : Ret _ _ _ _ _ = R_
  simp only [wz, wd, ws, seval, e_api_Clock, e_api_Cron]
  unfold f_ref08_Fires at h; unfold c31
  refine .seq ?_
  refine Rw.walk ?_
  simp only [wz, wd, ws, seval, c31r0, semI.eq_10, semI.eq_11, semI.eq_3, semI.eq_5, semI.eq_7, e_api_Clock, e_api_Cron]
  refine .seq ?_
  refine Rw.walk ?_
  simp only [wz, wd, ws, seval, c31r1, semI.eq_10, semI.eq_11, semI.eq_3, semI.eq_5, semI.eq_7, e_api_Clock, e_api_Cron]
  obtain ⟨t2, e1, h⟩ := Option.bind_eq_some_iff.1 h
  refine call_fun [] false ⟨trivial, trivial, trivial, trivial⟩ rfl ?_ (f_ref08_set_ok _ _ _ e1) (fun _ => rfl) (fun i hi => by cases hi) ?_
  · simp only [wz, wd, ws, seval, e_api_Clock, e_api_Cron]
  simp only [wz, wd, ws, seval, c31r1, semI.eq_10, semI.eq_11, semI.eq_3, semI.eq_5, semI.eq_7, e_api_Clock, e_api_Cron]
  refine .seq ?_
  refine Rw.walk ?_
  simp only [wz, wd, ws, seval, c31r2, semI.eq_10, semI.eq_11, semI.eq_3, semI.eq_5, semI.eq_7, e_api_Clock, e_api_Cron]
  obtain ⟨t3, e2, h⟩ := Option.bind_eq_some_iff.1 h
  refine call_fun [] false ⟨trivial, trivial, trivial, trivial⟩ rfl ?_ (f_ref08_set_ok _ _ _ e2) (fun _ => rfl) (fun i hi => by cases hi) ?_
  · simp only [wz, wd, ws, seval, e_api_Clock, e_api_Cron]
  simp only [wz, wd, ws, seval, c31r2, semI.eq_10, semI.eq_11, semI.eq_3, semI.eq_5, semI.eq_7, e_api_Clock, e_api_Cron]
  refine .seq ?_
  refine Rw.walk ?_
  simp only [wz, wd, ws, seval, c31r3, semI.eq_10, semI.eq_11, semI.eq_3, semI.eq_5, semI.eq_7, e_api_Clock, e_api_Cron]
  repeat (refine And.intro ?_ ?_; · first | omega | (simp only [List.length_append, List.length_cons, List.length_nil] at *; omega) | (simp only [List.map_cons, List.map_nil] at *; omega) | (intro q; simp only [wz, wd, ws, seval, q]; done))
  refine .seq ?_
  obtain ⟨s, hf, h⟩ := Option.bind_eq_some_iff.1 h
  refine W.cut1 ⟨lkT [(2, .b (.s (.ptr 2 1 0 0))), (3, .b (.s (.ptr 3 1 0 0))), (5, .b (.s (.d (.bool t2)))), (7, .b (.s (.d (.bool s))))], lkG [(2, ⟨7, [[(.d (.int .u64 c.Minutes)), (.d (.int .u64 c.Hours)), (.d (.int .u64 c.Days)), (.d (.int .u64 c.Months)), (.d (.int .u64 c.Week)), (.d (.bool c.AnyDay)), (.d (.bool c.AnyWeek))]], false⟩), (3, ⟨6, [[(.d (.int .i64 t.Minute)), (.d (.int .i64 t.Hour)), (.d (.int .i64 t.Day)), (.d (.int .i64 t.Month)), (.d (.int .i64 t.Year)), (.d (.int .i64 t.Week))]], false⟩)]⟩ ?_ (fun tail => ?_)
  · skip
    refine .seq ?_
    obtain ⟨s2, hf, h⟩ := Option.bind_eq_some_iff.1 h
    refine W.cut1 ⟨lkT [(2, .b (.s (.ptr 2 1 0 0))), (3, .b (.s (.ptr 3 1 0 0))), (7, .b (.s (.d (.bool s2))))], lkG [(2, ⟨7, [[(.d (.int .u64 c.Minutes)), (.d (.int .u64 c.Hours)), (.d (.int .u64 c.Days)), (.d (.int .u64 c.Months)), (.d (.int .u64 c.Week)), (.d (.bool c.AnyDay)), (.d (.bool c.AnyWeek))]], false⟩), (3, ⟨6, [[(.d (.int .i64 t.Minute)), (.d (.int .i64 t.Hour)), (.d (.int .i64 t.Day)), (.d (.int .i64 t.Month)), (.d (.int .i64 t.Year)), (.d (.int .i64 t.Week))]], false⟩)]⟩ ?_ (fun tail => ?_)
    · skip
      refine .seq ?_
      refine Rw.walk ?_
      simp only [wz, wd, ws, seval, c31r8, semI.eq_10, semI.eq_11, semI.eq_3, semI.eq_5, semI.eq_7, e_api_Clock, e_api_Cron]
      obtain ⟨t4, e3, h⟩ := Option.bind_eq_some_iff.1 h
      refine call_fun [] false ⟨trivial, trivial, trivial, trivial⟩ rfl ?_ (f_ref08_set_ok _ _ _ e3) (fun _ => rfl) (fun i hi => by cases hi) ?_
      · simp only [wz, wd, ws, seval, e_api_Clock, e_api_Cron]
      simp only [wz, wd, ws, seval, c31r8, semI.eq_10, semI.eq_11, semI.eq_3, semI.eq_5, semI.eq_7, e_api_Clock, e_api_Cron]
      refine call_alt (v := .b (.s (.d (.int .u64 c.Hours)))) rfl rfl (by simp only [wz, wd, ws, seval]) (fun q => ⟨_, by simp only [wz, wd, ws, seval, semI.eq_10, e_api_Clock, e_api_Cron], trivial⟩) ?_
      simp only [wz, wd, ws, seval, c31r8, semI.eq_10, semI.eq_11, semI.eq_3, semI.eq_5, semI.eq_7, e_api_Clock, e_api_Cron]
      refine call_alt (v := .b (.s (.d (.int .i64 t.Hour)))) rfl rfl (by simp only [wz, wd, ws, seval]) (fun q => ⟨_, by simp only [wz, wd, ws, seval, semI.eq_10, e_api_Clock, e_api_Cron], trivial⟩) ?_
      simp only [wz, wd, ws, seval, c31r8, semI.eq_10, semI.eq_11, semI.eq_3, semI.eq_5, semI.eq_7, e_api_Clock, e_api_Cron]
      obtain ⟨t5, e4, h⟩ := Option.bind_eq_some_iff.1 h
      refine call_funG [] rfl (by simp only [wz, wd, ws, seval]) rfl ?_ (fun q => (f_ref08_set_ok _ _ _ (gx_iff e4 (by first | exact q | simpa using q)))) rfl (fun i hi => by cases hi) ?_
      · simp only [wz, wd, ws, seval, e_api_Clock, e_api_Cron]
      simp only [wz, wd, ws, seval, c31r8, semI.eq_10, semI.eq_11, semI.eq_3, semI.eq_5, semI.eq_7, e_api_Clock, e_api_Cron]
      repeat (refine And.intro ?_ ?_; · first | omega | (simp only [List.length_append, List.length_cons, List.length_nil] at *; omega) | (simp only [List.map_cons, List.map_nil] at *; omega) | (intro q; simp only [wz, wd, ws, seval, q]; done))
      refine call_alt (v := .b (.s (.d (.int .u64 c.Months)))) rfl rfl (by simp only [wz, wd, ws, seval]) (fun q => ⟨_, by simp only [wz, wd, ws, seval, semI.eq_10, e_api_Clock, e_api_Cron], trivial⟩) ?_
      simp only [wz, wd, ws, seval, c31r8, semI.eq_10, semI.eq_11, semI.eq_3, semI.eq_5, semI.eq_7, e_api_Clock, e_api_Cron]
      refine call_alt (v := .b (.s (.d (.int .i64 t.Month)))) rfl rfl (by simp only [wz, wd, ws, seval]) (fun q => ⟨_, by simp only [wz, wd, ws, seval, semI.eq_10, e_api_Clock, e_api_Cron], trivial⟩) ?_
      simp only [wz, wd, ws, seval, c31r8, semI.eq_10, semI.eq_11, semI.eq_3, semI.eq_5, semI.eq_7, e_api_Clock, e_api_Cron]
      obtain ⟨t6, e5, h⟩ := Option.bind_eq_some_iff.1 h
      refine call_funG [] rfl (by simp only [wz, wd, ws, seval]) rfl ?_ (fun q => (f_ref08_set_ok _ _ _ (gx_iff e5 (by first | exact q | simpa using q)))) rfl (fun i hi => by cases hi) ?_
      · simp only [wz, wd, ws, seval, e_api_Clock, e_api_Cron]
      simp only [wz, wd, ws, seval, c31r8, semI.eq_10, semI.eq_11, semI.eq_3, semI.eq_5, semI.eq_7, e_api_Clock, e_api_Cron]
      repeat (refine And.intro ?_ ?_; · first | omega | (simp only [List.length_append, List.length_cons, List.length_nil] at *; omega) | (simp only [List.map_cons, List.map_nil] at *; omega) | (intro q; simp only [wz, wd, ws, seval, q]; done))
      refine call_alt (v := .b (.s (.d (.bool c.AnyDay)))) rfl rfl (by simp only [wz, wd, ws, seval]) (fun q => ⟨_, by simp only [wz, wd, ws, seval, semI.eq_10, e_api_Clock, e_api_Cron], trivial⟩) ?_
      simp only [wz, wd, ws, seval, c31r8, semI.eq_10, semI.eq_11, semI.eq_3, semI.eq_5, semI.eq_7, e_api_Clock, e_api_Cron]
      refine call_alt (v := .b (.s (.d (.bool c.AnyWeek)))) rfl rfl (by simp only [wz, wd, ws, seval]) (fun q => ⟨_, by simp only [wz, wd, ws, seval, semI.eq_10, e_api_Clock, e_api_Cron], trivial⟩) ?_
      simp only [wz, wd, ws, seval, c31r8, semI.eq_10, semI.eq_11, semI.eq_3, semI.eq_5, semI.eq_7, e_api_Clock, e_api_Cron]
      repeat (refine And.intro ?_ ?_; · first | omega | (simp only [List.length_append, List.length_cons, List.length_nil] at *; omega) | (simp only [List.map_cons, List.map_nil] at *; omega) | (intro q; simp only [wz, wd, ws, seval, q]; done))
      obtain rfl := Option.some.inj h
      refine .ret ?_
      rw [← hR]
      simp only [wz, wd, ws, seval, rv31, e_api_Clock, e_api_Cron]
    replace h := hf
    refine .seq ?_
    refine Rw.walk ?_
    simp only [wz, wd, ws, seval, c31r6, semI.eq_10, semI.eq_11, semI.eq_3, semI.eq_5, semI.eq_7, e_api_Clock, e_api_Cron]
    refine .cond (p := c.AnyWeek) (by first | rfl | simp only [wz, wd, ws, seval]) (fun h1 => ?_) (fun h1 => ?_)
    · rw [ite_t h1] at h
      refine Rw.walk ?_
      simp only [wz, wd, ws, seval, c31r7, semI.eq_10, semI.eq_11, semI.eq_3, semI.eq_5, semI.eq_7, e_api_Clock, e_api_Cron]
      obtain rfl := Option.some.inj h
      refine .weak (Imp.co [] _ _ ?_ ?_ ?_ ?_ ?_) (tail) <;> simp only [wz, wd, ws, seval, wi, er_nil, e_api_Clock, e_api_Cron]
    · rw [ite_f h1] at h
      refine .skip ?_
      obtain rfl := Option.some.inj h
      refine .weak (Imp.co [] _ _ ?_ ?_ ?_ ?_ ?_) (tail) <;> simp only [wz, wd, ws, seval, wi, er_nil, e_api_Clock, e_api_Cron]
  replace h := hf
  refine .seq ?_
  refine Rw.walk ?_
  simp only [wz, wd, ws, seval, c31r4, semI.eq_10, semI.eq_11, semI.eq_3, semI.eq_5, semI.eq_7, e_api_Clock, e_api_Cron]
  refine .cond (p := c.AnyDay) (by first | rfl | simp only [wz, wd, ws, seval]) (fun h1 => ?_) (fun h1 => ?_)
  · rw [ite_t h1] at h
    refine Rw.walk ?_
    simp only [wz, wd, ws, seval, c31r5, semI.eq_10, semI.eq_11, semI.eq_3, semI.eq_5, semI.eq_7, e_api_Clock, e_api_Cron]
    obtain rfl := Option.some.inj h
    refine .weak (Imp.co [] _ _ ?_ ?_ ?_ ?_ ?_) (tail) <;> simp only [wz, wd, ws, seval, wi, er_nil, e_api_Clock, e_api_Cron]
  · rw [ite_f h1] at h
    refine .skip ?_
    obtain rfl := Option.some.inj h
    refine .weak (Imp.co [] _ _ ?_ ?_ ?_ ?_ ?_) (tail) <;> simp only [wz, wd, ws, seval, wi, er_nil, e_api_Clock, e_api_Cron]
-- 10 consignor/consignorlaw08.CronFires
def c10r0 : List Opn := [
  ⟨(some 3), none, .box 7 (.t 0)⟩, 
  ⟨(some 6), none, .mv (.c (.s (.d (.bool false))))⟩]
def c10r1 : List Opn := [
  ⟨(some 15), none, .mv (.t 1)⟩, 
  ⟨(some 16), none, .call (.fn 26) [(.t 15)]⟩, 
  ⟨(some 14), none, .mv (.t 16)⟩, 
  ⟨(some 17), none, .ext (.t 14) 0⟩, 
  ⟨(some 18), none, .ext (.t 14) 1⟩, 
  ⟨(some 7), none, .new [(.d (.int .i64 0)), (.d (.int .i64 0)), (.d (.int .i64 0)), (.d (.int .i64 0)), (.d (.int .i64 0)), (.d (.int .i64 0))]⟩, 
  ⟨none, none, .store 6 (.t 7) (.t 17)⟩, 
  ⟨(some 8), none, .mv (.t 18)⟩]
def c10r2 : List Opn := [
  ⟨(some 20), none, .load true 7 (.t 3)⟩, 
  ⟨(some 21), none, .mv (.t 1)⟩, 
  ⟨(some 22), none, .mv (.t 2)⟩, 
  ⟨(some 23), none, .call (.fn 30) [(.t 20), (.t 21), (.t 22)]⟩, 
  ⟨(some 19), none, .mv (.t 23)⟩, 
  ⟨(some 24), none, .ext (.t 19) 0⟩, 
  ⟨(some 25), none, .ext (.t 19) 1⟩, 
  ⟨(some 9), none, .mv (.t 24)⟩, 
  ⟨(some 10), none, .mv (.t 25)⟩]
def c10r3 : List Opn := [
  ⟨(some 26), none, .load true 7 (.t 3)⟩, 
  ⟨(some 27), none, .mv (.t 1)⟩, 
  ⟨(some 28), none, .call (.fn 29) [(.t 26), (.t 27)]⟩, 
  ⟨(some 29), none, .mv (.t 8)⟩, 
  ⟨(some 30), none, .bin .eql (.t 29) (.c (.s (.d (.int .i64 0))))⟩, 
  ⟨(some 31), none, .mv (.t 30)⟩, 
  ⟨(some 32), some (31, true), .load true 7 (.t 3)⟩, 
  ⟨(some 33), some (31, true), .load true 6 (.t 7)⟩, 
  ⟨(some 34), some (31, true), .call (.fn 31) [(.t 32), (.t 33)]⟩, 
  ⟨(some 35), none, .pick (.t 31) (.t 34) (.c (.s (.d (.bool false))))⟩, 
  ⟨(some 36), none, .bbo .neq (.t 28) (.t 35)⟩, 
  ⟨(some 37), none, .mv (.t 36)⟩, 
  ⟨(some 38), some (37, false), .call (.fn 25) []⟩, 
  ⟨(some 39), some (37, false), .un .not (.t 38)⟩, 
  ⟨(some 40), none, .pick (.t 37) (.c (.s (.d (.bool true)))) (.t 39)⟩]
def c10r4 : List Opn := [
  ⟨(some 6), none, .mv (.c (.s (.d (.bool false))))⟩]
def c10r5 : List Opn := [
  ⟨(some 41), none, .mv (.t 8)⟩, 
  ⟨(some 42), none, .bin .neq (.t 41) (.c (.s (.d (.int .i64 0))))⟩, 
  ⟨(some 43), none, .mv (.t 42)⟩, 
  ⟨(some 44), some (43, false), .mv (.t 2)⟩, 
  ⟨(some 45), some (43, false), .bin .lss (.t 44) (.c (.s (.d (.int .i64 0))))⟩, 
  ⟨(some 46), none, .pick (.t 43) (.c (.s (.d (.bool true)))) (.t 45)⟩, 
  ⟨(some 47), none, .mv (.t 46)⟩, 
  ⟨(some 48), some (47, false), .mv (.t 2)⟩, 
  ⟨(some 49), some (47, false), .bin .gtr (.t 48) (.c (.s (.d (.int .i64 100000))))⟩, 
  ⟨(some 50), none, .pick (.t 47) (.c (.s (.d (.bool true)))) (.t 49)⟩]
def c10r6 : List Opn := [
  ⟨(some 51), none, .mv (.t 10)⟩, 
  ⟨(some 52), none, .bin .eql (.t 51) (.c (.s (.d (.int .i64 1))))⟩, 
  ⟨(some 53), none, .mv (.t 52)⟩, 
  ⟨(some 54), some (53, true), .mv (.t 9)⟩, 
  ⟨(some 55), some (53, true), .bin .eql (.t 54) (.c (.s (.d (.int .i64 0))))⟩, 
  ⟨(some 56), none, .pick (.t 53) (.t 55) (.c (.s (.d (.bool false))))⟩, 
  ⟨(some 6), none, .mv (.t 56)⟩]
def c10r7 : List Opn := [
  ⟨(some 57), none, .mv (.t 2)⟩, 
  ⟨(some 58), none, .bin .gtr (.t 57) (.c (.s (.d (.int .i64 400))))⟩]
def c10r8 : List Opn := [
  ⟨(some 59), none, .mv (.t 10)⟩, 
  ⟨(some 60), none, .bin .eql (.t 59) (.c (.s (.d (.int .i64 0))))⟩, 
  ⟨(some 61), none, .mv (.t 60)⟩, 
  ⟨(some 62), some (61, true), .mv (.t 9)⟩, 
  ⟨(some 63), some (61, true), .mv (.t 1)⟩, 
  ⟨(some 64), some (61, true), .bin .gtr (.t 62) (.t 63)⟩, 
  ⟨(some 65), none, .pick (.t 61) (.t 64) (.c (.s (.d (.bool false))))⟩, 
  ⟨(some 66), none, .mv (.t 65)⟩, 
  ⟨(some 67), some (66, true), .mv (.t 9)⟩, 
  ⟨(some 68), some (66, true), .mv (.t 1)⟩, 
  ⟨(some 69), some (66, true), .mv (.t 2)⟩, 
  ⟨(some 70), some (66, true), .bin .add (.t 68) (.t 69)⟩, 
  ⟨(some 71), some (66, true), .bin .leq (.t 67) (.t 70)⟩, 
  ⟨(some 72), none, .pick (.t 66) (.t 71) (.c (.s (.d (.bool false))))⟩, 
  ⟨(some 73), none, .mv (.t 72)⟩, 
  ⟨(some 74), some (73, false), .mv (.t 10)⟩, 
  ⟨(some 75), some (73, false), .bin .eql (.t 74) (.c (.s (.d (.int .i64 9))))⟩, 
  ⟨(some 76), some (73, false), .mv (.t 75)⟩, 
  ⟨(some 77), some (76, true), .mv (.t 9)⟩, 
  ⟨(some 78), some (76, true), .bin .eql (.t 77) (.c (.s (.d (.int .i64 0))))⟩, 
  ⟨(some 79), some (73, false), .pick (.t 76) (.t 78) (.c (.s (.d (.bool false))))⟩, 
  ⟨(some 80), none, .pick (.t 73) (.c (.s (.d (.bool true)))) (.t 79)⟩, 
  ⟨(some 6), none, .mv (.t 80)⟩]
def c10r9 : List Opn := [
  ⟨(some 81), none, .mv (.t 1)⟩, 
  ⟨(some 82), none, .bin .add (.t 81) (.c (.s (.d (.int .i64 1))))⟩, 
  ⟨(some 11), none, .mv (.t 82)⟩]
def c10r10 : List Opn := [
  ⟨(some 83), none, .mv (.t 11)⟩, 
  ⟨(some 84), none, .mv (.t 1)⟩, 
  ⟨(some 85), none, .mv (.t 2)⟩, 
  ⟨(some 86), none, .bin .add (.t 84) (.t 85)⟩, 
  ⟨(some 87), none, .bin .leq (.t 83) (.t 86)⟩, 
  ⟨(some 88), none, .mv (.t 87)⟩, 
  ⟨(some 89), some (88, true), .mv (.t 11)⟩, 
  ⟨(some 90), some (88, true), .bin .leq (.t 89) (.c (.s (.d (.int .i64 1099511627776))))⟩, 
  ⟨(some 91), none, .pick (.t 88) (.t 90) (.c (.s (.d (.bool false))))⟩]
def c10r12 : List Opn := [
  ⟨(some 95), none, .mv (.t 11)⟩, 
  ⟨(some 96), none, .call (.fn 26) [(.t 95)]⟩, 
  ⟨(some 94), none, .mv (.t 96)⟩, 
  ⟨(some 97), none, .ext (.t 94) 0⟩, 
  ⟨(some 98), none, .ext (.t 94) 1⟩, 
  ⟨(some 12), none, .new [(.d (.int .i64 0)), (.d (.int .i64 0)), (.d (.int .i64 0)), (.d (.int .i64 0)), (.d (.int .i64 0)), (.d (.int .i64 0))]⟩, 
  ⟨none, none, .store 6 (.t 12) (.t 97)⟩, 
  ⟨(some 13), none, .mv (.t 98)⟩]
def c10r13 : List Opn := [
  ⟨(some 99), none, .mv (.t 13)⟩, 
  ⟨(some 100), none, .bin .neq (.t 99) (.c (.s (.d (.int .i64 0))))⟩]
def c10r14 : List Opn := [
  ⟨(some 6), none, .mv (.c (.s (.d (.bool false))))⟩]
def c10r15 : List Opn := [
  ⟨(some 101), none, .load true 7 (.t 3)⟩, 
  ⟨(some 102), none, .load true 6 (.t 12)⟩, 
  ⟨(some 103), none, .call (.fn 31) [(.t 101), (.t 102)]⟩]
def c10r16 : List Opn := [
  ⟨(some 104), none, .mv (.t 10)⟩, 
  ⟨(some 105), none, .bin .eql (.t 104) (.c (.s (.d (.int .i64 0))))⟩, 
  ⟨(some 106), none, .mv (.t 105)⟩, 
  ⟨(some 107), some (106, true), .mv (.t 9)⟩, 
  ⟨(some 108), some (106, true), .mv (.t 11)⟩, 
  ⟨(some 109), some (106, true), .bin .eql (.t 107) (.t 108)⟩, 
  ⟨(some 110), none, .pick (.t 106) (.t 109) (.c (.s (.d (.bool false))))⟩, 
  ⟨(some 6), none, .mv (.t 110)⟩]
def c10r11 : List Opn := [
  ⟨(some 92), none, .mv (.t 11)⟩, 
  ⟨(some 93), none, .bin .add (.t 92) (.c (.s (.d (.int .i64 1))))⟩, 
  ⟨(some 11), none, .mv (.t 93)⟩]
def c10l17 : C := .seq (.seq (.reg c10r10 none [1, 2, 3, 9, 10, 11, 91]) (.cond (.t 91) (.skip) (.exit 0))) (.seq (.blk 1 (.seq (.reg c10r12 none [1, 2, 3, 9, 10, 11, 12, 13]) (.seq (.seq (.reg c10r13 none [1, 2, 3, 9, 10, 11, 12, 100]) (.cond (.t 100) (.seq (.reg c10r14 none [6]) (.ret)) (.skip))) (.seq (.reg c10r15 none [1, 2, 3, 9, 10, 11, 103]) (.cond (.t 103) (.seq (.reg c10r16 none [6]) (.ret)) (.skip)))))) (.reg c10r11 none [1, 2, 3, 9, 10, 11]))
def c10r17 : List Opn := [
  ⟨(some 111), none, .mv (.t 10)⟩, 
  ⟨(some 112), none, .bin .eql (.t 111) (.c (.s (.d (.int .i64 9))))⟩, 
  ⟨(some 113), none, .mv (.t 112)⟩, 
  ⟨(some 114), some (113, true), .mv (.t 9)⟩, 
  ⟨(some 115), some (113, true), .bin .eql (.t 114) (.c (.s (.d (.int .i64 0))))⟩, 
  ⟨(some 116), none, .pick (.t 113) (.t 115) (.c (.s (.d (.bool false))))⟩, 
  ⟨(some 6), none, .mv (.t 116)⟩]
def c10 : C := .seq (.reg c10r0 none [1, 2, 3]) (.seq (.reg c10r1 none [1, 2, 3, 7, 8]) (.seq (.reg c10r2 none [1, 2, 3, 7, 8, 9, 10]) (.seq (.seq (.reg c10r3 none [1, 2, 3, 8, 9, 10, 40]) (.cond (.t 40) (.seq (.reg c10r4 none [6]) (.ret)) (.skip))) (.seq (.seq (.reg c10r5 none [1, 2, 3, 9, 10, 50]) (.cond (.t 50) (.seq (.reg c10r6 none [6]) (.ret)) (.skip))) (.seq (.seq (.reg c10r7 none [1, 2, 3, 9, 10, 58]) (.cond (.t 58) (.seq (.reg c10r8 none [6]) (.ret)) (.skip))) (.seq (.seq (.reg c10r9 none [1, 2, 3, 9, 10, 11]) (.blk 0 (.loop c10l17))) (.seq (.reg c10r17 none [6]) (.ret))))))))
def k10 : List (Nat × List Nat) := [(17, [6]), (11, [1, 2, 3, 9, 10, 11]), (16, [6]), (15, [1, 2, 3, 9, 10, 11, 103]), (14, [6]), (13, [1, 2, 3, 9, 10, 11, 12, 100]), (12, [1, 2, 3, 9, 10, 11, 12, 13]), (10, [1, 2, 3, 9, 10, 11, 91]), (9, [1, 2, 3, 9, 10, 11]), (8, [6]), (7, [1, 2, 3, 9, 10, 58]), (6, [6]), (5, [1, 2, 3, 9, 10, 50]), (4, [6]), (3, [1, 2, 3, 8, 9, 10, 40]), (2, [1, 2, 3, 7, 8, 9, 10]), (1, [1, 2, 3, 7, 8]), (0, [1, 2, 3])]
theorem cc10 : (Tryd.f10.body).bind (cC Tryd.prog 117 k10) = some c10 := by kernel_rfl
def rv10 : List RV := [.t 6]
theorem cr10 : cRVs Tryd.prog Tryd.f10.results.toList = some rv10 := by kernel_rfl
theorem f_law08_CronFires_l17_ok (c : api_Cron) (tick : Int) (most : Int) (t2 : Int × Int) (y_ : Bool) (R_ : St → Prop) (hR : (Ret Tryd.prog glP [] rv10 (.b (.s (.d (.bool y_))))) = R_) : ∀ (m_ : Nat) (kv : Int) (res_ : (Int) ⊕ (Bool)) (h : f_law08_CronFires_l17 c tick most t2 m_ kv = some res_) (k_ : List It) (hx : ∀ s_ : Int, res_ = .inl s_ → W Tryd.prog glP 117 k_ ⟨lkT [(1, .b (.s (.d (.int .i64 tick)))), (2, .b (.s (.d (.int .i64 most)))), (3, .b (.s (.ptr 3 1 0 0))), (9, .b (.s (.d (.int .i64 t2.1)))), (10, .b (.s (.d (.int .i64 t2.2)))), (11, .b (.s (.d (.int .i64 s_))))], lkG [(3, ⟨7, [[(.d (.int .u64 c.Minutes)), (.d (.int .u64 c.Hours)), (.d (.int .u64 c.Days)), (.d (.int .u64 c.Months)), (.d (.int .u64 c.Week)), (.d (.bool c.AnyDay)), (.d (.bool c.AnyWeek))]], false⟩)]⟩ R_) (hr : ∀ z_ : Bool, res_ = .inr z_ → z_ = y_), W Tryd.prog glP 117 (.c c10l17 :: .lp c10l17 :: .blk 0 :: k_) ⟨lkT [(1, .b (.s (.d (.int .i64 tick)))), (2, .b (.s (.d (.int .i64 most)))), (3, .b (.s (.ptr 3 1 0 0))), (9, .b (.s (.d (.int .i64 t2.1)))), (10, .b (.s (.d (.int .i64 t2.2)))), (11, .b (.s (.d (.int .i64 kv))))], lkG [(3, ⟨7, [[(.d (.int .u64 c.Minutes)), (.d (.int .u64 c.Hours)), (.d (.int .u64 c.Days)), (.d (.int .u64 c.Months)), (.d (.int .u64 c.Week)), (.d (.bool c.AnyDay)), (.d (.bool c.AnyWeek))]], false⟩)]⟩ R_ := by
  intro m_; induction m_ with
  | zero => intro kv res_ h; rw [f_law08_CronFires_l17.eq_1] at h; cases h
  | succ m_ ih =>
    intro kv res_ h k_ hx hr; rw [f_law08_CronFires_l17.eq_2] at h; refine W.cdef c10l17.eq_1 ?_
    refine .seq ?_
    refine .seq ?_
    refine Rw.walk ?_
    simp only [wz, wd, ws, seval, c10r10, semI.eq_10, semI.eq_11, semI.eq_3, semI.eq_5, semI.eq_7, e_api_Clock, e_api_Cron]
    repeat (refine And.intro ?_ ?_; · first | omega | (simp only [List.length_append, List.length_cons, List.length_nil] at *; omega) | (simp only [List.map_cons, List.map_nil] at *; omega) | (intro q; simp only [wz, wd, ws, seval, q]; done))
    refine .cond (p := ((decide (kv ≤ (IntKind.i64.wrap (tick + most)))) && (decide (kv ≤ 1099511627776)))) (by first | rfl | simp only [wz, wd, ws, seval]) (fun h1 => ?_) (fun h1 => ?_)
    · rw [ite_t h1] at h
      refine .skip ?_
      refine .seq ?_
      refine .blk ?_
      refine .seq ?_
      refine Rw.walk ?_
      simp only [wz, wd, ws, seval, c10r12, semI.eq_10, semI.eq_11, semI.eq_3, semI.eq_5, semI.eq_7, e_api_Clock, e_api_Cron]
      obtain ⟨t6, e6, h⟩ := Option.bind_eq_some_iff.1 h
      refine call_fun [] false ⟨trivial, trivial, trivial⟩ rfl ?_ (f_cron_At_ok _ _ e6) (fun _ => rfl) (fun i hi => by cases hi) ?_
      · simp only [wz, wd, ws, seval, e_api_Clock, e_api_Cron]
      simp only [wz, wd, ws, seval, c10r12, semI.eq_10, semI.eq_11, semI.eq_3, semI.eq_5, semI.eq_7, e_api_Clock, e_api_Cron]
      refine .seq ?_
      refine .seq ?_
      refine Rw.walk ?_
      simp only [wz, wd, ws, seval, c10r13, semI.eq_10, semI.eq_11, semI.eq_3, semI.eq_5, semI.eq_7, e_api_Clock, e_api_Cron]
      refine .cond (p := (t6.2 != 0)) (by first | rfl | simp only [wz, wd, ws, seval]) (fun h1 => ?_) (fun h1 => ?_)
      · rw [ite_t h1] at h
        refine .seq ?_
        refine Rw.walk ?_
        simp only [wz, wd, ws, seval, c10r14, semI.eq_10, semI.eq_11, semI.eq_3, semI.eq_5, semI.eq_7, e_api_Clock, e_api_Cron]
        obtain rfl := Option.some.inj h; obtain rfl := hr _ rfl
        refine .ret ?_
        rw [← hR]
        simp only [wz, wd, ws, seval, rv10, e_api_Clock, e_api_Cron]
      · rw [ite_f h1] at h
        refine .skip ?_
        refine .seq ?_
        refine Rw.walk ?_
        simp only [wz, wd, ws, seval, c10r15, semI.eq_10, semI.eq_11, semI.eq_3, semI.eq_5, semI.eq_7, e_api_Clock, e_api_Cron]
        obtain ⟨t7, e7, h⟩ := Option.bind_eq_some_iff.1 h
        refine call_fun [] false ⟨trivial, trivial, trivial, trivial⟩ rfl ?_ (f_ref08_Fires_ok _ _ _ e7) (fun _ => rfl) (fun i hi => by cases hi) ?_
        · simp only [wz, wd, ws, seval, e_api_Clock, e_api_Cron]
        simp only [wz, wd, ws, seval, c10r15, semI.eq_10, semI.eq_11, semI.eq_3, semI.eq_5, semI.eq_7, e_api_Clock, e_api_Cron]
        refine .cond (p := t7) (by first | rfl | simp only [wz, wd, ws, seval]) (fun h1 => ?_) (fun h1 => ?_)
        · rw [ite_t h1] at h
          refine .seq ?_
          refine Rw.walk ?_
          simp only [wz, wd, ws, seval, c10r16, semI.eq_10, semI.eq_11, semI.eq_3, semI.eq_5, semI.eq_7, e_api_Clock, e_api_Cron]
          repeat (refine And.intro ?_ ?_; · first | omega | (simp only [List.length_append, List.length_cons, List.length_nil] at *; omega) | (simp only [List.map_cons, List.map_nil] at *; omega) | (intro q; simp only [wz, wd, ws, seval, q]; done))
          obtain rfl := Option.some.inj h; obtain rfl := hr _ rfl
          refine .ret ?_
          rw [← hR]
          simp only [wz, wd, ws, seval, rv10, e_api_Clock, e_api_Cron]
        · rw [ite_f h1] at h
          refine .skip ?_
          refine .eblk ?_
          refine Rw.walk ?_
          simp only [wz, wd, ws, seval, c10r11, semI.eq_10, semI.eq_11, semI.eq_3, semI.eq_5, semI.eq_7, e_api_Clock, e_api_Cron]
          refine .lp ?_
          refine .weak (Imp.co [] _ _ ?_ ?_ ?_ ?_ ?_) (ih (IntKind.i64.wrap (kv + 1)) _ h k_ hx hr) <;> simp only [wz, wd, ws, seval, wi, er_nil, e_api_Clock, e_api_Cron]
    · rw [ite_f h1] at h
      refine .exit rfl ?_
      obtain rfl := Option.some.inj h
      refine .weak (Imp.co [] _ _ ?_ ?_ ?_ ?_ ?_) (hx _ rfl) <;> simp only [wz, wd, ws, seval, wi, er_nil, e_api_Clock, e_api_Cron]
theorem f_law08_CronFires_ok (c : api_Cron) (tick : Int) (most : Int) (y_ : Bool) (h : f_law08_CronFires c tick most = some y_) : Fun Tryd.prog glP 10 [.b (.agg ((e_api_Cron c).map Lc.d)), .b (.s (.d (.int .i64 tick))), .b (.s (.d (.int .i64 most)))] (.b (.s (.d (.bool y_)))) := by
  refine fun_walk [] Tryd.func10 Tryd.ntmps10 cc10 cr10 (by kernel_rfl) (by simp only [List.length_cons, List.length_nil]; decide) ?_
  generalize hR : Ret _ _ _ _ _ = R_
  simp only [wz, wd, ws, seval, e_api_Clock, e_api_Cron]
  unfold f_law08_CronFires at h; unfold c10
  refine .seq ?_
  refine Rw.walk ?_
  simp only [wz, wd, ws, seval, c10r0, semI.eq_10, semI.eq_11, semI.eq_3, semI.eq_5, semI.eq_7, e_api_Clock, e_api_Cron]
  refine .seq ?_
  refine Rw.walk ?_
  simp only [wz, wd, ws, seval, c10r1, semI.eq_10, semI.eq_11, semI.eq_3, semI.eq_5, semI.eq_7, e_api_Clock, e_api_Cron]
  obtain ⟨t, e1, h⟩ := Option.bind_eq_some_iff.1 h
  refine call_fun [] false ⟨trivial, trivial, trivial⟩ rfl ?_ (f_cron_At_ok _ _ e1) (fun _ => rfl) (fun i hi => by cases hi) ?_
  · simp only [wz, wd, ws, seval, e_api_Clock, e_api_Cron]
  simp only [wz, wd, ws, seval, c10r1, semI.eq_10, semI.eq_11, semI.eq_3, semI.eq_5, semI.eq_7, e_api_Clock, e_api_Cron]
  refine .seq ?_
  refine Rw.walk ?_
  simp only [wz, wd, ws, seval, c10r2, semI.eq_10, semI.eq_11, semI.eq_3, semI.eq_5, semI.eq_7, e_api_Clock, e_api_Cron]
  obtain ⟨t2, e2, h⟩ := Option.bind_eq_some_iff.1 h
  refine call_fun [] false ⟨trivial, trivial, trivial, trivial, trivial⟩ rfl ?_ (f_cron_Next_ok _ _ _ _ e2) (fun _ => rfl) (fun i hi => by cases hi) ?_
  · simp only [wz, wd, ws, seval, e_api_Clock, e_api_Cron]
  simp only [wz, wd, ws, seval, c10r2, semI.eq_10, semI.eq_11, semI.eq_3, semI.eq_5, semI.eq_7, e_api_Clock, e_api_Cron]
  refine .seq ?_
  refine .seq ?_
  refine Rw.walk ?_
  simp only [wz, wd, ws, seval, c10r3, semI.eq_10, semI.eq_11, semI.eq_3, semI.eq_5, semI.eq_7, e_api_Clock, e_api_Cron]
  obtain ⟨t3, e3, h⟩ := Option.bind_eq_some_iff.1 h
  refine call_fun [] false ⟨trivial, trivial, trivial, trivial⟩ rfl ?_ (f_cron_Fires_ok _ _ _ e3) (fun _ => rfl) (fun i hi => by cases hi) ?_
  · simp only [wz, wd, ws, seval, e_api_Clock, e_api_Cron]
  simp only [wz, wd, ws, seval, c10r3, semI.eq_10, semI.eq_11, semI.eq_3, semI.eq_5, semI.eq_7, e_api_Clock, e_api_Cron]
  refine call_alt (v := .b (.agg [(.d (.int .u64 c.Minutes)), (.d (.int .u64 c.Hours)), (.d (.int .u64 c.Days)), (.d (.int .u64 c.Months)), (.d (.int .u64 c.Week)), (.d (.bool c.AnyDay)), (.d (.bool c.AnyWeek))])) rfl rfl (by simp only [wz, wd, ws, seval]) (fun q => ⟨_, by simp only [wz, wd, ws, seval, semI.eq_10, e_api_Clock, e_api_Cron], trivial⟩) ?_
  simp only [wz, wd, ws, seval, c10r3, semI.eq_10, semI.eq_11, semI.eq_3, semI.eq_5, semI.eq_7, e_api_Clock, e_api_Cron]
  refine call_alt (v := .b (.agg [(.d (.int .i64 t.1.Minute)), (.d (.int .i64 t.1.Hour)), (.d (.int .i64 t.1.Day)), (.d (.int .i64 t.1.Month)), (.d (.int .i64 t.1.Year)), (.d (.int .i64 t.1.Week))])) rfl rfl (by simp only [wz, wd, ws, seval]) (fun q => ⟨_, by simp only [wz, wd, ws, seval, semI.eq_10, e_api_Clock, e_api_Cron], trivial⟩) ?_
  simp only [wz, wd, ws, seval, c10r3, semI.eq_10, semI.eq_11, semI.eq_3, semI.eq_5, semI.eq_7, e_api_Clock, e_api_Cron]
  obtain ⟨t4, e4, h⟩ := Option.bind_eq_some_iff.1 h
  refine call_funG [] rfl (by simp only [wz, wd, ws, seval]) rfl ?_ (fun q => (f_ref08_Fires_ok _ _ _ (gx_iff e4 (by first | exact q | simpa using q)))) rfl (fun i hi => by cases hi) ?_
  · simp only [wz, wd, ws, seval, e_api_Clock, e_api_Cron]
  simp only [wz, wd, ws, seval, c10r3, semI.eq_10, semI.eq_11, semI.eq_3, semI.eq_5, semI.eq_7, e_api_Clock, e_api_Cron]
  repeat (refine And.intro ?_ ?_; · first | omega | (simp only [List.length_append, List.length_cons, List.length_nil] at *; omega) | (simp only [List.map_cons, List.map_nil] at *; omega) | (intro q; simp only [wz, wd, ws, seval, q]; done))
  obtain ⟨t5, e5, h⟩ := Option.bind_eq_some_iff.1 h
  refine call_funG [] rfl (by simp only [wz, wd, ws, seval]) rfl ?_ (fun q => (f_law08_alive_ok _ (gx_iff e5 (by first | exact q | simpa using q)))) rfl (fun i hi => by cases hi) ?_
  · simp only [wz, wd, ws, seval, e_api_Clock, e_api_Cron]
  simp only [wz, wd, ws, seval, c10r3, semI.eq_10, semI.eq_11, semI.eq_3, semI.eq_5, semI.eq_7, e_api_Clock, e_api_Cron]
  repeat (refine And.intro ?_ ?_; · first | omega | (simp only [List.length_append, List.length_cons, List.length_nil] at *; omega) | (simp only [List.map_cons, List.map_nil] at *; omega) | (intro q; simp only [wz, wd, ws, seval, q]; done))
  refine .cond (p := ((!(t3 == ((t.2 == 0) && t4))) || (!t5))) (by first | rfl | simp only [wz, wd, ws, seval]) (fun h1 => ?_) (fun h1 => ?_)
  · rw [ite_t h1] at h
    refine .seq ?_
    refine Rw.walk ?_
    simp only [wz, wd, ws, seval, c10r4, semI.eq_10, semI.eq_11, semI.eq_3, semI.eq_5, semI.eq_7, e_api_Clock, e_api_Cron]
    obtain rfl := Option.some.inj h
    refine .ret ?_
    rw [← hR]
    simp only [wz, wd, ws, seval, rv10, e_api_Clock, e_api_Cron]
  · rw [ite_f h1] at h
    refine .skip ?_
    refine .seq ?_
    refine .seq ?_
    refine Rw.walk ?_
    simp only [wz, wd, ws, seval, c10r5, semI.eq_10, semI.eq_11, semI.eq_3, semI.eq_5, semI.eq_7, e_api_Clock, e_api_Cron]
    repeat (refine And.intro ?_ ?_; · first | omega | (simp only [List.length_append, List.length_cons, List.length_nil] at *; omega) | (simp only [List.map_cons, List.map_nil] at *; omega) | (intro q; simp only [wz, wd, ws, seval, q]; done))
    refine .cond (p := (((t.2 != 0) || (decide (most < 0))) || (decide (most > 100000)))) (by first | rfl | simp only [wz, wd, ws, seval]) (fun h1 => ?_) (fun h1 => ?_)
    · rw [ite_t h1] at h
      refine .seq ?_
      refine Rw.walk ?_
      simp only [wz, wd, ws, seval, c10r6, semI.eq_10, semI.eq_11, semI.eq_3, semI.eq_5, semI.eq_7, e_api_Clock, e_api_Cron]
      repeat (refine And.intro ?_ ?_; · first | omega | (simp only [List.length_append, List.length_cons, List.length_nil] at *; omega) | (simp only [List.map_cons, List.map_nil] at *; omega) | (intro q; simp only [wz, wd, ws, seval, q]; done))
      obtain rfl := Option.some.inj h
      refine .ret ?_
      rw [← hR]
      simp only [wz, wd, ws, seval, rv10, e_api_Clock, e_api_Cron]
    · rw [ite_f h1] at h
      refine .skip ?_
      refine .seq ?_
      refine .seq ?_
      refine Rw.walk ?_
      simp only [wz, wd, ws, seval, c10r7, semI.eq_10, semI.eq_11, semI.eq_3, semI.eq_5, semI.eq_7, e_api_Clock, e_api_Cron]
      refine .cond (p := (decide (most > 400))) (by first | rfl | simp only [wz, wd, ws, seval]) (fun h1 => ?_) (fun h1 => ?_)
      · rw [ite_t h1] at h
        refine .seq ?_
        refine Rw.walk ?_
        simp only [wz, wd, ws, seval, c10r8, semI.eq_10, semI.eq_11, semI.eq_3, semI.eq_5, semI.eq_7, e_api_Clock, e_api_Cron]
        repeat (refine And.intro ?_ ?_; · first | omega | (simp only [List.length_append, List.length_cons, List.length_nil] at *; omega) | (simp only [List.map_cons, List.map_nil] at *; omega) | (intro q; simp only [wz, wd, ws, seval, q]; done))
        obtain rfl := Option.some.inj h
        refine .ret ?_
        rw [← hR]
        simp only [wz, wd, ws, seval, rv10, e_api_Clock, e_api_Cron]
      · rw [ite_f h1] at h
        refine .skip ?_
        refine .seq ?_
        refine .seq ?_
        refine Rw.walk ?_
        simp only [wz, wd, ws, seval, c10r9, semI.eq_10, semI.eq_11, semI.eq_3, semI.eq_5, semI.eq_7, e_api_Clock, e_api_Cron]
        refine .blk ?_
        obtain ⟨s, hf, h⟩ := Option.bind_eq_some_iff.1 h
        refine .loop (.weak (Imp.co [] _ _ ?c1 ?c2 ?c3 ?c4 ?c5) (f_law08_CronFires_l17_ok c tick most t2 _ _ hR _ _ _ hf _ ?_ ?_))
        case c1 | c2 | c3 | c4 | c5 => simp only [wz, wd, ws, seval, wi, er_nil, e_api_Clock, e_api_Cron]
        · intro s2 hs; subst hs; dsimp only at h
          refine .seq ?_
          refine Rw.walk ?_
          simp only [wz, wd, ws, seval, c10r17, semI.eq_10, semI.eq_11, semI.eq_3, semI.eq_5, semI.eq_7, e_api_Clock, e_api_Cron]
          repeat (refine And.intro ?_ ?_; · first | omega | (simp only [List.length_append, List.length_cons, List.length_nil] at *; omega) | (simp only [List.map_cons, List.map_nil] at *; omega) | (intro q; simp only [wz, wd, ws, seval, q]; done))
          obtain rfl := Option.some.inj h
          refine .ret ?_
          rw [← hR]
          simp only [wz, wd, ws, seval, rv10, e_api_Clock, e_api_Cron]
        · intro z hz; subst hz; dsimp only at h
          exact Option.some.inj h
-- 11 consignor/consignorlaw08.CronEvery
def c11r0 : List Opn := [
  ⟨(some 4), none, .mv (.c (.s (.d (.bool false))))⟩]
def c11r1 : List Opn := [
  ⟨(some 13), none, .mv (.t 1)⟩, 
  ⟨(some 14), none, .bin .rem (.t 13) (.c (.s (.d (.int .i64 60))))⟩, 
  ⟨(some 15), none, .bin .add (.t 14) (.c (.s (.d (.int .i64 60))))⟩, 
  ⟨(some 16), none, .bin .rem (.t 15) (.c (.s (.d (.int .i64 60))))⟩, 
  ⟨(some 1), none, .mv (.t 16)⟩]
def c11r2 : List Opn := [
  ⟨(some 17), none, .mv (.t 0)⟩, 
  ⟨(some 18), none, .bin .rem (.t 17) (.c (.s (.d (.int .i64 1000000000))))⟩, 
  ⟨(some 19), none, .bin .add (.t 18) (.c (.s (.d (.int .i64 1000000000))))⟩, 
  ⟨(some 20), none, .bin .rem (.t 19) (.c (.s (.d (.int .i64 1000000000))))⟩, 
  ⟨(some 0), none, .mv (.t 20)⟩]
def c11r3 : List Opn := [
  ⟨(some 22), none, .mv (.t 1)⟩, 
  ⟨(some 23), none, .bin .quo (.t 22) (.c (.s (.d (.int .i64 10))))⟩, 
  ⟨(some 24), none, .bin .add (.c (.s (.d (.int .i64 48)))) (.t 23)⟩, 
  ⟨(some 25), none, .cv (.toInt .u8) (.t 24)⟩, 
  ⟨(some 26), none, .mv (.t 1)⟩, 
  ⟨(some 27), none, .bin .rem (.t 26) (.c (.s (.d (.int .i64 10))))⟩, 
  ⟨(some 28), none, .bin .add (.c (.s (.d (.int .i64 48)))) (.t 27)⟩, 
  ⟨(some 29), none, .cv (.toInt .u8) (.t 28)⟩, 
  ⟨(some 30), none, .bsl 1 [(.t 25), (.t 29)]⟩, 
  ⟨(some 31), none, .cv .b2s (.t 30)⟩, 
  ⟨(some 32), none, .mv (.t 1)⟩, 
  ⟨(some 33), none, .bin .sub (.c (.s (.d (.int .i64 10)))) (.t 32)⟩, 
  ⟨(some 34), none, .mm true (.t 33) (.c (.s (.d (.int .i64 0))))⟩, 
  ⟨(some 35), none, .mm false (.t 34) (.c (.s (.d (.int .i64 1))))⟩, 
  ⟨(some 36), none, .slc .str (.t 31) (some (.t 35)) none none⟩, 
  ⟨(some 37), none, .bin .add (.t 36) (.c (.s (.d (.str [32, 42, 32, 42, 32, 42, 32, 42]))))⟩, 
  ⟨(some 38), none, .call (.fn 23) [(.t 37)]⟩, 
  ⟨(some 21), none, .mv (.t 38)⟩, 
  ⟨(some 39), none, .ext (.t 21) 0⟩, 
  ⟨(some 40), none, .ext (.t 21) 1⟩, 
  ⟨(some 5), none, .new [(.d (.int .u64 0)), (.d (.int .u64 0)), (.d (.int .u64 0)), (.d (.int .u64 0)), (.d (.int .u64 0)), (.d (.bool false)), (.d (.bool false))]⟩, 
  ⟨none, none, .store 7 (.t 5) (.t 39)⟩, 
  ⟨(some 6), none, .mv (.t 40)⟩]
def c11r4 : List Opn := [
  ⟨(some 42), none, .call (.fn 23) [(.c (.s (.d (.str [42, 32, 42, 32, 42, 32, 42, 32, 42]))))]⟩, 
  ⟨(some 41), none, .mv (.t 42)⟩, 
  ⟨(some 43), none, .ext (.t 41) 0⟩, 
  ⟨(some 44), none, .ext (.t 41) 1⟩, 
  ⟨(some 7), none, .new [(.d (.int .u64 0)), (.d (.int .u64 0)), (.d (.int .u64 0)), (.d (.int .u64 0)), (.d (.int .u64 0)), (.d (.bool false)), (.d (.bool false))]⟩, 
  ⟨none, none, .store 7 (.t 7) (.t 43)⟩, 
  ⟨(some 8), none, .mv (.t 44)⟩]
def c11r5 : List Opn := [
  ⟨(some 45), none, .mv (.t 6)⟩, 
  ⟨(some 46), none, .bin .neq (.t 45) (.c (.s (.d (.int .i64 0))))⟩, 
  ⟨(some 47), none, .mv (.t 46)⟩, 
  ⟨(some 48), some (47, false), .mv (.t 8)⟩, 
  ⟨(some 49), some (47, false), .bin .neq (.t 48) (.c (.s (.d (.int .i64 0))))⟩, 
  ⟨(some 50), none, .pick (.t 47) (.c (.s (.d (.bool true)))) (.t 49)⟩, 
  ⟨(some 51), none, .mv (.t 50)⟩, 
  ⟨(some 52), some (51, false), .call (.fn 25) []⟩, 
  ⟨(some 53), some (51, false), .un .not (.t 52)⟩, 
  ⟨(some 54), none, .pick (.t 51) (.c (.s (.d (.bool true)))) (.t 53)⟩]
def c11r6 : List Opn := [
  ⟨(some 4), none, .mv (.c (.s (.d (.bool false))))⟩]
def c11r7 : List Opn := [
  ⟨(some 9), none, .mv (.c (.s (.d (.int .i64 0))))⟩]
def c11r8 : List Opn := [
  ⟨(some 55), none, .mv (.c (.s (.d (.int .i64 0))))⟩]
def c11r9 : List Opn := [
  ⟨(some 56), none, .bin .lss (.t 55) (.c (.s (.d (.int .i64 60))))⟩]
def c11r10 : List Opn := [
  ⟨(some 57), none, .mv (.t 55)⟩, 
  ⟨(some 10), none, .mv (.t 57)⟩]
def c11r11 : List Opn := [
  ⟨(some 58), none, .load true 7 (.t 5)⟩, 
  ⟨(some 59), none, .mv (.t 0)⟩, 
  ⟨(some 60), none, .mv (.t 10)⟩, 
  ⟨(some 61), none, .bin .add (.t 59) (.t 60)⟩, 
  ⟨(some 62), none, .call (.fn 29) [(.t 58), (.t 61)]⟩]
def c11r12 : List Opn := [
  ⟨(some 63), none, .mv (.t 9)⟩, 
  ⟨(some 64), none, .bin .add (.t 63) (.c (.s (.d (.int .i64 1))))⟩, 
  ⟨(some 9), none, .mv (.t 64)⟩]
def c11r13 : List Opn := [
  ⟨(some 65), none, .load true 7 (.t 7)⟩, 
  ⟨(some 66), none, .mv (.t 0)⟩, 
  ⟨(some 67), none, .mv (.t 10)⟩, 
  ⟨(some 68), none, .bin .add (.t 66) (.t 67)⟩, 
  ⟨(some 69), none, .call (.fn 29) [(.t 65), (.t 68)]⟩, 
  ⟨(some 70), none, .un .not (.t 69)⟩]
def c11r14 : List Opn := [
  ⟨(some 4), none, .mv (.c (.s (.d (.bool false))))⟩]
def c11r15 : List Opn := [
  ⟨(some 71), none, .bin .add (.t 55) (.c (.s (.d (.int .i64 1))))⟩, 
  ⟨(some 55), none, .mv (.t 71)⟩]
def c11l16 : C := .seq (.reg c11r9 none [0, 5, 7, 9, 55, 56]) (.seq (.cond (.t 56) (.skip) (.exit 0)) (.seq (.blk 1 (.seq (.reg c11r10 none [0, 5, 7, 9, 10, 55]) (.seq (.seq (.reg c11r11 none [0, 5, 7, 9, 10, 55, 62]) (.cond (.t 62) (.reg c11r12 none [0, 5, 7, 9, 10, 55]) (.skip))) (.seq (.reg c11r13 none [0, 5, 7, 9, 55, 70]) (.cond (.t 70) (.seq (.reg c11r14 none [4]) (.ret)) (.skip)))))) (.reg c11r15 none [0, 5, 7, 9, 55])))
def c11r16 : List Opn := [
  ⟨(some 73), none, .load true 7 (.t 7)⟩, 
  ⟨(some 74), none, .mv (.t 0)⟩, 
  ⟨(some 75), none, .call (.fn 30) [(.t 73), (.t 74), (.c (.s (.d (.int .i64 1))))]⟩, 
  ⟨(some 72), none, .mv (.t 75)⟩, 
  ⟨(some 76), none, .ext (.t 72) 0⟩, 
  ⟨(some 77), none, .ext (.t 72) 1⟩, 
  ⟨(some 11), none, .mv (.t 76)⟩, 
  ⟨(some 12), none, .mv (.t 77)⟩]
def c11r17 : List Opn := [
  ⟨(some 78), none, .mv (.t 9)⟩, 
  ⟨(some 79), none, .bin .eql (.t 78) (.c (.s (.d (.int .i64 1))))⟩, 
  ⟨(some 80), none, .mv (.t 79)⟩, 
  ⟨(some 81), some (80, true), .mv (.t 12)⟩, 
  ⟨(some 82), some (80, true), .bin .eql (.t 81) (.c (.s (.d (.int .i64 0))))⟩, 
  ⟨(some 83), none, .pick (.t 80) (.t 82) (.c (.s (.d (.bool false))))⟩, 
  ⟨(some 84), none, .mv (.t 83)⟩, 
  ⟨(some 85), some (84, true), .mv (.t 11)⟩, 
  ⟨(some 86), some (84, true), .mv (.t 0)⟩, 
  ⟨(some 87), some (84, true), .bin .add (.t 86) (.c (.s (.d (.int .i64 1))))⟩, 
  ⟨(some 88), some (84, true), .bin .eql (.t 85) (.t 87)⟩, 
  ⟨(some 89), none, .pick (.t 84) (.t 88) (.c (.s (.d (.bool false))))⟩, 
  ⟨(some 4), none, .mv (.t 89)⟩]
def c11 : C := .seq (.reg c11r0 none [0, 1]) (.seq (.reg c11r1 none [0, 1]) (.seq (.reg c11r2 none [0, 1]) (.seq (.reg c11r3 none [0, 5, 6]) (.seq (.reg c11r4 none [0, 5, 6, 7, 8]) (.seq (.seq (.reg c11r5 none [0, 5, 7, 54]) (.cond (.t 54) (.seq (.reg c11r6 none [4]) (.ret)) (.skip))) (.seq (.reg c11r7 none [0, 5, 7, 9]) (.seq (.seq (.reg c11r8 none [0, 5, 7, 9, 55]) (.blk 0 (.loop c11l16))) (.seq (.reg c11r16 none [0, 9, 11, 12]) (.seq (.reg c11r17 none [4]) (.ret))))))))))
def k11 : List (Nat × List Nat) := [(17, [4]), (16, [0, 9, 11, 12]), (15, [0, 5, 7, 9, 55]), (14, [4]), (13, [0, 5, 7, 9, 55, 70]), (12, [0, 5, 7, 9, 10, 55]), (11, [0, 5, 7, 9, 10, 55, 62]), (10, [0, 5, 7, 9, 10, 55]), (9, [0, 5, 7, 9, 55, 56]), (8, [0, 5, 7, 9, 55]), (7, [0, 5, 7, 9]), (6, [4]), (5, [0, 5, 7, 54]), (4, [0, 5, 6, 7, 8]), (3, [0, 5, 6]), (2, [0, 1]), (1, [0, 1]), (0, [0, 1])]
theorem cc11 : (Tryd.f11.body).bind (cC Tryd.prog 90 k11) = some c11 := by kernel_rfl
def rv11 : List RV := [.t 4]
theorem cr11 : cRVs Tryd.prog Tryd.f11.results.toList = some rv11 := by kernel_rfl
theorem f_law08_CronEvery_l16_ok (tick : Int) (t : api_Cron × Int) (t2 : api_Cron × Int) (y_ : Bool) (R_ : St → Prop) (hR : (Ret Tryd.prog glP [] rv11 (.b (.s (.d (.bool y_))))) = R_) : ∀ (m_ : Nat) (fired : Int) (v55 : Int) (res_ : (Int × Int) ⊕ (Bool)) (h : f_law08_CronEvery_l16 tick t t2 m_ fired v55 = some res_) (k_ : List It) (hx : ∀ s_ : Int × Int, res_ = .inl s_ → W Tryd.prog glP 90 k_ ⟨lkT [(0, .b (.s (.d (.int .i64 ((IntKind.i64.wrap ((tick.tmod 1000000000) + 1000000000)).tmod 1000000000))))), (5, .b (.s (.ptr 5 1 0 0))), (7, .b (.s (.ptr 7 1 0 0))), (9, .b (.s (.d (.int .i64 s_.1)))), (55, .b (.s (.d (.int .i64 s_.2))))], lkG [(5, ⟨7, [[(.d (.int .u64 t.1.Minutes)), (.d (.int .u64 t.1.Hours)), (.d (.int .u64 t.1.Days)), (.d (.int .u64 t.1.Months)), (.d (.int .u64 t.1.Week)), (.d (.bool t.1.AnyDay)), (.d (.bool t.1.AnyWeek))]], false⟩), (7, ⟨7, [[(.d (.int .u64 t2.1.Minutes)), (.d (.int .u64 t2.1.Hours)), (.d (.int .u64 t2.1.Days)), (.d (.int .u64 t2.1.Months)), (.d (.int .u64 t2.1.Week)), (.d (.bool t2.1.AnyDay)), (.d (.bool t2.1.AnyWeek))]], false⟩)]⟩ R_) (hr : ∀ z_ : Bool, res_ = .inr z_ → z_ = y_), W Tryd.prog glP 90 (.c c11l16 :: .lp c11l16 :: .blk 0 :: k_) ⟨lkT [(0, .b (.s (.d (.int .i64 ((IntKind.i64.wrap ((tick.tmod 1000000000) + 1000000000)).tmod 1000000000))))), (5, .b (.s (.ptr 5 1 0 0))), (7, .b (.s (.ptr 7 1 0 0))), (9, .b (.s (.d (.int .i64 fired)))), (55, .b (.s (.d (.int .i64 v55))))], lkG [(5, ⟨7, [[(.d (.int .u64 t.1.Minutes)), (.d (.int .u64 t.1.Hours)), (.d (.int .u64 t.1.Days)), (.d (.int .u64 t.1.Months)), (.d (.int .u64 t.1.Week)), (.d (.bool t.1.AnyDay)), (.d (.bool t.1.AnyWeek))]], false⟩), (7, ⟨7, [[(.d (.int .u64 t2.1.Minutes)), (.d (.int .u64 t2.1.Hours)), (.d (.int .u64 t2.1.Days)), (.d (.int .u64 t2.1.Months)), (.d (.int .u64 t2.1.Week)), (.d (.bool t2.1.AnyDay)), (.d (.bool t2.1.AnyWeek))]], false⟩)]⟩ R_ := by
  intro m_; induction m_ with
  | zero => intro fired v55 res_ h; rw [f_law08_CronEvery_l16.eq_1] at h; cases h
  | succ m_ ih =>
    intro fired v55 res_ h k_ hx hr; rw [f_law08_CronEvery_l16.eq_2] at h; refine W.cdef c11l16.eq_1 ?_
    refine .seq ?_
    refine Rw.walk ?_
    simp only [wz, wd, ws, seval, c11r9, semI.eq_10, semI.eq_11, semI.eq_3, semI.eq_5, semI.eq_7, e_api_Cron]
    refine .seq ?_
    refine .cond (p := (decide (v55 < 60))) (by first | rfl | simp only [wz, wd, ws, seval]) (fun h1 => ?_) (fun h1 => ?_)
    · rw [ite_t h1] at h
      refine .skip ?_
      refine .seq ?_
      refine .blk ?_
      refine .seq ?_
      refine Rw.walk ?_
      simp only [wz, wd, ws, seval, c11r10, semI.eq_10, semI.eq_11, semI.eq_3, semI.eq_5, semI.eq_7, e_api_Cron]
      refine .seq ?_
      obtain ⟨s, hf, h⟩ := Option.bind_eq_some_iff.1 h
      refine W.cut1 ⟨lkT [(0, .b (.s (.d (.int .i64 ((IntKind.i64.wrap ((tick.tmod 1000000000) + 1000000000)).tmod 1000000000))))), (5, .b (.s (.ptr 5 1 0 0))), (7, .b (.s (.ptr 7 1 0 0))), (9, .b (.s (.d (.int .i64 s)))), (10, .b (.s (.d (.int .i64 v55)))), (55, .b (.s (.d (.int .i64 v55))))], lkG [(5, ⟨7, [[(.d (.int .u64 t.1.Minutes)), (.d (.int .u64 t.1.Hours)), (.d (.int .u64 t.1.Days)), (.d (.int .u64 t.1.Months)), (.d (.int .u64 t.1.Week)), (.d (.bool t.1.AnyDay)), (.d (.bool t.1.AnyWeek))]], false⟩), (7, ⟨7, [[(.d (.int .u64 t2.1.Minutes)), (.d (.int .u64 t2.1.Hours)), (.d (.int .u64 t2.1.Days)), (.d (.int .u64 t2.1.Months)), (.d (.int .u64 t2.1.Week)), (.d (.bool t2.1.AnyDay)), (.d (.bool t2.1.AnyWeek))]], false⟩)]⟩ ?_ (fun tail => ?_)
      · skip
        refine .seq ?_
        refine Rw.walk ?_
        simp only [wz, wd, ws, seval, c11r13, semI.eq_10, semI.eq_11, semI.eq_3, semI.eq_5, semI.eq_7, e_api_Cron]
        obtain ⟨t4, e6, h⟩ := Option.bind_eq_some_iff.1 h
        refine call_fun [] false ⟨trivial, trivial, trivial, trivial⟩ rfl ?_ (f_cron_Fires_ok _ _ _ e6) (fun _ => rfl) (fun i hi => by cases hi) ?_
        · simp only [wz, wd, ws, seval, e_api_Cron]
        simp only [wz, wd, ws, seval, c11r13, semI.eq_10, semI.eq_11, semI.eq_3, semI.eq_5, semI.eq_7, e_api_Cron]
        refine .cond (p := (!t4)) (by first | rfl | simp only [wz, wd, ws, seval]) (fun h1 => ?_) (fun h1 => ?_)
        · rw [ite_t h1] at h
          refine .seq ?_
          refine Rw.walk ?_
          simp only [wz, wd, ws, seval, c11r14, semI.eq_10, semI.eq_11, semI.eq_3, semI.eq_5, semI.eq_7, e_api_Cron]
          obtain rfl := Option.some.inj h; obtain rfl := hr _ rfl
          refine .ret ?_
          rw [← hR]
          simp only [wz, wd, ws, seval, rv11, e_api_Cron]
        · rw [ite_f h1] at h
          refine .skip ?_
          refine .eblk ?_
          refine Rw.walk ?_
          simp only [wz, wd, ws, seval, c11r15, semI.eq_10, semI.eq_11, semI.eq_3, semI.eq_5, semI.eq_7, e_api_Cron]
          refine .lp ?_
          refine .weak (Imp.co [] _ _ ?_ ?_ ?_ ?_ ?_) (ih s (IntKind.i64.wrap (v55 + 1)) _ h k_ hx hr) <;> simp only [wz, wd, ws, seval, wi, er_nil, e_api_Cron]
      replace h := hf
      refine .seq ?_
      refine Rw.walk ?_
      simp only [wz, wd, ws, seval, c11r11, semI.eq_10, semI.eq_11, semI.eq_3, semI.eq_5, semI.eq_7, e_api_Cron]
      obtain ⟨t4, e7, h⟩ := Option.bind_eq_some_iff.1 h
      refine call_fun [] false ⟨trivial, trivial, trivial, trivial⟩ rfl ?_ (f_cron_Fires_ok _ _ _ e7) (fun _ => rfl) (fun i hi => by cases hi) ?_
      · simp only [wz, wd, ws, seval, e_api_Cron]
      simp only [wz, wd, ws, seval, c11r11, semI.eq_10, semI.eq_11, semI.eq_3, semI.eq_5, semI.eq_7, e_api_Cron]
      refine .cond (p := t4) (by first | rfl | simp only [wz, wd, ws, seval]) (fun h1 => ?_) (fun h1 => ?_)
      · rw [ite_t h1] at h
        refine Rw.walk ?_
        simp only [wz, wd, ws, seval, c11r12, semI.eq_10, semI.eq_11, semI.eq_3, semI.eq_5, semI.eq_7, e_api_Cron]
        obtain rfl := Option.some.inj h
        refine .weak (Imp.co [] _ _ ?_ ?_ ?_ ?_ ?_) (tail) <;> simp only [wz, wd, ws, seval, wi, er_nil, e_api_Cron]
      · rw [ite_f h1] at h
        refine .skip ?_
        obtain rfl := Option.some.inj h
        refine .weak (Imp.co [] _ _ ?_ ?_ ?_ ?_ ?_) (tail) <;> simp only [wz, wd, ws, seval, wi, er_nil, e_api_Cron]
    · rw [ite_f h1] at h
      refine .exit rfl ?_
      obtain rfl := Option.some.inj h
      refine .weak (Imp.co [] _ _ ?_ ?_ ?_ ?_ ?_) (hx _ rfl) <;> simp only [wz, wd, ws, seval, wi, er_nil, e_api_Cron]
theorem f_law08_CronEvery_ok (tick : Int) (minute : Int) (y_ : Bool) (h : f_law08_CronEvery tick minute = some y_) : Fun Tryd.prog glP 11 [.b (.s (.d (.int .i64 tick))), .b (.s (.d (.int .i64 minute)))] (.b (.s (.d (.bool y_)))) := by
  refine fun_walk [] Tryd.func11 Tryd.ntmps11 cc11 cr11 (by kernel_rfl) (by simp only [List.length_cons, List.length_nil]; decide) ?_
  generalize hR : Ret _ _ _ _ _ = R_
  simp only [wz, wd, ws, seval, e_api_Cron]
  unfold f_law08_CronEvery at h; unfold c11
  refine .seq ?_
  refine Rw.walk ?_
  simp only [wz, wd, ws, seval, c11r0, semI.eq_10, semI.eq_11, semI.eq_3, semI.eq_5, semI.eq_7, e_api_Cron]
  refine .seq ?_
  refine Rw.walk ?_
  simp only [wz, wd, ws, seval, c11r1, semI.eq_10, semI.eq_11, semI.eq_3, semI.eq_5, semI.eq_7, e_api_Cron]
  repeat (refine And.intro ?_ ?_; · first | omega | (simp only [List.length_append, List.length_cons, List.length_nil] at *; omega) | (simp only [List.map_cons, List.map_nil] at *; omega) | (intro q; simp only [wz, wd, ws, seval, q]; done))
  refine .seq ?_
  refine Rw.walk ?_
  simp only [wz, wd, ws, seval, c11r2, semI.eq_10, semI.eq_11, semI.eq_3, semI.eq_5, semI.eq_7, e_api_Cron]
  repeat (refine And.intro ?_ ?_; · first | omega | (simp only [List.length_append, List.length_cons, List.length_nil] at *; omega) | (simp only [List.map_cons, List.map_nil] at *; omega) | (intro q; simp only [wz, wd, ws, seval, q]; done))
  refine .seq ?_
  refine Rw.walk ?_
  simp only [wz, wd, ws, seval, c11r3, semI.eq_10, semI.eq_11, semI.eq_3, semI.eq_5, semI.eq_7, e_api_Cron]
  repeat (refine And.intro ?_ ?_; · first | omega | (simp only [List.length_append, List.length_cons, List.length_nil] at *; omega) | (simp only [List.map_cons, List.map_nil] at *; omega) | (intro q; simp only [wz, wd, ws, seval, q]; done))
  refine Go1.of (sem_bsl (enc := (eI .u8)) (m := ([(IntKind.u8.wrap (IntKind.i64.wrap (48 + (IntKind.i64.wrap (((IntKind.i64.wrap ((minute.tmod 60) + 60)).tmod 60).tdiv 10))))), (IntKind.u8.wrap (IntKind.i64.wrap (48 + (((IntKind.i64.wrap ((minute.tmod 60) + 60)).tmod 60).tmod 10))))] : List Int)) (eI_len _) (by rfl) (by rfl) (by rfl) ⟨trivial, trivial, trivial⟩) ?_
  simp only [wz, wd, ws, seval, c11r3, semI.eq_10, semI.eq_11, semI.eq_3, semI.eq_5, semI.eq_7, e_api_Cron]
  refine Go1.of (sem_b2s (n := ([(IntKind.u8.wrap (IntKind.i64.wrap (48 + (IntKind.i64.wrap (((IntKind.i64.wrap ((minute.tmod 60) + 60)).tmod 60).tdiv 10))))), (IntKind.u8.wrap (IntKind.i64.wrap (48 + (((IntKind.i64.wrap ((minute.tmod 60) + 60)).tmod 60).tmod 10))))] : List Int)) (rowsV_own (m := ([(IntKind.u8.wrap (IntKind.i64.wrap (48 + (IntKind.i64.wrap (((IntKind.i64.wrap ((minute.tmod 60) + 60)).tmod 60).tdiv 10))))), (IntKind.u8.wrap (IntKind.i64.wrap (48 + (((IntKind.i64.wrap ((minute.tmod 60) + 60)).tmod 60).tmod 10))))] : List Int)) (by rfl) (by rfl))) ?_
  simp only [wz, wd, ws, seval, c11r3, semI.eq_10, semI.eq_11, semI.eq_3, semI.eq_5, semI.eq_7, e_api_Cron]
  obtain ⟨g1, h⟩ := gd_iff.1 h
  obtain ⟨g2, h⟩ := gd_iff.1 h
  repeat (refine And.intro ?_ ?_; · first | omega | (simp only [List.length_append, List.length_cons, List.length_nil] at *; omega) | (simp only [List.map_cons, List.map_nil] at *; omega) | (intro q; simp only [wz, wd, ws, seval, q]; done))
  obtain ⟨t, e3, h⟩ := Option.bind_eq_some_iff.1 h
  refine call_fun [] false ⟨trivial, trivial, trivial⟩ rfl ?_ (f_cron_Parse_ok _ _ e3) (fun _ => rfl) (fun i hi => by cases hi) ?_
  · simp only [wz, wd, ws, seval, e_api_Cron]
  simp only [wz, wd, ws, seval, c11r3, semI.eq_10, semI.eq_11, semI.eq_3, semI.eq_5, semI.eq_7, e_api_Cron]
  refine .seq ?_
  refine Rw.walk ?_
  simp only [wz, wd, ws, seval, c11r4, semI.eq_10, semI.eq_11, semI.eq_3, semI.eq_5, semI.eq_7, e_api_Cron]
  obtain ⟨t2, e4, h⟩ := Option.bind_eq_some_iff.1 h
  refine call_fun [] false ⟨trivial, trivial, trivial⟩ rfl ?_ (f_cron_Parse_ok _ _ e4) (fun _ => rfl) (fun i hi => by cases hi) ?_
  · simp only [wz, wd, ws, seval, e_api_Cron]
  simp only [wz, wd, ws, seval, c11r4, semI.eq_10, semI.eq_11, semI.eq_3, semI.eq_5, semI.eq_7, e_api_Cron]
  refine .seq ?_
  refine .seq ?_
  refine Rw.walk ?_
  simp only [wz, wd, ws, seval, c11r5, semI.eq_10, semI.eq_11, semI.eq_3, semI.eq_5, semI.eq_7, e_api_Cron]
  repeat (refine And.intro ?_ ?_; · first | omega | (simp only [List.length_append, List.length_cons, List.length_nil] at *; omega) | (simp only [List.map_cons, List.map_nil] at *; omega) | (intro q; simp only [wz, wd, ws, seval, q]; done))
  obtain ⟨t3, e5, h⟩ := Option.bind_eq_some_iff.1 h
  refine call_funG [] rfl (by simp only [wz, wd, ws, seval]) rfl ?_ (fun q => (f_law08_alive_ok _ (gx_iff e5 (by first | exact q | simpa using q)))) rfl (fun i hi => by cases hi) ?_
  · simp only [wz, wd, ws, seval, e_api_Cron]
  simp only [wz, wd, ws, seval, c11r5, semI.eq_10, semI.eq_11, semI.eq_3, semI.eq_5, semI.eq_7, e_api_Cron]
  repeat (refine And.intro ?_ ?_; · first | omega | (simp only [List.length_append, List.length_cons, List.length_nil] at *; omega) | (simp only [List.map_cons, List.map_nil] at *; omega) | (intro q; simp only [wz, wd, ws, seval, q]; done))
  refine .cond (p := (((t.2 != 0) || (t2.2 != 0)) || (!t3))) (by first | rfl | simp only [wz, wd, ws, seval]) (fun h1 => ?_) (fun h1 => ?_)
  · rw [ite_t h1] at h
    refine .seq ?_
    refine Rw.walk ?_
    simp only [wz, wd, ws, seval, c11r6, semI.eq_10, semI.eq_11, semI.eq_3, semI.eq_5, semI.eq_7, e_api_Cron]
    obtain rfl := Option.some.inj h
    refine .ret ?_
    rw [← hR]
    simp only [wz, wd, ws, seval, rv11, e_api_Cron]
  · rw [ite_f h1] at h
    refine .skip ?_
    refine .seq ?_
    refine Rw.walk ?_
    simp only [wz, wd, ws, seval, c11r7, semI.eq_10, semI.eq_11, semI.eq_3, semI.eq_5, semI.eq_7, e_api_Cron]
    refine .seq ?_
    refine .seq ?_
    refine Rw.walk ?_
    simp only [wz, wd, ws, seval, c11r8, semI.eq_10, semI.eq_11, semI.eq_3, semI.eq_5, semI.eq_7, e_api_Cron]
    refine .blk ?_
    obtain ⟨s, hf, h⟩ := Option.bind_eq_some_iff.1 h
    refine .loop (.weak (Imp.co [] _ _ ?c1 ?c2 ?c3 ?c4 ?c5) (f_law08_CronEvery_l16_ok tick t t2 _ _ hR _ _ _ _ hf _ ?_ ?_))
    case c1 | c2 | c3 | c4 | c5 => simp only [wz, wd, ws, seval, wi, er_nil, e_api_Cron]
    · intro s2 hs; subst hs; dsimp only at h
      refine .seq ?_
      refine Rw.walk ?_
      simp only [wz, wd, ws, seval, c11r16, semI.eq_10, semI.eq_11, semI.eq_3, semI.eq_5, semI.eq_7, e_api_Cron]
      obtain ⟨t4, e8, h⟩ := Option.bind_eq_some_iff.1 h
      refine call_fun [] false ⟨trivial, trivial, trivial, trivial, trivial⟩ rfl ?_ (f_cron_Next_ok _ _ _ _ e8) (fun _ => rfl) (fun i hi => by cases hi) ?_
      · simp only [wz, wd, ws, seval, e_api_Cron]
      simp only [wz, wd, ws, seval, c11r16, semI.eq_10, semI.eq_11, semI.eq_3, semI.eq_5, semI.eq_7, e_api_Cron]
      refine .seq ?_
      refine Rw.walk ?_
      simp only [wz, wd, ws, seval, c11r17, semI.eq_10, semI.eq_11, semI.eq_3, semI.eq_5, semI.eq_7, e_api_Cron]
      repeat (refine And.intro ?_ ?_; · first | omega | (simp only [List.length_append, List.length_cons, List.length_nil] at *; omega) | (simp only [List.map_cons, List.map_nil] at *; omega) | (intro q; simp only [wz, wd, ws, seval, q]; done))
      obtain rfl := Option.some.inj h
      refine .ret ?_
      rw [← hR]
      simp only [wz, wd, ws, seval, rv11, e_api_Cron]
    · intro z hz; subst hz; dsimp only at h
      exact Option.some.inj h
-- 12 consignor/consignorlaw08.CronNext
def c12r0 : List Opn := [
  ⟨(some 3), none, .box 7 (.t 0)⟩, 
  ⟨(some 6), none, .mv (.c (.s (.d (.bool false))))⟩]
def c12r1 : List Opn := [
  ⟨(some 12), none, .mv (.t 2)⟩, 
  ⟨(some 13), none, .bin .rem (.t 12) (.c (.s (.d (.int .i64 300))))⟩, 
  ⟨(some 14), none, .bin .add (.t 13) (.c (.s (.d (.int .i64 300))))⟩, 
  ⟨(some 15), none, .bin .rem (.t 14) (.c (.s (.d (.int .i64 300))))⟩, 
  ⟨(some 2), none, .mv (.t 15)⟩]
def c12r2 : List Opn := [
  ⟨(some 17), none, .load true 7 (.t 3)⟩, 
  ⟨(some 18), none, .mv (.t 1)⟩, 
  ⟨(some 19), none, .mv (.t 2)⟩, 
  ⟨(some 20), none, .call (.fn 30) [(.t 17), (.t 18), (.t 19)]⟩, 
  ⟨(some 16), none, .mv (.t 20)⟩, 
  ⟨(some 21), none, .ext (.t 16) 0⟩, 
  ⟨(some 22), none, .ext (.t 16) 1⟩, 
  ⟨(some 7), none, .mv (.t 21)⟩, 
  ⟨(some 8), none, .mv (.t 22)⟩]
def c12r3 : List Opn := [
  ⟨(some 23), none, .mv (.t 8)⟩, 
  ⟨(some 24), none, .bin .neq (.t 23) (.c (.s (.d (.int .i64 0))))⟩]
def c12r4 : List Opn := [
  ⟨(some 25), none, .call (.fn 25) []⟩, 
  ⟨(some 26), none, .mv (.t 25)⟩, 
  ⟨(some 27), some (26, true), .mv (.t 7)⟩, 
  ⟨(some 28), some (26, true), .bin .eql (.t 27) (.c (.s (.d (.int .i64 0))))⟩, 
  ⟨(some 29), none, .pick (.t 26) (.t 28) (.c (.s (.d (.bool false))))⟩, 
  ⟨(some 30), none, .mv (.t 29)⟩, 
  ⟨(some 31), some (30, true), .mv (.t 8)⟩, 
  ⟨(some 32), some (30, true), .bin .eql (.t 31) (.c (.s (.d (.int .i64 9))))⟩, 
  ⟨(some 33), some (30, true), .mv (.t 32)⟩, 
  ⟨(some 34), some (33, false), .mv (.t 8)⟩, 
  ⟨(some 35), some (33, false), .bin .eql (.t 34) (.c (.s (.d (.int .i64 1))))⟩, 
  ⟨(some 36), some (30, true), .pick (.t 33) (.c (.s (.d (.bool true)))) (.t 35)⟩, 
  ⟨(some 37), none, .pick (.t 30) (.t 36) (.c (.s (.d (.bool false))))⟩, 
  ⟨(some 6), none, .mv (.t 37)⟩]
def c12r5 : List Opn := [
  ⟨(some 38), none, .mv (.t 1)⟩, 
  ⟨(some 39), none, .bin .add (.t 38) (.c (.s (.d (.int .i64 1))))⟩, 
  ⟨(some 9), none, .mv (.t 39)⟩]
def c12r6 : List Opn := [
  ⟨(some 40), none, .mv (.t 9)⟩, 
  ⟨(some 41), none, .mv (.t 7)⟩, 
  ⟨(some 42), none, .bin .lss (.t 40) (.t 41)⟩]
def c12r8 : List Opn := [
  ⟨(some 45), none, .load true 7 (.t 3)⟩, 
  ⟨(some 46), none, .mv (.t 9)⟩, 
  ⟨(some 47), none, .call (.fn 29) [(.t 45), (.t 46)]⟩]
def c12r9 : List Opn := [
  ⟨(some 6), none, .mv (.c (.s (.d (.bool false))))⟩]
def c12r7 : List Opn := [
  ⟨(some 43), none, .mv (.t 9)⟩, 
  ⟨(some 44), none, .bin .add (.t 43) (.c (.s (.d (.int .i64 1))))⟩, 
  ⟨(some 9), none, .mv (.t 44)⟩]
def c12l10 : C := .seq (.seq (.reg c12r6 none [1, 2, 3, 7, 9, 42]) (.cond (.t 42) (.skip) (.exit 0))) (.seq (.blk 1 (.seq (.reg c12r8 none [1, 2, 3, 7, 9, 47]) (.cond (.t 47) (.seq (.reg c12r9 none [6]) (.ret)) (.skip)))) (.reg c12r7 none [1, 2, 3, 7, 9]))
def c12r10 : List Opn := [
  ⟨(some 49), none, .load true 7 (.t 3)⟩, 
  ⟨(some 50), none, .mv (.t 7)⟩, 
  ⟨(some 51), none, .bin .sub (.t 50) (.c (.s (.d (.int .i64 1))))⟩, 
  ⟨(some 52), none, .call (.fn 30) [(.t 49), (.t 51), (.c (.s (.d (.int .i64 1))))]⟩, 
  ⟨(some 48), none, .mv (.t 52)⟩, 
  ⟨(some 53), none, .ext (.t 48) 0⟩, 
  ⟨(some 54), none, .ext (.t 48) 1⟩, 
  ⟨(some 10), none, .mv (.t 53)⟩, 
  ⟨(some 11), none, .mv (.t 54)⟩]
def c12r11 : List Opn := [
  ⟨(some 55), none, .call (.fn 25) []⟩, 
  ⟨(some 56), none, .mv (.t 55)⟩, 
  ⟨(some 57), some (56, true), .mv (.t 7)⟩, 
  ⟨(some 58), some (56, true), .mv (.t 1)⟩, 
  ⟨(some 59), some (56, true), .bin .gtr (.t 57) (.t 58)⟩, 
  ⟨(some 60), none, .pick (.t 56) (.t 59) (.c (.s (.d (.bool false))))⟩, 
  ⟨(some 61), none, .mv (.t 60)⟩, 
  ⟨(some 62), some (61, true), .mv (.t 7)⟩, 
  ⟨(some 63), some (61, true), .mv (.t 1)⟩, 
  ⟨(some 64), some (61, true), .mv (.t 2)⟩, 
  ⟨(some 65), some (61, true), .bin .add (.t 63) (.t 64)⟩, 
  ⟨(some 66), some (61, true), .bin .leq (.t 62) (.t 65)⟩, 
  ⟨(some 67), none, .pick (.t 61) (.t 66) (.c (.s (.d (.bool false))))⟩, 
  ⟨(some 68), none, .mv (.t 67)⟩, 
  ⟨(some 69), some (68, true), .load true 7 (.t 3)⟩, 
  ⟨(some 70), some (68, true), .mv (.t 7)⟩, 
  ⟨(some 71), some (68, true), .call (.fn 29) [(.t 69), (.t 70)]⟩, 
  ⟨(some 72), none, .pick (.t 68) (.t 71) (.c (.s (.d (.bool false))))⟩, 
  ⟨(some 73), none, .mv (.t 72)⟩, 
  ⟨(some 74), some (73, true), .mv (.t 11)⟩, 
  ⟨(some 75), some (73, true), .bin .eql (.t 74) (.c (.s (.d (.int .i64 0))))⟩, 
  ⟨(some 76), none, .pick (.t 73) (.t 75) (.c (.s (.d (.bool false))))⟩, 
  ⟨(some 77), none, .mv (.t 76)⟩, 
  ⟨(some 78), some (77, true), .mv (.t 10)⟩, 
  ⟨(some 79), some (77, true), .mv (.t 7)⟩, 
  ⟨(some 80), some (77, true), .bin .eql (.t 78) (.t 79)⟩, 
  ⟨(some 81), none, .pick (.t 77) (.t 80) (.c (.s (.d (.bool false))))⟩, 
  ⟨(some 6), none, .mv (.t 81)⟩]
def c12 : C := .seq (.reg c12r0 none [1, 2, 3]) (.seq (.reg c12r1 none [1, 2, 3]) (.seq (.reg c12r2 none [1, 2, 3, 7, 8]) (.seq (.seq (.reg c12r3 none [1, 2, 3, 7, 8, 24]) (.cond (.t 24) (.seq (.reg c12r4 none [6]) (.ret)) (.skip))) (.seq (.seq (.reg c12r5 none [1, 2, 3, 7, 9]) (.blk 0 (.loop c12l10))) (.seq (.reg c12r10 none [1, 2, 3, 7, 10, 11]) (.seq (.reg c12r11 none [6]) (.ret)))))))
def k12 : List (Nat × List Nat) := [(11, [6]), (10, [1, 2, 3, 7, 10, 11]), (7, [1, 2, 3, 7, 9]), (9, [6]), (8, [1, 2, 3, 7, 9, 47]), (6, [1, 2, 3, 7, 9, 42]), (5, [1, 2, 3, 7, 9]), (4, [6]), (3, [1, 2, 3, 7, 8, 24]), (2, [1, 2, 3, 7, 8]), (1, [1, 2, 3]), (0, [1, 2, 3])]
theorem cc12 : (Tryd.f12.body).bind (cC Tryd.prog 82 k12) = some c12 := by kernel_rfl
def rv12 : List RV := [.t 6]
theorem cr12 : cRVs Tryd.prog Tryd.f12.results.toList = some rv12 := by kernel_rfl
theorem f_law08_CronNext_l10_ok (c : api_Cron) (tick : Int) (most : Int) (t : Int × Int) (y_ : Bool) (R_ : St → Prop) (hR : (Ret Tryd.prog glP [] rv12 (.b (.s (.d (.bool y_))))) = R_) : ∀ (m_ : Nat) (t2 : Int) (res_ : (Int) ⊕ (Bool)) (h : f_law08_CronNext_l10 c tick most t m_ t2 = some res_) (k_ : List It) (hx : ∀ s_ : Int, res_ = .inl s_ → W Tryd.prog glP 82 k_ ⟨lkT [(1, .b (.s (.d (.int .i64 tick)))), (2, .b (.s (.d (.int .i64 ((IntKind.i64.wrap ((most.tmod 300) + 300)).tmod 300))))), (3, .b (.s (.ptr 3 1 0 0))), (7, .b (.s (.d (.int .i64 t.1)))), (9, .b (.s (.d (.int .i64 s_))))], lkG [(3, ⟨7, [[(.d (.int .u64 c.Minutes)), (.d (.int .u64 c.Hours)), (.d (.int .u64 c.Days)), (.d (.int .u64 c.Months)), (.d (.int .u64 c.Week)), (.d (.bool c.AnyDay)), (.d (.bool c.AnyWeek))]], false⟩)]⟩ R_) (hr : ∀ z_ : Bool, res_ = .inr z_ → z_ = y_), W Tryd.prog glP 82 (.c c12l10 :: .lp c12l10 :: .blk 0 :: k_) ⟨lkT [(1, .b (.s (.d (.int .i64 tick)))), (2, .b (.s (.d (.int .i64 ((IntKind.i64.wrap ((most.tmod 300) + 300)).tmod 300))))), (3, .b (.s (.ptr 3 1 0 0))), (7, .b (.s (.d (.int .i64 t.1)))), (9, .b (.s (.d (.int .i64 t2))))], lkG [(3, ⟨7, [[(.d (.int .u64 c.Minutes)), (.d (.int .u64 c.Hours)), (.d (.int .u64 c.Days)), (.d (.int .u64 c.Months)), (.d (.int .u64 c.Week)), (.d (.bool c.AnyDay)), (.d (.bool c.AnyWeek))]], false⟩)]⟩ R_ := by
  intro m_; induction m_ with
  | zero => intro t2 res_ h; rw [f_law08_CronNext_l10.eq_1] at h; cases h
  | succ m_ ih =>
    intro t2 res_ h k_ hx hr; rw [f_law08_CronNext_l10.eq_2] at h; refine W.cdef c12l10.eq_1 ?_
    refine .seq ?_
    refine .seq ?_
    refine Rw.walk ?_
    simp only [wz, wd, ws, seval, c12r6, semI.eq_10, semI.eq_11, semI.eq_3, semI.eq_5, semI.eq_7, e_api_Cron]
    refine .cond (p := (decide (t2 < t.1))) (by first | rfl | simp only [wz, wd, ws, seval]) (fun h1 => ?_) (fun h1 => ?_)
    · rw [ite_t h1] at h
      refine .skip ?_
      refine .seq ?_
      refine .blk ?_
      refine .seq ?_
      refine Rw.walk ?_
      simp only [wz, wd, ws, seval, c12r8, semI.eq_10, semI.eq_11, semI.eq_3, semI.eq_5, semI.eq_7, e_api_Cron]
      obtain ⟨t3, e3, h⟩ := Option.bind_eq_some_iff.1 h
      refine call_fun [] false ⟨trivial, trivial, trivial, trivial⟩ rfl ?_ (f_cron_Fires_ok _ _ _ e3) (fun _ => rfl) (fun i hi => by cases hi) ?_
      · simp only [wz, wd, ws, seval, e_api_Cron]
      simp only [wz, wd, ws, seval, c12r8, semI.eq_10, semI.eq_11, semI.eq_3, semI.eq_5, semI.eq_7, e_api_Cron]
      refine .cond (p := t3) (by first | rfl | simp only [wz, wd, ws, seval]) (fun h1 => ?_) (fun h1 => ?_)
      · rw [ite_t h1] at h
        refine .seq ?_
        refine Rw.walk ?_
        simp only [wz, wd, ws, seval, c12r9, semI.eq_10, semI.eq_11, semI.eq_3, semI.eq_5, semI.eq_7, e_api_Cron]
        obtain rfl := Option.some.inj h; obtain rfl := hr _ rfl
        refine .ret ?_
        rw [← hR]
        simp only [wz, wd, ws, seval, rv12, e_api_Cron]
      · rw [ite_f h1] at h
        refine .skip ?_
        refine .eblk ?_
        refine Rw.walk ?_
        simp only [wz, wd, ws, seval, c12r7, semI.eq_10, semI.eq_11, semI.eq_3, semI.eq_5, semI.eq_7, e_api_Cron]
        refine .lp ?_
        refine .weak (Imp.co [] _ _ ?_ ?_ ?_ ?_ ?_) (ih (IntKind.i64.wrap (t2 + 1)) _ h k_ hx hr) <;> simp only [wz, wd, ws, seval, wi, er_nil, e_api_Cron]
    · rw [ite_f h1] at h
      refine .exit rfl ?_
      obtain rfl := Option.some.inj h
      refine .weak (Imp.co [] _ _ ?_ ?_ ?_ ?_ ?_) (hx _ rfl) <;> simp only [wz, wd, ws, seval, wi, er_nil, e_api_Cron]
theorem f_law08_CronNext_ok (c : api_Cron) (tick : Int) (most : Int) (y_ : Bool) (h : f_law08_CronNext c tick most = some y_) : Fun Tryd.prog glP 12 [.b (.agg ((e_api_Cron c).map Lc.d)), .b (.s (.d (.int .i64 tick))), .b (.s (.d (.int .i64 most)))] (.b (.s (.d (.bool y_)))) := by
  refine fun_walk [] Tryd.func12 Tryd.ntmps12 cc12 cr12 (by kernel_rfl) (by simp only [List.length_cons, List.length_nil]; decide) ?_
  generalize hR : Ret _ _ _ _ _ = R_
  simp only [wz, wd, ws, seval, e_api_Cron]
  unfold f_law08_CronNext at h; unfold c12
  refine .seq ?_
  refine Rw.walk ?_
  simp only [wz, wd, ws, seval, c12r0, semI.eq_10, semI.eq_11, semI.eq_3, semI.eq_5, semI.eq_7, e_api_Cron]
  refine .seq ?_
  refine Rw.walk ?_
  simp only [wz, wd, ws, seval, c12r1, semI.eq_10, semI.eq_11, semI.eq_3, semI.eq_5, semI.eq_7, e_api_Cron]
  repeat (refine And.intro ?_ ?_; · first | omega | (simp only [List.length_append, List.length_cons, List.length_nil] at *; omega) | (simp only [List.map_cons, List.map_nil] at *; omega) | (intro q; simp only [wz, wd, ws, seval, q]; done))
  refine .seq ?_
  refine Rw.walk ?_
  simp only [wz, wd, ws, seval, c12r2, semI.eq_10, semI.eq_11, semI.eq_3, semI.eq_5, semI.eq_7, e_api_Cron]
  obtain ⟨t, e1, h⟩ := Option.bind_eq_some_iff.1 h
  refine call_fun [] false ⟨trivial, trivial, trivial, trivial, trivial⟩ rfl ?_ (f_cron_Next_ok _ _ _ _ e1) (fun _ => rfl) (fun i hi => by cases hi) ?_
  · simp only [wz, wd, ws, seval, e_api_Cron]
  simp only [wz, wd, ws, seval, c12r2, semI.eq_10, semI.eq_11, semI.eq_3, semI.eq_5, semI.eq_7, e_api_Cron]
  refine .seq ?_
  refine .seq ?_
  refine Rw.walk ?_
  simp only [wz, wd, ws, seval, c12r3, semI.eq_10, semI.eq_11, semI.eq_3, semI.eq_5, semI.eq_7, e_api_Cron]
  refine .cond (p := (t.2 != 0)) (by first | rfl | simp only [wz, wd, ws, seval]) (fun h1 => ?_) (fun h1 => ?_)
  · rw [ite_t h1] at h
    refine .seq ?_
    refine Rw.walk ?_
    simp only [wz, wd, ws, seval, c12r4, semI.eq_10, semI.eq_11, semI.eq_3, semI.eq_5, semI.eq_7, e_api_Cron]
    obtain ⟨t2, e2, h⟩ := Option.bind_eq_some_iff.1 h
    refine call_fun [] false ⟨trivial, trivial⟩ rfl ?_ (f_law08_alive_ok _ e2) (fun _ => rfl) (fun i hi => by cases hi) ?_
    · simp only [wz, wd, ws, seval, e_api_Cron]
    simp only [wz, wd, ws, seval, c12r4, semI.eq_10, semI.eq_11, semI.eq_3, semI.eq_5, semI.eq_7, e_api_Cron]
    repeat (refine And.intro ?_ ?_; · first | omega | (simp only [List.length_append, List.length_cons, List.length_nil] at *; omega) | (simp only [List.map_cons, List.map_nil] at *; omega) | (intro q; simp only [wz, wd, ws, seval, q]; done))
    obtain rfl := Option.some.inj h
    refine .ret ?_
    rw [← hR]
    simp only [wz, wd, ws, seval, rv12, e_api_Cron]
  · rw [ite_f h1] at h
    refine .skip ?_
    refine .seq ?_
    refine .seq ?_
    refine Rw.walk ?_
    simp only [wz, wd, ws, seval, c12r5, semI.eq_10, semI.eq_11, semI.eq_3, semI.eq_5, semI.eq_7, e_api_Cron]
    refine .blk ?_
    obtain ⟨s, hf, h⟩ := Option.bind_eq_some_iff.1 h
    refine .loop (.weak (Imp.co [] _ _ ?c1 ?c2 ?c3 ?c4 ?c5) (f_law08_CronNext_l10_ok c tick most t _ _ hR _ _ _ hf _ ?_ ?_))
    case c1 | c2 | c3 | c4 | c5 => simp only [wz, wd, ws, seval, wi, er_nil, e_api_Cron]
    · intro s2 hs; subst hs; dsimp only at h
      refine .seq ?_
      refine Rw.walk ?_
      simp only [wz, wd, ws, seval, c12r10, semI.eq_10, semI.eq_11, semI.eq_3, semI.eq_5, semI.eq_7, e_api_Cron]
      obtain ⟨t2, e4, h⟩ := Option.bind_eq_some_iff.1 h
      refine call_fun [] false ⟨trivial, trivial, trivial, trivial, trivial⟩ rfl ?_ (f_cron_Next_ok _ _ _ _ e4) (fun _ => rfl) (fun i hi => by cases hi) ?_
      · simp only [wz, wd, ws, seval, e_api_Cron]
      simp only [wz, wd, ws, seval, c12r10, semI.eq_10, semI.eq_11, semI.eq_3, semI.eq_5, semI.eq_7, e_api_Cron]
      refine .seq ?_
      refine Rw.walk ?_
      simp only [wz, wd, ws, seval, c12r11, semI.eq_10, semI.eq_11, semI.eq_3, semI.eq_5, semI.eq_7, e_api_Cron]
      obtain ⟨t3, e5, h⟩ := Option.bind_eq_some_iff.1 h
      refine call_fun [] false ⟨trivial, trivial⟩ rfl ?_ (f_law08_alive_ok _ e5) (fun _ => rfl) (fun i hi => by cases hi) ?_
      · simp only [wz, wd, ws, seval, e_api_Cron]
      simp only [wz, wd, ws, seval, c12r11, semI.eq_10, semI.eq_11, semI.eq_3, semI.eq_5, semI.eq_7, e_api_Cron]
      repeat (refine And.intro ?_ ?_; · first | omega | (simp only [List.length_append, List.length_cons, List.length_nil] at *; omega) | (simp only [List.map_cons, List.map_nil] at *; omega) | (intro q; simp only [wz, wd, ws, seval, q]; done))
      refine call_alt (v := .b (.agg [(.d (.int .u64 c.Minutes)), (.d (.int .u64 c.Hours)), (.d (.int .u64 c.Days)), (.d (.int .u64 c.Months)), (.d (.int .u64 c.Week)), (.d (.bool c.AnyDay)), (.d (.bool c.AnyWeek))])) rfl rfl (by simp only [wz, wd, ws, seval]) (fun q => ⟨_, by simp only [wz, wd, ws, seval, semI.eq_10, e_api_Cron], trivial⟩) ?_
      simp only [wz, wd, ws, seval, c12r11, semI.eq_10, semI.eq_11, semI.eq_3, semI.eq_5, semI.eq_7, e_api_Cron]
      obtain ⟨t4, e6, h⟩ := Option.bind_eq_some_iff.1 h
      refine call_funG [] rfl (by simp only [wz, wd, ws, seval]) rfl ?_ (fun q => (f_cron_Fires_ok _ _ _ (gx_iff e6 (by first | exact q | simpa using q)))) rfl (fun i hi => by cases hi) ?_
      · simp only [wz, wd, ws, seval, e_api_Cron]
      simp only [wz, wd, ws, seval, c12r11, semI.eq_10, semI.eq_11, semI.eq_3, semI.eq_5, semI.eq_7, e_api_Cron]
      repeat (refine And.intro ?_ ?_; · first | omega | (simp only [List.length_append, List.length_cons, List.length_nil] at *; omega) | (simp only [List.map_cons, List.map_nil] at *; omega) | (intro q; simp only [wz, wd, ws, seval, q]; done))
      obtain rfl := Option.some.inj h
      refine .ret ?_
      rw [← hR]
      simp only [wz, wd, ws, seval, rv12, e_api_Cron]
    · intro z hz; subst hz; dsimp only at h
      exact Option.some.inj h
end Go.Proofs.YthcngbbceahdlaaDoor.V
end

section
/- Plain laws: numbers, rows and words of 32 bits. -/
namespace Go.Proofs.YthcngbbceahdlaaDoor.V.M
set_option linter.unusedVariables false
set_option linter.unusedSimpArgs false
open Go Go.RowKit
theorem w_i64 {n : Int} (h : -9223372036854775808 ≤ n) (h2 : n < 9223372036854775808) : IntKind.i64.wrap n = n := by
  simp only [IntKind.wrap, IntKind.bits, IntKind.signed]; simp; omega
theorem bounds_i64 {a : Int} (h : (Lit.int .i64 a).wf = true) : -9223372036854775808 ≤ a ∧ a ≤ 9223372036854775807 := by
  have e := (Bool.and_eq_true_iff.mp h); exact ⟨of_decide_eq_true e.1, of_decide_eq_true e.2⟩
theorem bounds_u8 {a : Int} (h : (Lit.int .u8 a).wf = true) : 0 ≤ a ∧ a ≤ 255 := by
  have e := (Bool.and_eq_true_iff.mp h); exact ⟨of_decide_eq_true e.1, of_decide_eq_true e.2⟩
theorem w_u64 {n : Int} (h : 0 ≤ n) (h2 : n < 18446744073709551616) : IntKind.u64.wrap n = n := by
  simp only [IntKind.wrap, IntKind.bits, IntKind.signed]; simp; omega
theorem w_u32 (n : Int) : IntKind.u32.wrap n = n % 4294967296 := by simp [IntKind.wrap, IntKind.bits, IntKind.signed]
theorem w_u8 (n : Int) : IntKind.u8.wrap n = n % 256 := by simp [IntKind.wrap, IntKind.bits, IntKind.signed]
theorem gd_t {α : Type} {p : Prop} [Decidable p] (k : Option α) (h : p) : gd p k = k := by unfold gd; rw [if_pos h]
theorem ix_nat {α : Type} (l : List α) (n : Nat) : ix l (n : Int) = l[n]? := by unfold ix; rw [if_pos (by omega)]; rfl
theorem ix_lt {α : Type} (l : List α) (d : α) (n : Nat) (h : n < l.length) : ix l (n : Int) = some (l.getD n d) := by
  rw [ix_nat, List.getElem?_eq_getElem h, List.getD_eq_getElem?_getD, List.getElem?_eq_getElem h]; rfl
theorem cut_all {α : Type} (l : List α) (n : Nat) : cut l (n : Int) (l.length : Int) = l.drop n := by unfold cut; simp
theorem cut_zero {α : Type} (l : List α) (n : Nat) : cut l 0 (n : Int) = l.take n := by unfold cut; simp
/-- A word of 32 bits, as the program's number. -/
def B (x : BitVec 32) : Int := (x.toNat : Int)
theorem B_lt (x : BitVec 32) : 0 ≤ B x ∧ B x < 4294967296 := ⟨by unfold B; omega, by unfold B; have := x.isLt; omega⟩
theorem B_of (n : Int) : BitVec.ofInt 32 n = BitVec.ofInt 32 n := rfl
theorem B_ofInt (n : Int) : IntKind.u32.wrap n = B (BitVec.ofInt 32 n) := by
  rw [w_u32]; unfold B; rw [BitVec.toNat_ofInt]; omega
theorem of_B (x : BitVec 32) : BitVec.ofInt 32 (B x) = x := by unfold B; simp
theorem of_B' (x : BitVec 32) : BitVec.ofInt IntKind.u32.bits (B x) = x := of_B x
theorem wrap_B (x : BitVec 32) : IntKind.u32.wrap (B x) = B x := by rw [B_ofInt, of_B]
theorem wrap_N (x : BitVec 32) : IntKind.u32.wrap ((x.toNat : Nat) : Int) = B x := wrap_B x
theorem add_B (x y : BitVec 32) : IntKind.u32.wrap (B x + B y) = B (x + y) := by
  rw [B_ofInt, BitVec.ofInt_add, of_B, of_B]
theorem B_mod (n : Nat) : (n : Int) % 4294967296 = B (BitVec.ofNat 32 n) := by unfold B; simp
theorem not_B (x : BitVec 32) : IntKind.u32.wrap (4294967295 - B x) = B (~~~ x) := by
  have := B_lt x
  rw [w_u32]; unfold B at *; rw [BitVec.toNat_not]; omega
theorem not_B2 (x : BitVec 32) : IntKind.u32.wrap (BitVec.ofInt IntKind.u32.bits (if IntKind.u32.signed then -1 else IntKind.u32.max) ^^^ BitVec.ofInt IntKind.u32.bits (B x)).toNat = B (~~~ x) := by
  have e : (BitVec.ofInt IntKind.u32.bits (if IntKind.u32.signed then -1 else IntKind.u32.max) ^^^ BitVec.ofInt IntKind.u32.bits (B x)) = ~~~ x := by
    show BitVec.ofInt 32 4294967295 ^^^ BitVec.ofInt 32 (B x) = _
    rw [of_B, show BitVec.ofInt 32 4294967295 = BitVec.allOnes 32 from by decide, BitVec.allOnes_xor]
  rw [e]; exact wrap_N _
theorem xor_B (x y : BitVec 32) : IntKind.u32.wrap (BitVec.ofInt IntKind.u32.bits (B x) ^^^ BitVec.ofInt IntKind.u32.bits (B y)).toNat = B (x ^^^ y) := by
  have e : (BitVec.ofInt IntKind.u32.bits (B x) ^^^ BitVec.ofInt IntKind.u32.bits (B y)) = x ^^^ y := by
    show BitVec.ofInt 32 (B x) ^^^ BitVec.ofInt 32 (B y) = _
    rw [of_B, of_B]
  rw [e]; exact wrap_N _
theorem and_B (x y : BitVec 32) : IntKind.u32.wrap (BitVec.ofInt IntKind.u32.bits (B x) &&& BitVec.ofInt IntKind.u32.bits (B y)).toNat = B (x &&& y) := by
  have e : (BitVec.ofInt IntKind.u32.bits (B x) &&& BitVec.ofInt IntKind.u32.bits (B y)) = x &&& y := by
    show BitVec.ofInt 32 (B x) &&& BitVec.ofInt 32 (B y) = _
    rw [of_B, of_B]
  rw [e]; exact wrap_N _
theorem or_B (x y : BitVec 32) : IntKind.u32.wrap (BitVec.ofInt IntKind.u32.bits (B x) ||| BitVec.ofInt IntKind.u32.bits (B y)).toNat = B (x ||| y) := by
  have e : (BitVec.ofInt IntKind.u32.bits (B x) ||| BitVec.ofInt IntKind.u32.bits (B y)) = x ||| y := by
    show BitVec.ofInt 32 (B x) ||| BitVec.ofInt 32 (B y) = _
    rw [of_B, of_B]
  rw [e]; exact wrap_N _
/-- The turn to the right. -/
def rot (n : Nat) (x : BitVec 32) : BitVec 32 := (x <<< (32 - n)) ||| (x >>> n)
theorem rot_add (n : Nat) (h0 : 0 < n) (h : n < 32) (x : BitVec 32) : rot n x = (x <<< (32 - n)) + (x >>> n) := by
  unfold rot; symm; apply BitVec.add_eq_or_of_and_eq_zero
  ext i hi
  simp only [BitVec.getElem_and, BitVec.getElem_shiftLeft, BitVec.getElem_ushiftRight, BitVec.getElem_zero]
  by_cases c : i < 32 - n
  · simp [c]
  · simp [c]; intro _; exact BitVec.getLsbD_of_ge _ _ (by omega)
theorem B_def (x : BitVec 32) : B x = (x.toNat : Int) := rfl
theorem shr_B (x : BitVec 32) (n : Nat) : (B x).fdiv (2 ^ n) = B (x >>> n) := by
  have h : (2 : Int) ^ n = ((2 ^ n : Nat) : Int) := by rw [Int.natCast_pow]; rfl
  rw [B_def, B_def, BitVec.toNat_ushiftRight, Nat.shiftRight_eq_div_pow, h, Int.fdiv_eq_ediv_of_nonneg _ (Int.natCast_nonneg _)]; rfl
theorem shl_B (x : BitVec 32) (n : Nat) : IntKind.u32.wrap (B x * 2 ^ n) = B (x <<< n) := by
  have h : (2 : Int) ^ n = ((2 ^ n : Nat) : Int) := by rw [Int.natCast_pow]; rfl
  rw [w_u32, B_def, B_def, BitVec.toNat_shiftLeft, Nat.shiftLeft_eq, h, ← Int.natCast_mul]; rfl
theorem divB (x : BitVec 32) (n : Nat) (p : Int) (h : p = ((2 ^ n : Nat) : Int)) : IntKind.u32.wrap ((B x).tdiv p) = B (x >>> n) := by
  subst h
  rw [B_def, Int.tdiv_eq_ediv_of_nonneg (Int.natCast_nonneg _), show ((x.toNat : Int) / ((2 ^ n : Nat) : Int)) = ((x >>> n).toNat : Int) by
    rw [BitVec.toNat_ushiftRight, Nat.shiftRight_eq_div_pow]; rfl]
  exact wrap_N _
theorem modB (x : BitVec 32) (n : Nat) (hn : n ≤ 32) (p q : Int) (h : p = ((2 ^ n : Nat) : Int)) (h2 : q = ((2 ^ (32 - n) : Nat) : Int)) : IntKind.u32.wrap ((B x).tmod p * q) = B (x <<< (32 - n)) := by
  subst h; subst h2
  rw [B_def, Int.tmod_eq_emod_of_nonneg (Int.natCast_nonneg _), w_u32, B_def, BitVec.toNat_shiftLeft, Nat.shiftLeft_eq]
  have e : (x.toNat % 2 ^ n) * 2 ^ (32 - n) = x.toNat * 2 ^ (32 - n) % 2 ^ 32 := by
    rw [← Nat.mul_mod_mul_right]; congr 1; rw [← Nat.pow_add]; congr 1; omega
  rw [← e, ← Int.natCast_emod, ← Int.natCast_mul, e]
  have := Nat.mod_lt (x.toNat * 2 ^ (32 - n)) (show 2 ^ 32 > 0 by decide)
  omega
end Go.Proofs.YthcngbbceahdlaaDoor.V.M
end

section
/- Ticks' times: days counted. -/
namespace Go.Proofs.YthcngbbceahdlaaDoor.V.M
set_option linter.unusedVariables false
set_option linter.unusedSimpArgs false
open Go Go.RowKit
def lpB (y : Int) : Bool := (((y.tmod 4) == 0) && ((y.tmod 100) != 0)) || ((y.tmod 400) == 0)
def ylen (y : Int) : Int := if lpB y then 366 else 365
def dOf (m y : Int) : Int := if m = 2 then (if lpB y then 29 else 28) else if m = 4 ∨ m = 6 ∨ m = 9 ∨ m = 11 then 30 else 31
def dB (y : Int) : Int := 365 * y + (y - 1) / 4 - (y - 1) / 100 + (y - 1) / 400
theorem lpB_iff {y : Int} (h : 0 ≤ y) : lpB y = true ↔ (y % 4 = 0 ∧ y % 100 ≠ 0) ∨ y % 400 = 0 := by
  unfold lpB
  rw [Int.tmod_eq_emod_of_nonneg h, Int.tmod_eq_emod_of_nonneg h, Int.tmod_eq_emod_of_nonneg h]
  simp
theorem dB_succ {y : Int} (h : 1 ≤ y) : dB (y + 1) = dB y + ylen y := by
  unfold ylen
  by_cases hl : lpB y = true
  · rw [if_pos hl]
    rw [lpB_iff (by omega)] at hl
    unfold dB; omega
  · rw [if_neg hl]
    rw [lpB_iff (by omega)] at hl
    unfold dB; omega
theorem ylen_two (y : Int) : ylen y = 365 ∨ ylen y = 366 := by unfold ylen; split <;> simp
theorem leap_ok (y : Int) : f_cron_leap y = some (lpB y) := rfl
theorem days_ok (m y : Int) : f_cron_days m y = some (dOf m y) := by
  unfold f_cron_days dOf
  by_cases h2 : m = 2
  · subst h2
    cases hb : lpB y <;> simp [leap_ok, hb]
  · by_cases h4 : m = 4
    · subst h4; rfl
    · by_cases h6 : m = 6
      · subst h6; rfl
      · by_cases h9 : m = 9
        · subst h9; rfl
        · by_cases h11 : m = 11
          · subst h11; rfl
          · simp [h2, h4, h6, h9, h11]
theorem year_ok (tick E : Int) (hE : E ≤ 4000000) : ∀ (m : Nat) (n c : Int), 0 ≤ n → n ≤ 1000000 → 1 ≤ c → c ≤ E → n < dB E - dB c → E - c ≤ m →
    ∃ r Y, f_cron_At_l12 tick m n c = some (r, ylen Y, Y) ∧ 0 ≤ r ∧ r < ylen Y ∧ r + dB Y = n + dB c ∧ c ≤ Y ∧ Y < E
  | 0, n, c, h0, h1, h2, h3, h4, h5 => by
    have : c = E := by omega
    subst this; omega
  | m + 1, n, c, h0, h1, h2, h3, h4, h5 => by
    have hne : c ≠ E := by rintro rfl; omega
    have hy := ylen_two c
    rw [f_cron_At_l12, leap_ok, Option.bind_some]
    have e : (if lpB c = true then some (IntKind.i64.wrap (365 + 1)) else some 365) = some (ylen c) := by
      unfold ylen; split <;> rfl
    rw [e, Option.bind_some]
    by_cases h : n < ylen c
    · rw [if_pos (by simpa using h)]
      exact ⟨n, c, rfl, h0, h, rfl, Int.le_refl _, by omega⟩
    · rw [if_neg (by simpa using h), w_i64 (by omega) (by omega), w_i64 (by omega) (by omega)]
      have hs := dB_succ h2
      obtain ⟨r, Y, k1, k2, k3, k4, k5, k6⟩ := year_ok tick E hE m (n - ylen c) (c + 1) (by omega) (by omega) (by omega) (by omega) (by omega) (by omega)
      exact ⟨r, Y, k1, k2, k3, by omega, by omega, k6⟩
def cumD (y : Int) : Nat → Int
  | 0 => 0
  | k + 1 => cumD y k + dOf ((k : Int) + 1) y
theorem cumD_year (y : Int) : cumD y 12 = ylen y := by
  unfold ylen
  by_cases h : lpB y = true <;> simp [cumD, dOf, h]
theorem dOf_b (m y : Int) : 28 ≤ dOf m y ∧ dOf m y ≤ 31 := by
  unfold dOf; split <;> split <;> omega
theorem month_ok (tick : Int) (s : Int × Int × Int) : ∀ (j k : Nat) (n : Int) (m : Nat), k + j = 12 → 0 ≤ n → n < cumD s.2.2 12 - cumD s.2.2 k → n ≤ 1000 → j ≤ m →
    ∃ (r : Int) (q : Nat), q < 12 ∧ f_cron_At_l16 tick s m n ((k : Int) + 1) = some (r, (q : Int) + 1) ∧ 0 ≤ r ∧ r < dOf ((q : Int) + 1) s.2.2 ∧ r + cumD s.2.2 q = n + cumD s.2.2 k
  | 0, k, n, m, h0, h1, h2, hn, h3 => by
    have : k = 12 := by omega
    subst this; omega
  | j + 1, k, n, 0, h0, h1, h2, hn, h3 => by omega
  | j + 1, k, n, m + 1, h0, h1, h2, hn, h3 => by
    have hb := dOf_b ((k : Int) + 1) s.2.2
    rw [f_cron_At_l16, days_ok, Option.bind_some]
    by_cases h : n ≥ dOf ((k : Int) + 1) s.2.2
    · rw [if_pos (by simpa using h), Option.bind_some, w_i64 (by omega) (by omega), w_i64 (by omega) (by omega)]
      have hc : cumD s.2.2 (k + 1) = cumD s.2.2 k + dOf ((k : Int) + 1) s.2.2 := rfl
      obtain ⟨r, q, k1, k2, k3, k4, k5⟩ := month_ok tick s j (k + 1) (n - dOf ((k : Int) + 1) s.2.2) m (by omega) (by omega) (by omega) (by omega) (by omega)
      have e : (((k + 1 : Nat) : Int) + 1) = (k : Int) + 1 + 1 := by omega
      rw [e] at k2
      exact ⟨r, q, k1, k2, k3, k4, by omega⟩
    · rw [if_neg (by simpa using h)]
      exact ⟨n, k, by omega, rfl, h1, by omega, rfl⟩
/-- A tick's time. -/
theorem At_ok (t : Int) (h0 : 0 ≤ t) (h1 : t ≤ 1099511627776) : ∃ (D : Int) (q : Nat) (Y : Int), f_cron_At t = some (⟨t % 60, t % 1440 / 60, D, (q : Int) + 1, Y, (t / 1440 + 4) % 7⟩, 0) ∧
    q < 12 ∧ 1 ≤ D ∧ D ≤ dOf ((q : Int) + 1) Y ∧ 1970 ≤ Y ∧ Y ≤ 3000000 ∧ t / 1440 + 719527 = dB Y + cumD Y q + D - 1 := by
  unfold f_cron_At
  rw [if_neg (by simp; omega)]
  have e1 : t.tdiv 1440 = t / 1440 := Int.tdiv_eq_ediv_of_nonneg h0
  have e2 : t.tmod 60 = t % 60 := Int.tmod_eq_emod_of_nonneg h0
  have e3 : t.tmod 1440 = t % 1440 := Int.tmod_eq_emod_of_nonneg h0
  have e4 : (t % 1440).tdiv 60 = t % 1440 / 60 := Int.tdiv_eq_ediv_of_nonneg (by omega)
  have e5 : (t / 1440).tmod 146097 = t / 1440 % 146097 := Int.tmod_eq_emod_of_nonneg (by omega)
  have e6 : (t / 1440).tdiv 146097 = t / 1440 / 146097 := Int.tdiv_eq_ediv_of_nonneg (by omega)
  have e7 : (t / 1440 + 4).tmod 7 = (t / 1440 + 4) % 7 := Int.tmod_eq_emod_of_nonneg (by omega)
  rw [e1, w_i64 (by omega) (by omega), e2, e3, e4, e5, e6, w_i64 (n := t / 1440 / 146097) (by omega) (by omega), w_i64 (n := t / 1440 / 146097 * 400) (by omega) (by omega), w_i64 (n := 1970 + t / 1440 / 146097 * 400) (by omega) (by omega), w_i64 (n := t % 1440 / 60) (by omega) (by omega), w_i64 (n := t / 1440 + 4) (by omega) (by omega), e7]
  obtain ⟨r, Y, k1, k2, k3, k4, k5, k6⟩ := year_ok t (1970 + t / 1440 / 146097 * 400 + 400) (by omega) 401 (t / 1440 % 146097) (1970 + t / 1440 / 146097 * 400) (by omega) (by omega) (by omega) (by omega) (by unfold dB; omega) (by omega)
  rw [k1, Option.bind_some]
  have hy := ylen_two Y
  obtain ⟨r2, q, g1, g2, g3, g4, g5⟩ := month_ok t (r, ylen Y, Y) 12 0 r 13 rfl k2 (by rw [cumD_year]; show r < ylen Y - 0; omega) (by omega) (by omega)
  have g2' : f_cron_At_l16 t (r, ylen Y, Y) 13 r 1 = some (r2, (q : Int) + 1) := g2
  have hb := dOf_b ((q : Int) + 1) Y
  dsimp only at g4 g5
  rw [g2', Option.bind_some, w_i64 (n := r2 + 1) (by omega) (by omega)]
  refine ⟨r2 + 1, q, Y, rfl, g1, by omega, by omega, by omega, by omega, ?_⟩
  have hz : cumD Y 0 = 0 := rfl
  rw [hz] at g5
  have hk : dB (1970 + t / 1440 / 146097 * 400) = 719527 + 146097 * (t / 1440 / 146097) := by unfold dB; omega
  omega
theorem At_bad (t : Int) (h : t < 0 ∨ 1099511627776 < t) : f_cron_At t = some (⟨0, 0, 0, 0, 0, 0⟩, 1) := by
  unfold f_cron_At
  rw [if_pos (by simp; omega)]
theorem alive08 : f_law08_alive = some true := by kernel_rfl
end Go.Proofs.YthcngbbceahdlaaDoor.V.M
end
