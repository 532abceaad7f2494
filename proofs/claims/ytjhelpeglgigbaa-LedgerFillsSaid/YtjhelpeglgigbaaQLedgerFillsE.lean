/- Go functions compute what Lean functions do. -/
import Derived.Test.YtjhelpeglgigbaaProg
import Derived.Test.YtjhelpeglgigbaaQLedgerFillsB
import Derived.Test.YtjhelpeglgigbaaQLedgerFillsC
import Derived.Test.YtjhelpeglgigbaaQLedgerFillsD
import Derived.KernelRfl
section
/- Go functions compute what Lean functions do. -/
namespace Go.Proofs.Ytjhelpeglgigbaa.V
open Go Go.RowKit
set_option linter.unusedVariables false
set_option linter.unusedSimpArgs false
set_option maxHeartbeats 1000000
set_option maxRecDepth 20000
-- 48 consignor/disk.ends
def c48r0 : List Opn := [
  ⟨(some 2), none, .box 2 (.t 0)⟩, 
  ⟨(some 4), none, .new [.nils, .nils]⟩]
def c48r1 : List Opn := [
  ⟨(some 9), none, .fadr 0 (.t 2)⟩, 
  ⟨(some 10), none, .load false 1 (.t 9)⟩, 
  ⟨(some 11), none, .call (.fn 63) [(.t 10)]⟩, 
  ⟨(some 5), none, .mv (.t 11)⟩]
def c48r2 : List Opn := [
  ⟨(some 12), none, .fadr 1 (.t 2)⟩, 
  ⟨(some 13), none, .load false 1 (.t 12)⟩, 
  ⟨(some 14), none, .len (.sl 0) (.t 13)⟩, 
  ⟨(some 15), none, .mv (.c (.s (.d (.int .i64 0))))⟩]
def c48r3 : List Opn := [
  ⟨(some 16), none, .bin .lss (.t 15) (.t 14)⟩]
def c48r4 : List Opn := [
  ⟨(some 17), none, .mv (.t 15)⟩, 
  ⟨(some 18), none, .iadr (.sl 2) (.t 13) (.t 15)⟩, 
  ⟨(some 19), none, .load true 2 (.t 18)⟩, 
  ⟨(some 7), none, .new [(.d (.int .i64 0)), (.d (.str []))]⟩, 
  ⟨(some 6), none, .mv (.t 17)⟩, 
  ⟨none, none, .store 2 (.t 7) (.t 19)⟩]
def c48r5 : List Opn := [
  ⟨(some 8), none, .mv (.c (.s (.d (.str []))))⟩]
def c48r6 : List Opn := [
  ⟨(some 20), none, .mv (.t 1)⟩, 
  ⟨(some 21), none, .mv (.t 6)⟩, 
  ⟨(some 22), none, .call (.t 20) [(.t 21)]⟩]
def c48r7 : List Opn := [
  ⟨(some 24), none, .bin .eql (.t 22) (.c (.s (.d (.int .i64 2))))⟩, 
  ⟨(some 23), none, .mv (.t 24)⟩]
def c48r8 : List Opn := [
  ⟨(some 26), none, .bin .eql (.t 22) (.c (.s (.d (.int .i64 1))))⟩, 
  ⟨(some 25), none, .mv (.t 26)⟩]
def c48r9 : List Opn := [
  ⟨(some 27), none, .mv (.t 5)⟩, 
  ⟨(some 28), none, .fadr 0 (.t 7)⟩, 
  ⟨(some 29), none, .load false 1 (.t 28)⟩, 
  ⟨(some 30), none, .iadr (.sl 1) (.t 27) (.t 29)⟩, 
  ⟨(some 31), none, .load false 1 (.t 30)⟩, 
  ⟨(some 32), none, .slc .str (.t 31) (some (.c (.s (.d (.int .i64 64))))) none none⟩, 
  ⟨(some 8), none, .mv (.t 32)⟩]
def c48r10 : List Opn := [
  ⟨(some 33), none, .mv (.t 5)⟩, 
  ⟨(some 34), none, .fadr 0 (.t 7)⟩, 
  ⟨(some 35), none, .load false 1 (.t 34)⟩, 
  ⟨(some 36), none, .fadr 1 (.t 7)⟩, 
  ⟨(some 37), none, .load false 1 (.t 36)⟩, 
  ⟨(some 38), none, .mv (.t 8)⟩, 
  ⟨(some 39), none, .len .str (.t 38)⟩, 
  ⟨(some 40), none, .bin .sub (.c (.s (.d (.int .i64 128)))) (.t 39)⟩, 
  ⟨(some 41), none, .slc .str (.t 37) none (some (.t 40)) none⟩, 
  ⟨(some 42), none, .mv (.t 8)⟩, 
  ⟨(some 43), none, .bin .add (.t 41) (.t 42)⟩, 
  ⟨(some 44), none, .iadr (.sl 1) (.t 33) (.t 35)⟩, 
  ⟨none, none, .store 1 (.t 44) (.t 43)⟩]
def c48r11 : List Opn := [
  ⟨(some 45), none, .bin .add (.t 15) (.c (.s (.d (.int .i64 1))))⟩, 
  ⟨(some 15), none, .mv (.t 45)⟩]
def c48l12 : C := .seq (.reg c48r3 none [1, 4, 5, 13, 14, 15, 16]) (.seq (.cond (.t 16) (.skip) (.exit 0)) (.seq (.blk 1 (.seq (.reg c48r4 none [1, 4, 5, 6, 7, 13, 14, 15]) (.seq (.reg c48r5 none [1, 4, 5, 6, 7, 8, 13, 14, 15]) (.seq (.reg c48r6 none [1, 4, 5, 7, 8, 13, 14, 15, 22]) (.blk 2 (.seq (.blk 4 (.seq (.blk 3 (.seq (.seq (.seq (.reg c48r7 none [1, 4, 5, 7, 8, 13, 14, 15, 22, 23]) (.cond (.t 23) (.exit 3) (.skip))) (.seq (.reg c48r8 none [1, 4, 5, 7, 8, 13, 14, 15, 25]) (.cond (.t 25) (.exit 4) (.skip)))) (.exit 2))) (.reg c48r9 none [1, 4, 5, 7, 8, 13, 14, 15]))) (.seq (.reg c48r10 (some [0, 0, 2, 0, 8, 0, 32, 96, 248, 0, 1016, 2047, 4095]) [1, 4, 5, 13, 14, 15]) (.exit 2)))))))) (.reg c48r11 none [1, 4, 5, 13, 14, 15])))
def c48r12 : List Opn := [
  ⟨(some 46), none, .mv (.t 5)⟩, 
  ⟨(some 47), none, .build [.nils, .nils] [(0, 1, (.t 46))]⟩, 
  ⟨none, none, .store 2 (.t 4) (.t 47)⟩]
def c48 : C := .seq (.reg c48r0 none [1, 2, 4]) (.seq (.reg c48r1 none [1, 2, 4, 5]) (.seq (.seq (.reg c48r2 none [1, 4, 5, 13, 14, 15]) (.blk 0 (.loop c48l12))) (.seq (.reg c48r12 none [4]) (.ret))))
def k48 : List (Nat × List Nat) := [(12, [4]), (11, [1, 4, 5, 13, 14, 15]), (10, [1, 4, 5, 13, 14, 15]), (9, [1, 4, 5, 7, 8, 13, 14, 15]), (8, [1, 4, 5, 7, 8, 13, 14, 15, 25]), (7, [1, 4, 5, 7, 8, 13, 14, 15, 22, 23]), (6, [1, 4, 5, 7, 8, 13, 14, 15, 22]), (5, [1, 4, 5, 6, 7, 8, 13, 14, 15]), (4, [1, 4, 5, 6, 7, 13, 14, 15]), (3, [1, 4, 5, 13, 14, 15, 16]), (2, [1, 4, 5, 13, 14, 15]), (1, [1, 2, 4, 5]), (0, [1, 2, 4])]
theorem cc48 : (Try.f48.body).bind (cC Try.prog 48 k48) = some c48 := by kernel_rfl
def rv48 : List RV := [.c 4 true 2]
theorem cr48 : cRVs Try.prog Try.f48.results.toList = some rv48 := by kernel_rfl
theorem f_disk_ends_l12_ok (d : api_Disk) (fate_f : FuncId) (fate_c : List Sc) (fate : Int → Option (Int)) (fate_h : ∀ (a0 : Int) (r : Int), fate a0 = some r → Fun Try.prog glP fate_f (.b (.s (.d (.int .i64 a0))) :: fate_c.map fun x => .b (.s (.d x))) (.b (.s (.d (.int .i64 r))))) (y_ : api_Disk) (R_ : St → Prop) (hR : (Ret Try.prog glP [11] rv48 (.b (.agg ((e_api_Disk y_).map Lc.d)))) = R_) : ∀ (m_ : Nat) (v15 : Int) (l : (List Str)) (res_ : Int × (List Str)) (h : f_disk_ends_l12 d fate m_ v15 l = some res_) (k_ : List It) (hx : ∀ s_ : Int × (List Str), res_ = s_ → W Try.prog glP 48 k_ ⟨lkT [(1, .b (.s (.d (.clo fate_f fate_c)))), (4, .b (.s (.ptr 4 1 0 0))), (5, .b (.s (.own 11 s_.2.length))), (13, .b (.s (.d (.sl (d.Dirty.map e_api_Write))))), (14, .b (.s (.d (.int .i64 (d.Dirty.length : Int))))), (15, .b (.s (.d (.int .i64 s_.1))))], lkG [(4, ⟨2, [[.nils, .nils]], false⟩), (11, ⟨1, er eS s_.2, false⟩)]⟩ R_), W Try.prog glP 48 (.c c48l12 :: .lp c48l12 :: .blk 0 :: k_) ⟨lkT [(1, .b (.s (.d (.clo fate_f fate_c)))), (4, .b (.s (.ptr 4 1 0 0))), (5, .b (.s (.own 11 l.length))), (13, .b (.s (.d (.sl (d.Dirty.map e_api_Write))))), (14, .b (.s (.d (.int .i64 (d.Dirty.length : Int))))), (15, .b (.s (.d (.int .i64 v15))))], lkG [(4, ⟨2, [[.nils, .nils]], false⟩), (11, ⟨1, er eS l, false⟩)]⟩ R_ := by
  intro m_; induction m_ with
  | zero => intro v15 l res_ h; rw [f_disk_ends_l12.eq_1] at h; cases h
  | succ m_ ih =>
    intro v15 l res_ h k_ hx; rw [f_disk_ends_l12.eq_2] at h; refine W.cdef c48l12.eq_1 ?_
    refine .seq ?_
    refine Rw.walk ?_
    simp only [wz, wd, ws, Nat.reduceAdd, Nat.reduceSub, Nat.reduceMul, Nat.reduceLeDiff, Nat.reduceEqDiff, Nat.reduceLT, Nat.reduceBEq, reduceIte, reduceCtorEq, Int.reduceToNat, Nat.reduceShiftRight, Nat.reduceAnd, Nat.reduceBneDiff, Nat.reduceBNe, c48r3, semI.eq_10, semI.eq_11, semI.eq_3, semI.eq_5, semI.eq_7, e_api_Disk, e_api_Write]
    refine .seq ?_
    refine .cond (p := (decide (v15 < (d.Dirty.length : Int)))) (by first | rfl | simp only [wz, wd, ws, Nat.reduceAdd, Nat.reduceSub, Nat.reduceMul, Nat.reduceLeDiff, Nat.reduceEqDiff, Nat.reduceLT, Nat.reduceBEq, reduceIte, reduceCtorEq, Int.reduceToNat, Nat.reduceShiftRight, Nat.reduceAnd, Nat.reduceBneDiff, Nat.reduceBNe]) (fun h1 => ?_) (fun h1 => ?_)
    · rw [ite_t h1] at h
      refine .skip ?_
      refine .seq ?_
      refine .blk ?_
      refine .seq ?_
      refine Rw.walk ?_
      simp only [wz, wd, ws, Nat.reduceAdd, Nat.reduceSub, Nat.reduceMul, Nat.reduceLeDiff, Nat.reduceEqDiff, Nat.reduceLT, Nat.reduceBEq, reduceIte, reduceCtorEq, Int.reduceToNat, Nat.reduceShiftRight, Nat.reduceAnd, Nat.reduceBneDiff, Nat.reduceBNe, c48r4, semI.eq_3, semI.eq_5, semI.eq_7, e_api_Disk, e_api_Write]
      obtain ⟨x, e2, h⟩ := Option.bind_eq_some_iff.1 h
      refine Go1.of (sem_iadr e_api_Write_len e2 (by rfl) (by rfl)) ?_
      simp only [wz, wd, ws, Nat.reduceAdd, Nat.reduceSub, Nat.reduceMul, Nat.reduceLeDiff, Nat.reduceEqDiff, Nat.reduceLT, Nat.reduceBEq, reduceIte, reduceCtorEq, Int.reduceToNat, Nat.reduceShiftRight, Nat.reduceAnd, Nat.reduceBneDiff, Nat.reduceBNe, c48r4, semI.eq_3, semI.eq_5, semI.eq_7, e_api_Disk, e_api_Write]
      refine Go1.of (semI.eq_10 ..) ?_
      simp only [wz, wd, ws, Nat.reduceAdd, Nat.reduceSub, Nat.reduceMul, Nat.reduceLeDiff, Nat.reduceEqDiff, Nat.reduceLT, Nat.reduceBEq, reduceIte, reduceCtorEq, Int.reduceToNat, Nat.reduceShiftRight, Nat.reduceAnd, Nat.reduceBneDiff, Nat.reduceBNe, c48r4, semI.eq_3, semI.eq_5, semI.eq_7, e_api_Disk, e_api_Write]
      refine Go1.of (semI.eq_11 ..) ?_
      simp only [wz, wd, ws, Nat.reduceAdd, Nat.reduceSub, Nat.reduceMul, Nat.reduceLeDiff, Nat.reduceEqDiff, Nat.reduceLT, Nat.reduceBEq, reduceIte, reduceCtorEq, Int.reduceToNat, Nat.reduceShiftRight, Nat.reduceAnd, Nat.reduceBneDiff, Nat.reduceBNe, c48r4, semI.eq_3, semI.eq_5, semI.eq_7, e_api_Disk, e_api_Write]
      refine .seq ?_
      refine Rw.walk ?_
      simp only [wz, wd, ws, Nat.reduceAdd, Nat.reduceSub, Nat.reduceMul, Nat.reduceLeDiff, Nat.reduceEqDiff, Nat.reduceLT, Nat.reduceBEq, reduceIte, reduceCtorEq, Int.reduceToNat, Nat.reduceShiftRight, Nat.reduceAnd, Nat.reduceBneDiff, Nat.reduceBNe, c48r5, semI.eq_10, semI.eq_11, semI.eq_3, semI.eq_5, semI.eq_7, e_api_Disk, e_api_Write]
      refine .seq ?_
      refine Rw.walk ?_
      simp only [wz, wd, ws, Nat.reduceAdd, Nat.reduceSub, Nat.reduceMul, Nat.reduceLeDiff, Nat.reduceEqDiff, Nat.reduceLT, Nat.reduceBEq, reduceIte, reduceCtorEq, Int.reduceToNat, Nat.reduceShiftRight, Nat.reduceAnd, Nat.reduceBneDiff, Nat.reduceBNe, c48r6, semI.eq_10, semI.eq_11, semI.eq_3, semI.eq_5, semI.eq_7, e_api_Disk, e_api_Write]
      obtain ⟨b, e3, h⟩ := Option.bind_eq_some_iff.1 h
      refine call_fun [] false ⟨trivial, trivial, trivial⟩ rfl ?_ (fate_h _ _ e3) (fun _ => rfl) (fun i hi => by cases hi) ?_
      · simp only [wz, wd, ws, Nat.reduceAdd, Nat.reduceSub, Nat.reduceMul, Nat.reduceLeDiff, Nat.reduceEqDiff, Nat.reduceLT, Nat.reduceBEq, reduceIte, reduceCtorEq, Int.reduceToNat, Nat.reduceShiftRight, Nat.reduceAnd, Nat.reduceBneDiff, Nat.reduceBNe, e_api_Disk, e_api_Write]
      simp only [wz, wd, ws, Nat.reduceAdd, Nat.reduceSub, Nat.reduceMul, Nat.reduceLeDiff, Nat.reduceEqDiff, Nat.reduceLT, Nat.reduceBEq, reduceIte, reduceCtorEq, Int.reduceToNat, Nat.reduceShiftRight, Nat.reduceAnd, Nat.reduceBneDiff, Nat.reduceBNe, c48r6, semI.eq_10, semI.eq_11, semI.eq_3, semI.eq_5, semI.eq_7, e_api_Disk, e_api_Write]
      refine .blk ?_
      refine .seq ?_
      refine .blk ?_
      refine .seq ?_
      refine .blk ?_
      refine .seq ?_
      refine .seq ?_
      refine .seq ?_
      refine Rw.walk ?_
      simp only [wz, wd, ws, Nat.reduceAdd, Nat.reduceSub, Nat.reduceMul, Nat.reduceLeDiff, Nat.reduceEqDiff, Nat.reduceLT, Nat.reduceBEq, reduceIte, reduceCtorEq, Int.reduceToNat, Nat.reduceShiftRight, Nat.reduceAnd, Nat.reduceBneDiff, Nat.reduceBNe, c48r7, semI.eq_10, semI.eq_11, semI.eq_3, semI.eq_5, semI.eq_7, e_api_Disk, e_api_Write]
      refine .cond (p := (b == 2)) (by first | rfl | simp only [wz, wd, ws, Nat.reduceAdd, Nat.reduceSub, Nat.reduceMul, Nat.reduceLeDiff, Nat.reduceEqDiff, Nat.reduceLT, Nat.reduceBEq, reduceIte, reduceCtorEq, Int.reduceToNat, Nat.reduceShiftRight, Nat.reduceAnd, Nat.reduceBneDiff, Nat.reduceBNe]) (fun h1 => ?_) (fun h1 => ?_)
      · rw [ite_t h1] at h
        refine .exit rfl ?_
        refine Rw.walk ?_
        simp only [wz, wd, ws, Nat.reduceAdd, Nat.reduceSub, Nat.reduceMul, Nat.reduceLeDiff, Nat.reduceEqDiff, Nat.reduceLT, Nat.reduceBEq, reduceIte, reduceCtorEq, Int.reduceToNat, Nat.reduceShiftRight, Nat.reduceAnd, Nat.reduceBneDiff, Nat.reduceBNe, c48r9, semI.eq_10, semI.eq_11, semI.eq_3, semI.eq_5, semI.eq_7, e_api_Disk, e_api_Write]
        obtain ⟨x2, e4, h⟩ := Option.bind_eq_some_iff.1 h
        refine Go1.of (sem_iadrO (l := l) e4 (by rfl) (by rfl) (by rfl)) ?_
        simp only [wz, wd, ws, Nat.reduceAdd, Nat.reduceSub, Nat.reduceMul, Nat.reduceLeDiff, Nat.reduceEqDiff, Nat.reduceLT, Nat.reduceBEq, reduceIte, reduceCtorEq, Int.reduceToNat, Nat.reduceShiftRight, Nat.reduceAnd, Nat.reduceBneDiff, Nat.reduceBNe, c48r9, semI.eq_10, semI.eq_11, semI.eq_3, semI.eq_5, semI.eq_7, e_api_Disk, e_api_Write, er_get e4]
        obtain ⟨g5, h⟩ := gd_iff.1 h
        repeat (refine And.intro ?_ ?_; · first | omega | (simp only [List.length_append, List.length_cons, List.length_nil] at *; omega) | (intro q; simp only [wz, wd, ws, Nat.reduceAdd, Nat.reduceSub, Nat.reduceMul, Nat.reduceLeDiff, Nat.reduceEqDiff, Nat.reduceLT, Nat.reduceBEq, reduceIte, reduceCtorEq, Int.reduceToNat, Nat.reduceShiftRight, Nat.reduceAnd, Nat.reduceBneDiff, Nat.reduceBNe, q]; done))
        refine .eblk ?_
        refine .seq ?_
        refine RwD.walk ?_
        simp only [wz, wd, ws, Nat.reduceAdd, Nat.reduceSub, Nat.reduceMul, Nat.reduceLeDiff, Nat.reduceEqDiff, Nat.reduceLT, Nat.reduceBEq, reduceIte, reduceCtorEq, Int.reduceToNat, Nat.reduceShiftRight, Nat.reduceAnd, Nat.reduceBneDiff, Nat.reduceBNe, c48r10, semI.eq_3, semI.eq_5, semI.eq_7, e_api_Disk, e_api_Write, er_get e4]
        refine GoD1.of (semI.eq_10 ..) ?_
        simp only [wz, wd, ws, Nat.reduceAdd, Nat.reduceSub, Nat.reduceMul, Nat.reduceLeDiff, Nat.reduceEqDiff, Nat.reduceLT, Nat.reduceBEq, reduceIte, reduceCtorEq, Int.reduceToNat, Nat.reduceShiftRight, Nat.reduceAnd, Nat.reduceBneDiff, Nat.reduceBNe, c48r10, semI.eq_3, semI.eq_5, semI.eq_7, e_api_Disk, e_api_Write, er_get e4]
        refine GoD1.of (semI.eq_10 ..) ?_
        simp only [wz, wd, ws, Nat.reduceAdd, Nat.reduceSub, Nat.reduceMul, Nat.reduceLeDiff, Nat.reduceEqDiff, Nat.reduceLT, Nat.reduceBEq, reduceIte, reduceCtorEq, Int.reduceToNat, Nat.reduceShiftRight, Nat.reduceAnd, Nat.reduceBneDiff, Nat.reduceBNe, c48r10, semI.eq_3, semI.eq_5, semI.eq_7, e_api_Disk, e_api_Write, er_get e4]
        obtain ⟨g6, h⟩ := gd_iff.1 h
        obtain ⟨g7, h⟩ := gd_iff.1 h
        repeat (refine And.intro ?_ ?_; · first | omega | (simp only [List.length_append, List.length_cons, List.length_nil] at *; omega) | (intro q; simp only [wz, wd, ws, Nat.reduceAdd, Nat.reduceSub, Nat.reduceMul, Nat.reduceLeDiff, Nat.reduceEqDiff, Nat.reduceLT, Nat.reduceBEq, reduceIte, reduceCtorEq, Int.reduceToNat, Nat.reduceShiftRight, Nat.reduceAnd, Nat.reduceBneDiff, Nat.reduceBNe, q]; done))
        obtain ⟨x3, e8, h⟩ := Option.bind_eq_some_iff.1 h
        refine GoD1.of (sem_iadrO (l := l) e8 (by rfl) (by rfl) (by rfl)) ?_
        simp only [wz, wd, ws, Nat.reduceAdd, Nat.reduceSub, Nat.reduceMul, Nat.reduceLeDiff, Nat.reduceEqDiff, Nat.reduceLT, Nat.reduceBEq, reduceIte, reduceCtorEq, Int.reduceToNat, Nat.reduceShiftRight, Nat.reduceAnd, Nat.reduceBneDiff, Nat.reduceBNe, c48r10, semI.eq_3, semI.eq_5, semI.eq_7, e_api_Disk, e_api_Write, er_get e4, er_get e8]
        refine GoD1.of (sem_store (enc := eS) (l := l) (a := x3) (a' := ((cut x.Data 0 (IntKind.i64.wrap (128 - ((cut x2 64 (x2.length : Int)).length : Int)))) ++ (cut x2 64 (x2.length : Int)))) (v := .b (.s (.d (.str ((cut x.Data 0 (IntKind.i64.wrap (128 - ((cut x2 64 (x2.length : Int)).length : Int)))) ++ (cut x2 64 (x2.length : Int))))))) (by rfl) (by rfl) (er_get e8) (by rfl) (by trivial) (by rfl) (Nat.le_of_ble_eq_true (by rfl)) (by rfl)) ?_
        simp only [wz, wd, ws, Nat.reduceAdd, Nat.reduceSub, Nat.reduceMul, Nat.reduceLeDiff, Nat.reduceEqDiff, Nat.reduceLT, Nat.reduceBEq, reduceIte, reduceCtorEq, Int.reduceToNat, Nat.reduceShiftRight, Nat.reduceAnd, Nat.reduceBneDiff, Nat.reduceBNe, c48r10, semI.eq_3, semI.eq_5, semI.eq_7, e_api_Disk, e_api_Write, er_get e4, er_get e8]
        refine .exit rfl ?_
        refine .eblk ?_
        refine Rw.walk ?_
        simp only [wz, wd, ws, Nat.reduceAdd, Nat.reduceSub, Nat.reduceMul, Nat.reduceLeDiff, Nat.reduceEqDiff, Nat.reduceLT, Nat.reduceBEq, reduceIte, reduceCtorEq, Int.reduceToNat, Nat.reduceShiftRight, Nat.reduceAnd, Nat.reduceBneDiff, Nat.reduceBNe, c48r11, semI.eq_10, semI.eq_11, semI.eq_3, semI.eq_5, semI.eq_7, e_api_Disk, e_api_Write, er_get e4, er_get e8]
        refine .lp ?_
        refine .weak (Imp.co [] _ _ ?_ ?_ ?_ ?_ ?_) (ih (IntKind.i64.wrap (v15 + 1)) (l.set x.At.toNat ((cut x.Data 0 (IntKind.i64.wrap (128 - ((cut x2 64 (x2.length : Int)).length : Int)))) ++ (cut x2 64 (x2.length : Int)))) _ h k_ hx) <;> simp only [wz, wd, ws, Nat.reduceAdd, Nat.reduceSub, Nat.reduceMul, Nat.reduceLeDiff, Nat.reduceEqDiff, Nat.reduceLT, Nat.reduceBEq, reduceIte, reduceCtorEq, Int.reduceToNat, Nat.reduceShiftRight, Nat.reduceAnd, Nat.reduceBneDiff, Nat.reduceBNe, wi, er_nil, e_api_Disk, e_api_Write]
      · rw [ite_f h1] at h
        refine .skip ?_
        refine .seq ?_
        refine Rw.walk ?_
        simp only [wz, wd, ws, Nat.reduceAdd, Nat.reduceSub, Nat.reduceMul, Nat.reduceLeDiff, Nat.reduceEqDiff, Nat.reduceLT, Nat.reduceBEq, reduceIte, reduceCtorEq, Int.reduceToNat, Nat.reduceShiftRight, Nat.reduceAnd, Nat.reduceBneDiff, Nat.reduceBNe, c48r8, semI.eq_10, semI.eq_11, semI.eq_3, semI.eq_5, semI.eq_7, e_api_Disk, e_api_Write]
        refine .cond (p := (b == 1)) (by first | rfl | simp only [wz, wd, ws, Nat.reduceAdd, Nat.reduceSub, Nat.reduceMul, Nat.reduceLeDiff, Nat.reduceEqDiff, Nat.reduceLT, Nat.reduceBEq, reduceIte, reduceCtorEq, Int.reduceToNat, Nat.reduceShiftRight, Nat.reduceAnd, Nat.reduceBneDiff, Nat.reduceBNe]) (fun h1 => ?_) (fun h1 => ?_)
        · rw [ite_t h1] at h
          refine .exit rfl ?_
          refine .seq ?_
          refine RwD.walk ?_
          simp only [wz, wd, ws, Nat.reduceAdd, Nat.reduceSub, Nat.reduceMul, Nat.reduceLeDiff, Nat.reduceEqDiff, Nat.reduceLT, Nat.reduceBEq, reduceIte, reduceCtorEq, Int.reduceToNat, Nat.reduceShiftRight, Nat.reduceAnd, Nat.reduceBneDiff, Nat.reduceBNe, c48r10, semI.eq_3, semI.eq_5, semI.eq_7, e_api_Disk, e_api_Write]
          refine GoD1.of (semI.eq_10 ..) ?_
          simp only [wz, wd, ws, Nat.reduceAdd, Nat.reduceSub, Nat.reduceMul, Nat.reduceLeDiff, Nat.reduceEqDiff, Nat.reduceLT, Nat.reduceBEq, reduceIte, reduceCtorEq, Int.reduceToNat, Nat.reduceShiftRight, Nat.reduceAnd, Nat.reduceBneDiff, Nat.reduceBNe, c48r10, semI.eq_3, semI.eq_5, semI.eq_7, e_api_Disk, e_api_Write]
          refine GoD1.of (semI.eq_10 ..) ?_
          simp only [wz, wd, ws, Nat.reduceAdd, Nat.reduceSub, Nat.reduceMul, Nat.reduceLeDiff, Nat.reduceEqDiff, Nat.reduceLT, Nat.reduceBEq, reduceIte, reduceCtorEq, Int.reduceToNat, Nat.reduceShiftRight, Nat.reduceAnd, Nat.reduceBneDiff, Nat.reduceBNe, c48r10, semI.eq_3, semI.eq_5, semI.eq_7, e_api_Disk, e_api_Write]
          obtain ⟨g9, h⟩ := gd_iff.1 h
          obtain ⟨g10, h⟩ := gd_iff.1 h
          repeat (refine And.intro ?_ ?_; · first | omega | (simp only [List.length_append, List.length_cons, List.length_nil] at *; omega) | (intro q; simp only [wz, wd, ws, Nat.reduceAdd, Nat.reduceSub, Nat.reduceMul, Nat.reduceLeDiff, Nat.reduceEqDiff, Nat.reduceLT, Nat.reduceBEq, reduceIte, reduceCtorEq, Int.reduceToNat, Nat.reduceShiftRight, Nat.reduceAnd, Nat.reduceBneDiff, Nat.reduceBNe, q]; done))
          obtain ⟨x2, e11, h⟩ := Option.bind_eq_some_iff.1 h
          refine GoD1.of (sem_iadrO (l := l) e11 (by rfl) (by rfl) (by rfl)) ?_
          simp only [wz, wd, ws, Nat.reduceAdd, Nat.reduceSub, Nat.reduceMul, Nat.reduceLeDiff, Nat.reduceEqDiff, Nat.reduceLT, Nat.reduceBEq, reduceIte, reduceCtorEq, Int.reduceToNat, Nat.reduceShiftRight, Nat.reduceAnd, Nat.reduceBneDiff, Nat.reduceBNe, c48r10, semI.eq_3, semI.eq_5, semI.eq_7, e_api_Disk, e_api_Write, er_get e11]
          refine GoD1.of (sem_store (enc := eS) (l := l) (a := x2) (a' := (cut x.Data 0 (IntKind.i64.wrap (128 - 0)))) (v := .b (.s (.d (.str (cut x.Data 0 (IntKind.i64.wrap (128 - 0))))))) (by rfl) (by rfl) (er_get e11) (by rfl) (by trivial) (by rfl) (Nat.le_of_ble_eq_true (by rfl)) (by rfl)) ?_
          simp only [wz, wd, ws, Nat.reduceAdd, Nat.reduceSub, Nat.reduceMul, Nat.reduceLeDiff, Nat.reduceEqDiff, Nat.reduceLT, Nat.reduceBEq, reduceIte, reduceCtorEq, Int.reduceToNat, Nat.reduceShiftRight, Nat.reduceAnd, Nat.reduceBneDiff, Nat.reduceBNe, c48r10, semI.eq_3, semI.eq_5, semI.eq_7, e_api_Disk, e_api_Write, er_get e11]
          refine .exit rfl ?_
          refine .eblk ?_
          refine Rw.walk ?_
          simp only [wz, wd, ws, Nat.reduceAdd, Nat.reduceSub, Nat.reduceMul, Nat.reduceLeDiff, Nat.reduceEqDiff, Nat.reduceLT, Nat.reduceBEq, reduceIte, reduceCtorEq, Int.reduceToNat, Nat.reduceShiftRight, Nat.reduceAnd, Nat.reduceBneDiff, Nat.reduceBNe, c48r11, semI.eq_10, semI.eq_11, semI.eq_3, semI.eq_5, semI.eq_7, e_api_Disk, e_api_Write, er_get e11]
          refine .lp ?_
          refine .weak (Imp.co [] _ _ ?_ ?_ ?_ ?_ ?_) (ih (IntKind.i64.wrap (v15 + 1)) (l.set x.At.toNat (cut x.Data 0 (IntKind.i64.wrap (128 - 0)))) _ h k_ hx) <;> simp only [wz, wd, ws, Nat.reduceAdd, Nat.reduceSub, Nat.reduceMul, Nat.reduceLeDiff, Nat.reduceEqDiff, Nat.reduceLT, Nat.reduceBEq, reduceIte, reduceCtorEq, Int.reduceToNat, Nat.reduceShiftRight, Nat.reduceAnd, Nat.reduceBneDiff, Nat.reduceBNe, wi, er_nil, e_api_Disk, e_api_Write]
        · rw [ite_f h1] at h
          refine .skip ?_
          refine .exit rfl ?_
          refine .eblk ?_
          refine Rw.walk ?_
          simp only [wz, wd, ws, Nat.reduceAdd, Nat.reduceSub, Nat.reduceMul, Nat.reduceLeDiff, Nat.reduceEqDiff, Nat.reduceLT, Nat.reduceBEq, reduceIte, reduceCtorEq, Int.reduceToNat, Nat.reduceShiftRight, Nat.reduceAnd, Nat.reduceBneDiff, Nat.reduceBNe, c48r11, semI.eq_10, semI.eq_11, semI.eq_3, semI.eq_5, semI.eq_7, e_api_Disk, e_api_Write]
          refine .lp ?_
          refine .weak (Imp.co [] _ _ ?_ ?_ ?_ ?_ ?_) (ih (IntKind.i64.wrap (v15 + 1)) l _ h k_ hx) <;> simp only [wz, wd, ws, Nat.reduceAdd, Nat.reduceSub, Nat.reduceMul, Nat.reduceLeDiff, Nat.reduceEqDiff, Nat.reduceLT, Nat.reduceBEq, reduceIte, reduceCtorEq, Int.reduceToNat, Nat.reduceShiftRight, Nat.reduceAnd, Nat.reduceBneDiff, Nat.reduceBNe, wi, er_nil, e_api_Disk, e_api_Write]
    · rw [ite_f h1] at h
      refine .exit rfl ?_
      obtain rfl := Option.some.inj h
      refine .weak (Imp.co [] _ _ ?_ ?_ ?_ ?_ ?_) (hx _ rfl) <;> simp only [wz, wd, ws, Nat.reduceAdd, Nat.reduceSub, Nat.reduceMul, Nat.reduceLeDiff, Nat.reduceEqDiff, Nat.reduceLT, Nat.reduceBEq, reduceIte, reduceCtorEq, Int.reduceToNat, Nat.reduceShiftRight, Nat.reduceAnd, Nat.reduceBneDiff, Nat.reduceBNe, wi, er_nil, e_api_Disk, e_api_Write]
theorem f_disk_ends_ok (d : api_Disk) (fate_f : FuncId) (fate_c : List Sc) (fate : Int → Option (Int)) (fate_h : ∀ (a0 : Int) (r : Int), fate a0 = some r → Fun Try.prog glP fate_f (.b (.s (.d (.int .i64 a0))) :: fate_c.map fun x => .b (.s (.d x))) (.b (.s (.d (.int .i64 r))))) (y_ : api_Disk) (h : f_disk_ends d fate = some y_) : Fun Try.prog glP 48 [.b (.agg ((e_api_Disk d).map Lc.d)), .b (.s (.d (.clo fate_f fate_c)))] (.b (.agg ((e_api_Disk y_).map Lc.d))) := by
  refine fun_walk [11] Try.func48 Try.ntmps48 cc48 cr48 (by kernel_rfl) (by simp only [List.length_cons, List.length_nil]; decide) ?_
  generalize hR : Ret _ _ _ _ _ = R_
  simp only [wz, wd, ws, Nat.reduceAdd, Nat.reduceSub, Nat.reduceMul, Nat.reduceLeDiff, Nat.reduceEqDiff, Nat.reduceLT, Nat.reduceBEq, reduceIte, reduceCtorEq, Int.reduceToNat, Nat.reduceShiftRight, Nat.reduceAnd, Nat.reduceBneDiff, Nat.reduceBNe, e_api_Disk, e_api_Write]
  unfold f_disk_ends at h; unfold c48
  refine .seq ?_
  refine Rw.walk ?_
  simp only [wz, wd, ws, Nat.reduceAdd, Nat.reduceSub, Nat.reduceMul, Nat.reduceLeDiff, Nat.reduceEqDiff, Nat.reduceLT, Nat.reduceBEq, reduceIte, reduceCtorEq, Int.reduceToNat, Nat.reduceShiftRight, Nat.reduceAnd, Nat.reduceBneDiff, Nat.reduceBNe, c48r0, semI.eq_10, semI.eq_11, semI.eq_3, semI.eq_5, semI.eq_7, e_api_Disk, e_api_Write]
  refine .seq ?_
  refine Rw.walk ?_
  simp only [wz, wd, ws, Nat.reduceAdd, Nat.reduceSub, Nat.reduceMul, Nat.reduceLeDiff, Nat.reduceEqDiff, Nat.reduceLT, Nat.reduceBEq, reduceIte, reduceCtorEq, Int.reduceToNat, Nat.reduceShiftRight, Nat.reduceAnd, Nat.reduceBneDiff, Nat.reduceBNe, c48r1, semI.eq_10, semI.eq_11, semI.eq_3, semI.eq_5, semI.eq_7, e_api_Disk, e_api_Write]
  obtain ⟨t, e1, h⟩ := Option.bind_eq_some_iff.1 h
  refine call_funO' [] ⟨trivial, trivial, trivial⟩ rfl ?_ (f_slices_Clone_string_string_ok _ _ e1) rfl (.inl rfl) ?_
  · simp only [wz, wd, ws, Nat.reduceAdd, Nat.reduceSub, Nat.reduceMul, Nat.reduceLeDiff, Nat.reduceEqDiff, Nat.reduceLT, Nat.reduceBEq, reduceIte, reduceCtorEq, Int.reduceToNat, Nat.reduceShiftRight, Nat.reduceAnd, Nat.reduceBneDiff, Nat.reduceBNe, e_api_Disk, e_api_Write]
  simp only [wz, wd, ws, Nat.reduceAdd, Nat.reduceSub, Nat.reduceMul, Nat.reduceLeDiff, Nat.reduceEqDiff, Nat.reduceLT, Nat.reduceBEq, reduceIte, reduceCtorEq, Int.reduceToNat, Nat.reduceShiftRight, Nat.reduceAnd, Nat.reduceBneDiff, Nat.reduceBNe, c48r1, semI.eq_10, semI.eq_11, semI.eq_3, semI.eq_5, semI.eq_7, e_api_Disk, e_api_Write]
  refine .seq ?_
  refine .seq ?_
  refine Rw.walk ?_
  simp only [wz, wd, ws, Nat.reduceAdd, Nat.reduceSub, Nat.reduceMul, Nat.reduceLeDiff, Nat.reduceEqDiff, Nat.reduceLT, Nat.reduceBEq, reduceIte, reduceCtorEq, Int.reduceToNat, Nat.reduceShiftRight, Nat.reduceAnd, Nat.reduceBneDiff, Nat.reduceBNe, c48r2, semI.eq_10, semI.eq_11, semI.eq_3, semI.eq_5, semI.eq_7, e_api_Disk, e_api_Write]
  refine .blk ?_
  obtain ⟨s, hf, h⟩ := Option.bind_eq_some_iff.1 h
  refine .loop (.weak (Imp.co [] _ _ ?c1 ?c2 ?c3 ?c4 ?c5) (f_disk_ends_l12_ok d fate_f fate_c fate fate_h _ _ hR _ _ _ _ hf _ ?_))
  case c1 | c2 | c3 | c4 | c5 => simp only [wz, wd, ws, Nat.reduceAdd, Nat.reduceSub, Nat.reduceMul, Nat.reduceLeDiff, Nat.reduceEqDiff, Nat.reduceLT, Nat.reduceBEq, reduceIte, reduceCtorEq, Int.reduceToNat, Nat.reduceShiftRight, Nat.reduceAnd, Nat.reduceBneDiff, Nat.reduceBNe, wi, er_nil, e_api_Disk, e_api_Write]
  · intro s_ hs; subst hs
    refine .seq ?_
    refine Rw.walk ?_
    simp only [wz, wd, ws, Nat.reduceAdd, Nat.reduceSub, Nat.reduceMul, Nat.reduceLeDiff, Nat.reduceEqDiff, Nat.reduceLT, Nat.reduceBEq, reduceIte, reduceCtorEq, Int.reduceToNat, Nat.reduceShiftRight, Nat.reduceAnd, Nat.reduceBneDiff, Nat.reduceBNe, c48r12, semI.eq_10, semI.eq_11, semI.eq_3, semI.eq_5, semI.eq_7, e_api_Disk, e_api_Write]
    obtain rfl := Option.some.inj h
    refine .ret ?_
    rw [← hR]
    simp only [wz, wd, ws, Nat.reduceAdd, Nat.reduceSub, Nat.reduceMul, Nat.reduceLeDiff, Nat.reduceEqDiff, Nat.reduceLT, Nat.reduceBEq, reduceIte, reduceCtorEq, Int.reduceToNat, Nat.reduceShiftRight, Nat.reduceAnd, Nat.reduceBneDiff, Nat.reduceBNe, rv48, semI.eq_10, e_api_Disk, e_api_Write]
-- 49 consignor/disk.Flush$1
def c49r0 : List Opn := [
  ⟨(some 2), none, .mv (.c (.s (.d (.int .i64 0))))⟩]
def c49r1 : List Opn := [
  ⟨(some 2), none, .mv (.c (.s (.d (.int .i64 1))))⟩]
def c49 : C := .seq (.reg c49r0 none []) (.seq (.reg c49r1 none [2]) (.ret))
def k49 : List (Nat × List Nat) := [(1, [2]), (0, [])]
theorem cc49 : (Try.f49.body).bind (cC Try.prog 3 k49) = some c49 := by kernel_rfl
def rv49 : List RV := [.t 2]
theorem cr49 : cRVs Try.prog Try.f49.results.toList = some rv49 := by kernel_rfl
theorem f_disk_Flush_1_ok (p0 : Int) (y_ : Int) (h : f_disk_Flush_1 p0 = some y_) : Fun Try.prog glP 49 [.b (.s (.d (.int .i64 p0)))] (.b (.s (.d (.int .i64 y_)))) := by
  refine fun_walk [] Try.func49 Try.ntmps49 cc49 cr49 (by kernel_rfl) (by simp only [List.length_cons, List.length_nil]; decide) ?_
  generalize hR : Ret _ _ _ _ _ = R_
  simp only [wz, wd, ws, Nat.reduceAdd, Nat.reduceSub, Nat.reduceMul, Nat.reduceLeDiff, Nat.reduceEqDiff, Nat.reduceLT, Nat.reduceBEq, reduceIte, reduceCtorEq, Int.reduceToNat, Nat.reduceShiftRight, Nat.reduceAnd, Nat.reduceBneDiff, Nat.reduceBNe]
  unfold f_disk_Flush_1 at h; unfold c49
  refine .seq ?_
  refine Rw.walk ?_
  simp only [wz, wd, ws, Nat.reduceAdd, Nat.reduceSub, Nat.reduceMul, Nat.reduceLeDiff, Nat.reduceEqDiff, Nat.reduceLT, Nat.reduceBEq, reduceIte, reduceCtorEq, Int.reduceToNat, Nat.reduceShiftRight, Nat.reduceAnd, Nat.reduceBneDiff, Nat.reduceBNe, c49r0, semI.eq_10, semI.eq_11, semI.eq_3, semI.eq_5, semI.eq_7]
  refine .seq ?_
  refine Rw.walk ?_
  simp only [wz, wd, ws, Nat.reduceAdd, Nat.reduceSub, Nat.reduceMul, Nat.reduceLeDiff, Nat.reduceEqDiff, Nat.reduceLT, Nat.reduceBEq, reduceIte, reduceCtorEq, Int.reduceToNat, Nat.reduceShiftRight, Nat.reduceAnd, Nat.reduceBneDiff, Nat.reduceBNe, c49r1, semI.eq_10, semI.eq_11, semI.eq_3, semI.eq_5, semI.eq_7]
  obtain rfl := Option.some.inj h
  refine .ret ?_
  rw [← hR]
  simp only [wz, wd, ws, Nat.reduceAdd, Nat.reduceSub, Nat.reduceMul, Nat.reduceLeDiff, Nat.reduceEqDiff, Nat.reduceLT, Nat.reduceBEq, reduceIte, reduceCtorEq, Int.reduceToNat, Nat.reduceShiftRight, Nat.reduceAnd, Nat.reduceBneDiff, Nat.reduceBNe, rv49]
-- 28 consignor/disk.Flush
def c28r0 : List Opn := [
  ⟨(some 1), none, .box 2 (.t 0)⟩, 
  ⟨(some 2), none, .new [.nils, .nils]⟩, 
  ⟨(some 3), none, .mv (.c (.s (.d (.int .i64 0))))⟩]
def c28r1 : List Opn := [
  ⟨(some 4), none, .load true 2 (.t 1)⟩, 
  ⟨(some 5), none, .call (.fn 31) [(.t 4)]⟩, 
  ⟨(some 6), none, .un .not (.t 5)⟩]
def c28r2 : List Opn := [
  ⟨(some 7), none, .build [.nils, .nils] []⟩, 
  ⟨none, none, .store 2 (.t 2) (.t 7)⟩, 
  ⟨(some 3), none, .mv (.c (.s (.d (.int .i64 1))))⟩]
def c28r3 : List Opn := [
  ⟨(some 8), none, .load true 2 (.t 1)⟩, 
  ⟨(some 9), none, .call (.fn 48) [(.t 8), (.fn 49)]⟩, 
  ⟨none, none, .store 2 (.t 2) (.t 9)⟩, 
  ⟨(some 3), none, .mv (.c (.s (.d (.int .i64 0))))⟩]
def c28 : C := .seq (.reg c28r0 none [1, 2]) (.seq (.seq (.reg c28r1 none [1, 2, 6]) (.cond (.t 6) (.seq (.reg c28r2 none [2, 3]) (.ret)) (.skip))) (.seq (.reg c28r3 none [2, 3]) (.ret)))
def k28 : List (Nat × List Nat) := [(3, [2, 3]), (2, [2, 3]), (1, [1, 2, 6]), (0, [1, 2])]
theorem cc28 : (Try.f28.body).bind (cC Try.prog 10 k28) = some c28 := by kernel_rfl
def rv28 : List RV := [.c 2 true 2, .t 3]
theorem cr28 : cRVs Try.prog Try.f28.results.toList = some rv28 := by kernel_rfl
theorem f_disk_Flush_ok (d : api_Disk) (y_ : api_Disk × Int) (h : f_disk_Flush d = some y_) : Fun Try.prog glP 28 [.b (.agg ((e_api_Disk d).map Lc.d))] (.tup [.agg ((e_api_Disk y_.1).map Lc.d), .s (.d (.int .i64 y_.2))]) := by
  refine fun_walk [] Try.func28 Try.ntmps28 cc28 cr28 (by kernel_rfl) (by simp only [List.length_cons, List.length_nil]; decide) ?_
  generalize hR : Ret _ _ _ _ _ = R_
  simp only [wz, wd, ws, Nat.reduceAdd, Nat.reduceSub, Nat.reduceMul, Nat.reduceLeDiff, Nat.reduceEqDiff, Nat.reduceLT, Nat.reduceBEq, reduceIte, reduceCtorEq, Int.reduceToNat, Nat.reduceShiftRight, Nat.reduceAnd, Nat.reduceBneDiff, Nat.reduceBNe, e_api_Disk, e_api_Write]
  unfold f_disk_Flush at h; unfold c28
  refine .seq ?_
  refine Rw.walk ?_
  simp only [wz, wd, ws, Nat.reduceAdd, Nat.reduceSub, Nat.reduceMul, Nat.reduceLeDiff, Nat.reduceEqDiff, Nat.reduceLT, Nat.reduceBEq, reduceIte, reduceCtorEq, Int.reduceToNat, Nat.reduceShiftRight, Nat.reduceAnd, Nat.reduceBneDiff, Nat.reduceBNe, c28r0, semI.eq_10, semI.eq_11, semI.eq_3, semI.eq_5, semI.eq_7, e_api_Disk, e_api_Write]
  refine .seq ?_
  refine .seq ?_
  refine Rw.walk ?_
  simp only [wz, wd, ws, Nat.reduceAdd, Nat.reduceSub, Nat.reduceMul, Nat.reduceLeDiff, Nat.reduceEqDiff, Nat.reduceLT, Nat.reduceBEq, reduceIte, reduceCtorEq, Int.reduceToNat, Nat.reduceShiftRight, Nat.reduceAnd, Nat.reduceBneDiff, Nat.reduceBNe, c28r1, semI.eq_10, semI.eq_11, semI.eq_3, semI.eq_5, semI.eq_7, e_api_Disk, e_api_Write]
  obtain ⟨t, e1, h⟩ := Option.bind_eq_some_iff.1 h
  refine call_fun [] false ⟨trivial, trivial, trivial⟩ rfl ?_ (f_disk_Right_ok _ _ e1) (fun _ => rfl) (fun i hi => by cases hi) ?_
  · simp only [wz, wd, ws, Nat.reduceAdd, Nat.reduceSub, Nat.reduceMul, Nat.reduceLeDiff, Nat.reduceEqDiff, Nat.reduceLT, Nat.reduceBEq, reduceIte, reduceCtorEq, Int.reduceToNat, Nat.reduceShiftRight, Nat.reduceAnd, Nat.reduceBneDiff, Nat.reduceBNe, e_api_Disk, e_api_Write]
  simp only [wz, wd, ws, Nat.reduceAdd, Nat.reduceSub, Nat.reduceMul, Nat.reduceLeDiff, Nat.reduceEqDiff, Nat.reduceLT, Nat.reduceBEq, reduceIte, reduceCtorEq, Int.reduceToNat, Nat.reduceShiftRight, Nat.reduceAnd, Nat.reduceBneDiff, Nat.reduceBNe, c28r1, semI.eq_10, semI.eq_11, semI.eq_3, semI.eq_5, semI.eq_7, e_api_Disk, e_api_Write]
  refine .cond (p := (!t)) (by first | rfl | simp only [wz, wd, ws, Nat.reduceAdd, Nat.reduceSub, Nat.reduceMul, Nat.reduceLeDiff, Nat.reduceEqDiff, Nat.reduceLT, Nat.reduceBEq, reduceIte, reduceCtorEq, Int.reduceToNat, Nat.reduceShiftRight, Nat.reduceAnd, Nat.reduceBneDiff, Nat.reduceBNe]) (fun h1 => ?_) (fun h1 => ?_)
  · rw [ite_t h1] at h
    refine .seq ?_
    refine Rw.walk ?_
    simp only [wz, wd, ws, Nat.reduceAdd, Nat.reduceSub, Nat.reduceMul, Nat.reduceLeDiff, Nat.reduceEqDiff, Nat.reduceLT, Nat.reduceBEq, reduceIte, reduceCtorEq, Int.reduceToNat, Nat.reduceShiftRight, Nat.reduceAnd, Nat.reduceBneDiff, Nat.reduceBNe, c28r2, semI.eq_10, semI.eq_11, semI.eq_3, semI.eq_5, semI.eq_7, e_api_Disk, e_api_Write]
    obtain rfl := Option.some.inj h
    refine .ret ?_
    rw [← hR]
    simp only [wz, wd, ws, Nat.reduceAdd, Nat.reduceSub, Nat.reduceMul, Nat.reduceLeDiff, Nat.reduceEqDiff, Nat.reduceLT, Nat.reduceBEq, reduceIte, reduceCtorEq, Int.reduceToNat, Nat.reduceShiftRight, Nat.reduceAnd, Nat.reduceBneDiff, Nat.reduceBNe, rv28, semI.eq_10, e_api_Disk, e_api_Write]
  · rw [ite_f h1] at h
    refine .skip ?_
    refine .seq ?_
    refine Rw.walk ?_
    simp only [wz, wd, ws, Nat.reduceAdd, Nat.reduceSub, Nat.reduceMul, Nat.reduceLeDiff, Nat.reduceEqDiff, Nat.reduceLT, Nat.reduceBEq, reduceIte, reduceCtorEq, Int.reduceToNat, Nat.reduceShiftRight, Nat.reduceAnd, Nat.reduceBneDiff, Nat.reduceBNe, c28r3, semI.eq_10, semI.eq_11, semI.eq_3, semI.eq_5, semI.eq_7, e_api_Disk, e_api_Write]
    obtain ⟨t2, e2, h⟩ := Option.bind_eq_some_iff.1 h
    refine call_fun [] true ⟨trivial, trivial, trivial, trivial⟩ rfl ?_ (f_disk_ends_ok _ 49 [] f_disk_Flush_1 (fun a0 r hr => f_disk_Flush_1_ok a0 r hr) _ e2) (fun h => by cases h) (fun i hi => by cases hi) ?_
    · simp only [wz, wd, ws, Nat.reduceAdd, Nat.reduceSub, Nat.reduceMul, Nat.reduceLeDiff, Nat.reduceEqDiff, Nat.reduceLT, Nat.reduceBEq, reduceIte, reduceCtorEq, Int.reduceToNat, Nat.reduceShiftRight, Nat.reduceAnd, Nat.reduceBneDiff, Nat.reduceBNe, e_api_Disk, e_api_Write]
    simp only [wz, wd, ws, Nat.reduceAdd, Nat.reduceSub, Nat.reduceMul, Nat.reduceLeDiff, Nat.reduceEqDiff, Nat.reduceLT, Nat.reduceBEq, reduceIte, reduceCtorEq, Int.reduceToNat, Nat.reduceShiftRight, Nat.reduceAnd, Nat.reduceBneDiff, Nat.reduceBNe, c28r3, semI.eq_10, semI.eq_11, semI.eq_3, semI.eq_5, semI.eq_7, e_api_Disk, e_api_Write]
    obtain rfl := Option.some.inj h
    refine .ret ?_
    rw [← hR]
    simp only [wz, wd, ws, Nat.reduceAdd, Nat.reduceSub, Nat.reduceMul, Nat.reduceLeDiff, Nat.reduceEqDiff, Nat.reduceLT, Nat.reduceBEq, reduceIte, reduceCtorEq, Int.reduceToNat, Nat.reduceShiftRight, Nat.reduceAnd, Nat.reduceBneDiff, Nat.reduceBNe, rv28, semI.eq_10, e_api_Disk, e_api_Write]
-- 43 consignor/ledger.done
def c43r0 : List Opn := [
  ⟨(some 3), none, .box 6 (.t 0)⟩, 
  ⟨(some 6), none, .new [.nils, .nils, (.d (.int .i64 0)), (.d (.int .i64 0)), (.d (.int .i64 0)), .nils]⟩, 
  ⟨(some 7), none, .mv (.c (.s (.d (.int .i64 0))))⟩]
def c43r1 : List Opn := [
  ⟨(some 14), none, .load true 6 (.t 3)⟩, 
  ⟨(some 15), none, .mv (.t 1)⟩, 
  ⟨(some 16), none, .mv (.t 2)⟩, 
  ⟨(some 17), none, .call (.fn 21) [(.t 14), (.t 15), (.t 16)]⟩, 
  ⟨(some 13), none, .mv (.t 17)⟩, 
  ⟨(some 18), none, .ext (.t 13) 0⟩, 
  ⟨(some 19), none, .ext (.t 13) 1⟩, 
  ⟨(some 8), none, .mv (.t 18)⟩, 
  ⟨(some 9), none, .mv (.t 19)⟩]
def c43r2 : List Opn := [
  ⟨(some 20), none, .mv (.t 9)⟩, 
  ⟨(some 21), none, .bin .neq (.t 20) (.c (.s (.d (.int .i64 0))))⟩]
def c43r3 : List Opn := [
  ⟨(some 22), none, .build [.nils, .nils, (.d (.int .i64 0)), (.d (.int .i64 0)), (.d (.int .i64 0)), .nils] []⟩, 
  ⟨(some 23), none, .mv (.t 9)⟩, 
  ⟨none, none, .store 6 (.t 6) (.t 22)⟩, 
  ⟨(some 7), none, .mv (.t 23)⟩]
def c43r4 : List Opn := [
  ⟨(some 24), none, .fadr 0 (.t 3)⟩, 
  ⟨(some 25), none, .load true 2 (.t 24)⟩, 
  ⟨(some 10), none, .new [.nils, .nils]⟩, 
  ⟨none, none, .store 2 (.t 10) (.t 25)⟩]
def c43r5 : List Opn := [
  ⟨(some 26), none, .mv (.t 8)⟩, 
  ⟨(some 27), none, .len (.sl 0) (.t 26)⟩, 
  ⟨(some 28), none, .mv (.c (.s (.d (.int .i64 0))))⟩]
def c43r6 : List Opn := [
  ⟨(some 29), none, .bin .lss (.t 28) (.t 27)⟩]
def c43r7 : List Opn := [
  ⟨(some 30), none, .iadr (.sl 1) (.t 26) (.t 28)⟩, 
  ⟨(some 31), none, .load false 1 (.t 30)⟩, 
  ⟨(some 12), none, .mv (.t 31)⟩]
def c43r8 : List Opn := [
  ⟨(some 33), none, .load true 2 (.t 10)⟩, 
  ⟨(some 34), none, .mv (.t 12)⟩, 
  ⟨(some 35), none, .call (.fn 27) [(.t 33), (.t 34)]⟩, 
  ⟨(some 32), none, .mv (.t 35)⟩, 
  ⟨(some 36), none, .ext (.t 32) 0⟩, 
  ⟨(some 37), none, .ext (.t 32) 1⟩, 
  ⟨none, none, .store 2 (.t 10) (.t 36)⟩]
def c43r9 : List Opn := [
  ⟨(some 39), none, .load true 2 (.t 10)⟩, 
  ⟨(some 40), none, .call (.fn 28) [(.t 39)]⟩, 
  ⟨(some 38), none, .mv (.t 40)⟩, 
  ⟨(some 41), none, .ext (.t 38) 0⟩, 
  ⟨(some 42), none, .ext (.t 38) 1⟩, 
  ⟨none, none, .store 2 (.t 10) (.t 41)⟩]
def c43r10 : List Opn := [
  ⟨(some 43), none, .bin .add (.t 28) (.c (.s (.d (.int .i64 1))))⟩, 
  ⟨(some 28), none, .mv (.t 43)⟩]
def c43l11 : C := .seq (.reg c43r6 none [6, 10, 26, 27, 28, 29]) (.seq (.cond (.t 29) (.skip) (.exit 0)) (.seq (.blk 1 (.seq (.reg c43r7 none [6, 10, 12, 26, 27, 28]) (.seq (.reg c43r8 none [6, 10, 26, 27, 28]) (.reg c43r9 none [6, 10, 26, 27, 28])))) (.reg c43r10 none [6, 10, 26, 27, 28])))
def c43r11 : List Opn := [
  ⟨(some 44), none, .load true 2 (.t 10)⟩, 
  ⟨(some 45), none, .call (.fn 10) [(.t 44)]⟩, 
  ⟨(some 46), none, .ext (.t 45) 0⟩, 
  ⟨(some 47), none, .ext (.t 45) 1⟩, 
  ⟨none, none, .store 6 (.t 6) (.t 46)⟩, 
  ⟨(some 7), none, .mv (.t 47)⟩]
def c43 : C := .seq (.reg c43r0 none [1, 2, 3, 6]) (.seq (.reg c43r1 none [3, 6, 8, 9]) (.seq (.seq (.reg c43r2 none [3, 6, 8, 9, 21]) (.cond (.t 21) (.seq (.reg c43r3 none [6, 7]) (.ret)) (.skip))) (.seq (.reg c43r4 none [6, 8, 10]) (.seq (.seq (.reg c43r5 none [6, 10, 26, 27, 28]) (.blk 0 (.loop c43l11))) (.seq (.reg c43r11 none [6, 7]) (.ret))))))
def k43 : List (Nat × List Nat) := [(11, [6, 7]), (10, [6, 10, 26, 27, 28]), (9, [6, 10, 26, 27, 28]), (8, [6, 10, 26, 27, 28]), (7, [6, 10, 12, 26, 27, 28]), (6, [6, 10, 26, 27, 28, 29]), (5, [6, 10, 26, 27, 28]), (4, [6, 8, 10]), (3, [6, 7]), (2, [3, 6, 8, 9, 21]), (1, [3, 6, 8, 9]), (0, [1, 2, 3, 6])]
theorem cc43 : (Try.f43.body).bind (cC Try.prog 48 k43) = some c43 := by kernel_rfl
def rv43 : List RV := [.c 6 true 6, .t 7]
theorem cr43 : cRVs Try.prog Try.f43.results.toList = some rv43 := by kernel_rfl
theorem f_ledger_done_l11_ok (t : (List (List api_Write)) × Int) (y_ : api_Ledger × Int) (R_ : St → Prop) (hR : (Ret Try.prog glP [] rv43 (.tup [.agg ((e_api_Ledger y_.1).map Lc.d), .s (.d (.int .i64 y_.2))])) = R_) : ∀ (m_ : Nat) (v28 : Int) (d : (List Str)) (d2 : (List api_Write)) (res_ : Int × (List Str) × (List api_Write)) (h : f_ledger_done_l11 t m_ v28 d d2 = some res_) (k_ : List It) (hx : ∀ s_ : Int × (List Str) × (List api_Write), res_ = s_ → W Try.prog glP 48 k_ ⟨lkT [(6, .b (.s (.ptr 6 1 0 0))), (10, .b (.s (.ptr 10 1 0 0))), (26, .b (.s (.d (.sl (t.1.map (eL e_api_Write)))))), (27, .b (.s (.d (.int .i64 (t.1.length : Int))))), (28, .b (.s (.d (.int .i64 s_.1))))], lkG [(6, ⟨6, [[.nils, .nils, (.d (.int .i64 0)), (.d (.int .i64 0)), (.d (.int .i64 0)), .nils]], false⟩), (10, ⟨2, [[(.d (.sl (s_.2.1.map eS))), (.d (.sl (s_.2.2.map e_api_Write)))]], false⟩)]⟩ R_), W Try.prog glP 48 (.c c43l11 :: .lp c43l11 :: .blk 0 :: k_) ⟨lkT [(6, .b (.s (.ptr 6 1 0 0))), (10, .b (.s (.ptr 10 1 0 0))), (26, .b (.s (.d (.sl (t.1.map (eL e_api_Write)))))), (27, .b (.s (.d (.int .i64 (t.1.length : Int))))), (28, .b (.s (.d (.int .i64 v28))))], lkG [(6, ⟨6, [[.nils, .nils, (.d (.int .i64 0)), (.d (.int .i64 0)), (.d (.int .i64 0)), .nils]], false⟩), (10, ⟨2, [[(.d (.sl (d.map eS))), (.d (.sl (d2.map e_api_Write)))]], false⟩)]⟩ R_ := by
  intro m_; induction m_ with
  | zero => intro v28 d d2 res_ h; rw [f_ledger_done_l11.eq_1] at h; cases h
  | succ m_ ih =>
    intro v28 d d2 res_ h k_ hx; rw [f_ledger_done_l11.eq_2] at h; refine W.cdef c43l11.eq_1 ?_
    refine .seq ?_
    refine Rw.walk ?_
    simp only [wz, wd, ws, Nat.reduceAdd, Nat.reduceSub, Nat.reduceMul, Nat.reduceLeDiff, Nat.reduceEqDiff, Nat.reduceLT, Nat.reduceBEq, reduceIte, reduceCtorEq, Int.reduceToNat, Nat.reduceShiftRight, Nat.reduceAnd, Nat.reduceBneDiff, Nat.reduceBNe, c43r6, semI.eq_10, semI.eq_11, semI.eq_3, semI.eq_5, semI.eq_7, e_api_Ledger, e_api_Disk, e_api_Write]
    refine .seq ?_
    refine .cond (p := (decide (v28 < (t.1.length : Int)))) (by first | rfl | simp only [wz, wd, ws, Nat.reduceAdd, Nat.reduceSub, Nat.reduceMul, Nat.reduceLeDiff, Nat.reduceEqDiff, Nat.reduceLT, Nat.reduceBEq, reduceIte, reduceCtorEq, Int.reduceToNat, Nat.reduceShiftRight, Nat.reduceAnd, Nat.reduceBneDiff, Nat.reduceBNe]) (fun h1 => ?_) (fun h1 => ?_)
    · rw [ite_t h1] at h
      refine .skip ?_
      refine .seq ?_
      refine .blk ?_
      refine .seq ?_
      refine Rw.walk ?_
      simp only [wz, wd, ws, Nat.reduceAdd, Nat.reduceSub, Nat.reduceMul, Nat.reduceLeDiff, Nat.reduceEqDiff, Nat.reduceLT, Nat.reduceBEq, reduceIte, reduceCtorEq, Int.reduceToNat, Nat.reduceShiftRight, Nat.reduceAnd, Nat.reduceBneDiff, Nat.reduceBNe, c43r7, semI.eq_10, semI.eq_11, semI.eq_3, semI.eq_5, semI.eq_7, e_api_Ledger, e_api_Disk, e_api_Write]
      obtain ⟨x, e2, h⟩ := Option.bind_eq_some_iff.1 h
      refine Go1.of (sem_iadr (eL_len _) e2 (by rfl) (by rfl)) ?_
      simp only [wz, wd, ws, Nat.reduceAdd, Nat.reduceSub, Nat.reduceMul, Nat.reduceLeDiff, Nat.reduceEqDiff, Nat.reduceLT, Nat.reduceBEq, reduceIte, reduceCtorEq, Int.reduceToNat, Nat.reduceShiftRight, Nat.reduceAnd, Nat.reduceBneDiff, Nat.reduceBNe, c43r7, semI.eq_10, semI.eq_11, semI.eq_3, semI.eq_5, semI.eq_7, e_api_Ledger, e_api_Disk, e_api_Write]
      refine .seq ?_
      refine Rw.walk ?_
      simp only [wz, wd, ws, Nat.reduceAdd, Nat.reduceSub, Nat.reduceMul, Nat.reduceLeDiff, Nat.reduceEqDiff, Nat.reduceLT, Nat.reduceBEq, reduceIte, reduceCtorEq, Int.reduceToNat, Nat.reduceShiftRight, Nat.reduceAnd, Nat.reduceBneDiff, Nat.reduceBNe, c43r8, semI.eq_10, semI.eq_11, semI.eq_3, semI.eq_5, semI.eq_7, e_api_Ledger, e_api_Disk, e_api_Write]
      obtain ⟨t2, e3, h⟩ := Option.bind_eq_some_iff.1 h
      refine call_fun [] true ⟨trivial, trivial, trivial, trivial⟩ rfl ?_ (f_disk_Save_ok _ _ _ e3) (fun h => by cases h) (fun i hi => by cases hi) ?_
      · simp only [wz, wd, ws, Nat.reduceAdd, Nat.reduceSub, Nat.reduceMul, Nat.reduceLeDiff, Nat.reduceEqDiff, Nat.reduceLT, Nat.reduceBEq, reduceIte, reduceCtorEq, Int.reduceToNat, Nat.reduceShiftRight, Nat.reduceAnd, Nat.reduceBneDiff, Nat.reduceBNe, e_api_Ledger, e_api_Disk, e_api_Write]
      simp only [wz, wd, ws, Nat.reduceAdd, Nat.reduceSub, Nat.reduceMul, Nat.reduceLeDiff, Nat.reduceEqDiff, Nat.reduceLT, Nat.reduceBEq, reduceIte, reduceCtorEq, Int.reduceToNat, Nat.reduceShiftRight, Nat.reduceAnd, Nat.reduceBneDiff, Nat.reduceBNe, c43r8, semI.eq_10, semI.eq_11, semI.eq_3, semI.eq_5, semI.eq_7, e_api_Ledger, e_api_Disk, e_api_Write]
      refine Rw.walk ?_
      simp only [wz, wd, ws, Nat.reduceAdd, Nat.reduceSub, Nat.reduceMul, Nat.reduceLeDiff, Nat.reduceEqDiff, Nat.reduceLT, Nat.reduceBEq, reduceIte, reduceCtorEq, Int.reduceToNat, Nat.reduceShiftRight, Nat.reduceAnd, Nat.reduceBneDiff, Nat.reduceBNe, c43r9, semI.eq_10, semI.eq_11, semI.eq_3, semI.eq_5, semI.eq_7, e_api_Ledger, e_api_Disk, e_api_Write]
      obtain ⟨t3, e4, h⟩ := Option.bind_eq_some_iff.1 h
      refine call_fun [] true ⟨trivial, trivial, trivial⟩ rfl ?_ (f_disk_Flush_ok _ _ e4) (fun h => by cases h) (fun i hi => by cases hi) ?_
      · simp only [wz, wd, ws, Nat.reduceAdd, Nat.reduceSub, Nat.reduceMul, Nat.reduceLeDiff, Nat.reduceEqDiff, Nat.reduceLT, Nat.reduceBEq, reduceIte, reduceCtorEq, Int.reduceToNat, Nat.reduceShiftRight, Nat.reduceAnd, Nat.reduceBneDiff, Nat.reduceBNe, e_api_Ledger, e_api_Disk, e_api_Write]
      simp only [wz, wd, ws, Nat.reduceAdd, Nat.reduceSub, Nat.reduceMul, Nat.reduceLeDiff, Nat.reduceEqDiff, Nat.reduceLT, Nat.reduceBEq, reduceIte, reduceCtorEq, Int.reduceToNat, Nat.reduceShiftRight, Nat.reduceAnd, Nat.reduceBneDiff, Nat.reduceBNe, c43r9, semI.eq_10, semI.eq_11, semI.eq_3, semI.eq_5, semI.eq_7, e_api_Ledger, e_api_Disk, e_api_Write]
      refine .eblk ?_
      refine Rw.walk ?_
      simp only [wz, wd, ws, Nat.reduceAdd, Nat.reduceSub, Nat.reduceMul, Nat.reduceLeDiff, Nat.reduceEqDiff, Nat.reduceLT, Nat.reduceBEq, reduceIte, reduceCtorEq, Int.reduceToNat, Nat.reduceShiftRight, Nat.reduceAnd, Nat.reduceBneDiff, Nat.reduceBNe, c43r10, semI.eq_10, semI.eq_11, semI.eq_3, semI.eq_5, semI.eq_7, e_api_Ledger, e_api_Disk, e_api_Write]
      refine .lp ?_
      refine .weak (Imp.co [] _ _ ?_ ?_ ?_ ?_ ?_) (ih (IntKind.i64.wrap (v28 + 1)) t3.1.Sectors t3.1.Dirty _ h k_ hx) <;> simp only [wz, wd, ws, Nat.reduceAdd, Nat.reduceSub, Nat.reduceMul, Nat.reduceLeDiff, Nat.reduceEqDiff, Nat.reduceLT, Nat.reduceBEq, reduceIte, reduceCtorEq, Int.reduceToNat, Nat.reduceShiftRight, Nat.reduceAnd, Nat.reduceBneDiff, Nat.reduceBNe, wi, er_nil, e_api_Ledger, e_api_Disk, e_api_Write]
    · rw [ite_f h1] at h
      refine .exit rfl ?_
      obtain rfl := Option.some.inj h
      refine .weak (Imp.co [] _ _ ?_ ?_ ?_ ?_ ?_) (hx _ rfl) <;> simp only [wz, wd, ws, Nat.reduceAdd, Nat.reduceSub, Nat.reduceMul, Nat.reduceLeDiff, Nat.reduceEqDiff, Nat.reduceLT, Nat.reduceBEq, reduceIte, reduceCtorEq, Int.reduceToNat, Nat.reduceShiftRight, Nat.reduceAnd, Nat.reduceBneDiff, Nat.reduceBNe, wi, er_nil, e_api_Ledger, e_api_Disk, e_api_Write]
theorem f_ledger_done_ok (l : api_Ledger) (renew : Bool) (news : (List Str)) (y_ : api_Ledger × Int) (h : f_ledger_done l renew news = some y_) : Fun Try.prog glP 43 [.b (.agg ((e_api_Ledger l).map Lc.d)), .b (.s (.d (.bool renew))), .b (.s (.d (.sl (news.map eS))))] (.tup [.agg ((e_api_Ledger y_.1).map Lc.d), .s (.d (.int .i64 y_.2))]) := by
  refine fun_walk [] Try.func43 Try.ntmps43 cc43 cr43 (by kernel_rfl) (by simp only [List.length_cons, List.length_nil]; decide) ?_
  generalize hR : Ret _ _ _ _ _ = R_
  simp only [wz, wd, ws, Nat.reduceAdd, Nat.reduceSub, Nat.reduceMul, Nat.reduceLeDiff, Nat.reduceEqDiff, Nat.reduceLT, Nat.reduceBEq, reduceIte, reduceCtorEq, Int.reduceToNat, Nat.reduceShiftRight, Nat.reduceAnd, Nat.reduceBneDiff, Nat.reduceBNe, e_api_Ledger, e_api_Disk, e_api_Write]
  unfold f_ledger_done at h; unfold c43
  refine .seq ?_
  refine Rw.walk ?_
  simp only [wz, wd, ws, Nat.reduceAdd, Nat.reduceSub, Nat.reduceMul, Nat.reduceLeDiff, Nat.reduceEqDiff, Nat.reduceLT, Nat.reduceBEq, reduceIte, reduceCtorEq, Int.reduceToNat, Nat.reduceShiftRight, Nat.reduceAnd, Nat.reduceBneDiff, Nat.reduceBNe, c43r0, semI.eq_10, semI.eq_11, semI.eq_3, semI.eq_5, semI.eq_7, e_api_Ledger, e_api_Disk, e_api_Write]
  refine .seq ?_
  refine Rw.walk ?_
  simp only [wz, wd, ws, Nat.reduceAdd, Nat.reduceSub, Nat.reduceMul, Nat.reduceLeDiff, Nat.reduceEqDiff, Nat.reduceLT, Nat.reduceBEq, reduceIte, reduceCtorEq, Int.reduceToNat, Nat.reduceShiftRight, Nat.reduceAnd, Nat.reduceBneDiff, Nat.reduceBNe, c43r1, semI.eq_10, semI.eq_11, semI.eq_3, semI.eq_5, semI.eq_7, e_api_Ledger, e_api_Disk, e_api_Write]
  obtain ⟨t, e1, h⟩ := Option.bind_eq_some_iff.1 h
  refine call_fun [] true ⟨trivial, trivial, trivial, trivial, trivial⟩ rfl ?_ (f_ledger_Steps_ok _ _ _ _ e1) (fun h => by cases h) (fun i hi => by cases hi) ?_
  · simp only [wz, wd, ws, Nat.reduceAdd, Nat.reduceSub, Nat.reduceMul, Nat.reduceLeDiff, Nat.reduceEqDiff, Nat.reduceLT, Nat.reduceBEq, reduceIte, reduceCtorEq, Int.reduceToNat, Nat.reduceShiftRight, Nat.reduceAnd, Nat.reduceBneDiff, Nat.reduceBNe, e_api_Ledger, e_api_Disk, e_api_Write]
  simp only [wz, wd, ws, Nat.reduceAdd, Nat.reduceSub, Nat.reduceMul, Nat.reduceLeDiff, Nat.reduceEqDiff, Nat.reduceLT, Nat.reduceBEq, reduceIte, reduceCtorEq, Int.reduceToNat, Nat.reduceShiftRight, Nat.reduceAnd, Nat.reduceBneDiff, Nat.reduceBNe, c43r1, semI.eq_10, semI.eq_11, semI.eq_3, semI.eq_5, semI.eq_7, e_api_Ledger, e_api_Disk, e_api_Write]
  refine .seq ?_
  refine .seq ?_
  refine Rw.walk ?_
  simp only [wz, wd, ws, Nat.reduceAdd, Nat.reduceSub, Nat.reduceMul, Nat.reduceLeDiff, Nat.reduceEqDiff, Nat.reduceLT, Nat.reduceBEq, reduceIte, reduceCtorEq, Int.reduceToNat, Nat.reduceShiftRight, Nat.reduceAnd, Nat.reduceBneDiff, Nat.reduceBNe, c43r2, semI.eq_10, semI.eq_11, semI.eq_3, semI.eq_5, semI.eq_7, e_api_Ledger, e_api_Disk, e_api_Write]
  refine .cond (p := (t.2 != 0)) (by first | rfl | simp only [wz, wd, ws, Nat.reduceAdd, Nat.reduceSub, Nat.reduceMul, Nat.reduceLeDiff, Nat.reduceEqDiff, Nat.reduceLT, Nat.reduceBEq, reduceIte, reduceCtorEq, Int.reduceToNat, Nat.reduceShiftRight, Nat.reduceAnd, Nat.reduceBneDiff, Nat.reduceBNe]) (fun h1 => ?_) (fun h1 => ?_)
  · rw [ite_t h1] at h
    refine .seq ?_
    refine Rw.walk ?_
    simp only [wz, wd, ws, Nat.reduceAdd, Nat.reduceSub, Nat.reduceMul, Nat.reduceLeDiff, Nat.reduceEqDiff, Nat.reduceLT, Nat.reduceBEq, reduceIte, reduceCtorEq, Int.reduceToNat, Nat.reduceShiftRight, Nat.reduceAnd, Nat.reduceBneDiff, Nat.reduceBNe, c43r3, semI.eq_10, semI.eq_11, semI.eq_3, semI.eq_5, semI.eq_7, e_api_Ledger, e_api_Disk, e_api_Write]
    obtain rfl := Option.some.inj h
    refine .ret ?_
    rw [← hR]
    simp only [wz, wd, ws, Nat.reduceAdd, Nat.reduceSub, Nat.reduceMul, Nat.reduceLeDiff, Nat.reduceEqDiff, Nat.reduceLT, Nat.reduceBEq, reduceIte, reduceCtorEq, Int.reduceToNat, Nat.reduceShiftRight, Nat.reduceAnd, Nat.reduceBneDiff, Nat.reduceBNe, rv43, semI.eq_10, e_api_Ledger, e_api_Disk, e_api_Write]
  · rw [ite_f h1] at h
    refine .skip ?_
    refine .seq ?_
    refine Rw.walk ?_
    simp only [wz, wd, ws, Nat.reduceAdd, Nat.reduceSub, Nat.reduceMul, Nat.reduceLeDiff, Nat.reduceEqDiff, Nat.reduceLT, Nat.reduceBEq, reduceIte, reduceCtorEq, Int.reduceToNat, Nat.reduceShiftRight, Nat.reduceAnd, Nat.reduceBneDiff, Nat.reduceBNe, c43r4, semI.eq_10, semI.eq_11, semI.eq_3, semI.eq_5, semI.eq_7, e_api_Ledger, e_api_Disk, e_api_Write]
    refine .seq ?_
    refine .seq ?_
    refine Rw.walk ?_
    simp only [wz, wd, ws, Nat.reduceAdd, Nat.reduceSub, Nat.reduceMul, Nat.reduceLeDiff, Nat.reduceEqDiff, Nat.reduceLT, Nat.reduceBEq, reduceIte, reduceCtorEq, Int.reduceToNat, Nat.reduceShiftRight, Nat.reduceAnd, Nat.reduceBneDiff, Nat.reduceBNe, c43r5, semI.eq_10, semI.eq_11, semI.eq_3, semI.eq_5, semI.eq_7, e_api_Ledger, e_api_Disk, e_api_Write]
    refine .blk ?_
    obtain ⟨s, hf, h⟩ := Option.bind_eq_some_iff.1 h
    refine .loop (.weak (Imp.co [] _ _ ?c1 ?c2 ?c3 ?c4 ?c5) (f_ledger_done_l11_ok t _ _ hR _ _ _ _ _ hf _ ?_))
    case c1 | c2 | c3 | c4 | c5 => simp only [wz, wd, ws, Nat.reduceAdd, Nat.reduceSub, Nat.reduceMul, Nat.reduceLeDiff, Nat.reduceEqDiff, Nat.reduceLT, Nat.reduceBEq, reduceIte, reduceCtorEq, Int.reduceToNat, Nat.reduceShiftRight, Nat.reduceAnd, Nat.reduceBneDiff, Nat.reduceBNe, wi, er_nil, e_api_Ledger, e_api_Disk, e_api_Write]
    · intro s_ hs; subst hs
      refine .seq ?_
      refine Rw.walk ?_
      simp only [wz, wd, ws, Nat.reduceAdd, Nat.reduceSub, Nat.reduceMul, Nat.reduceLeDiff, Nat.reduceEqDiff, Nat.reduceLT, Nat.reduceBEq, reduceIte, reduceCtorEq, Int.reduceToNat, Nat.reduceShiftRight, Nat.reduceAnd, Nat.reduceBneDiff, Nat.reduceBNe, c43r11, semI.eq_10, semI.eq_11, semI.eq_3, semI.eq_5, semI.eq_7, e_api_Ledger, e_api_Disk, e_api_Write]
      obtain ⟨t2, e5, h⟩ := Option.bind_eq_some_iff.1 h
      refine call_fun [] true ⟨trivial, trivial, trivial⟩ rfl ?_ (f_ledger_Open_ok _ _ e5) (fun h => by cases h) (fun i hi => by cases hi) ?_
      · simp only [wz, wd, ws, Nat.reduceAdd, Nat.reduceSub, Nat.reduceMul, Nat.reduceLeDiff, Nat.reduceEqDiff, Nat.reduceLT, Nat.reduceBEq, reduceIte, reduceCtorEq, Int.reduceToNat, Nat.reduceShiftRight, Nat.reduceAnd, Nat.reduceBneDiff, Nat.reduceBNe, e_api_Ledger, e_api_Disk, e_api_Write]
      simp only [wz, wd, ws, Nat.reduceAdd, Nat.reduceSub, Nat.reduceMul, Nat.reduceLeDiff, Nat.reduceEqDiff, Nat.reduceLT, Nat.reduceBEq, reduceIte, reduceCtorEq, Int.reduceToNat, Nat.reduceShiftRight, Nat.reduceAnd, Nat.reduceBneDiff, Nat.reduceBNe, c43r11, semI.eq_10, semI.eq_11, semI.eq_3, semI.eq_5, semI.eq_7, e_api_Ledger, e_api_Disk, e_api_Write]
      obtain rfl := Option.some.inj h
      refine .ret ?_
      rw [← hR]
      simp only [wz, wd, ws, Nat.reduceAdd, Nat.reduceSub, Nat.reduceMul, Nat.reduceLeDiff, Nat.reduceEqDiff, Nat.reduceLT, Nat.reduceBEq, reduceIte, reduceCtorEq, Int.reduceToNat, Nat.reduceShiftRight, Nat.reduceAnd, Nat.reduceBneDiff, Nat.reduceBNe, rv43, semI.eq_10, e_api_Ledger, e_api_Disk, e_api_Write]
-- 18 consignor/ledger.Add
def c18r0 : List Opn := [
  ⟨(some 2), none, .box 6 (.t 0)⟩, 
  ⟨(some 4), none, .new [.nils, .nils, (.d (.int .i64 0)), (.d (.int .i64 0)), (.d (.int .i64 0)), .nils]⟩, 
  ⟨(some 5), none, .mv (.c (.s (.d (.int .i64 0))))⟩]
def c18r1 : List Opn := [
  ⟨(some 6), none, .load true 6 (.t 2)⟩, 
  ⟨(some 7), none, .mv (.t 1)⟩, 
  ⟨(some 8), none, .call (.fn 43) [(.t 6), (.c (.s (.d (.bool false)))), (.t 7)]⟩, 
  ⟨(some 9), none, .ext (.t 8) 0⟩, 
  ⟨(some 10), none, .ext (.t 8) 1⟩, 
  ⟨none, none, .store 6 (.t 4) (.t 9)⟩, 
  ⟨(some 5), none, .mv (.t 10)⟩]
def c18 : C := .seq (.reg c18r0 none [1, 2, 4]) (.seq (.reg c18r1 none [4, 5]) (.ret))
def k18 : List (Nat × List Nat) := [(1, [4, 5]), (0, [1, 2, 4])]
theorem cc18 : (Try.f18.body).bind (cC Try.prog 11 k18) = some c18 := by kernel_rfl
def rv18 : List RV := [.c 4 true 6, .t 5]
theorem cr18 : cRVs Try.prog Try.f18.results.toList = some rv18 := by kernel_rfl
theorem f_ledger_Add_ok (l : api_Ledger) (news : (List Str)) (y_ : api_Ledger × Int) (h : f_ledger_Add l news = some y_) : Fun Try.prog glP 18 [.b (.agg ((e_api_Ledger l).map Lc.d)), .b (.s (.d (.sl (news.map eS))))] (.tup [.agg ((e_api_Ledger y_.1).map Lc.d), .s (.d (.int .i64 y_.2))]) := by
  refine fun_walk [] Try.func18 Try.ntmps18 cc18 cr18 (by kernel_rfl) (by simp only [List.length_cons, List.length_nil]; decide) ?_
  generalize hR : Ret _ _ _ _ _ = R_
  simp only [wz, wd, ws, Nat.reduceAdd, Nat.reduceSub, Nat.reduceMul, Nat.reduceLeDiff, Nat.reduceEqDiff, Nat.reduceLT, Nat.reduceBEq, reduceIte, reduceCtorEq, Int.reduceToNat, Nat.reduceShiftRight, Nat.reduceAnd, Nat.reduceBneDiff, Nat.reduceBNe, e_api_Ledger, e_api_Disk, e_api_Write]
  unfold f_ledger_Add at h; unfold c18
  refine .seq ?_
  refine Rw.walk ?_
  simp only [wz, wd, ws, Nat.reduceAdd, Nat.reduceSub, Nat.reduceMul, Nat.reduceLeDiff, Nat.reduceEqDiff, Nat.reduceLT, Nat.reduceBEq, reduceIte, reduceCtorEq, Int.reduceToNat, Nat.reduceShiftRight, Nat.reduceAnd, Nat.reduceBneDiff, Nat.reduceBNe, c18r0, semI.eq_10, semI.eq_11, semI.eq_3, semI.eq_5, semI.eq_7, e_api_Ledger, e_api_Disk, e_api_Write]
  refine .seq ?_
  refine Rw.walk ?_
  simp only [wz, wd, ws, Nat.reduceAdd, Nat.reduceSub, Nat.reduceMul, Nat.reduceLeDiff, Nat.reduceEqDiff, Nat.reduceLT, Nat.reduceBEq, reduceIte, reduceCtorEq, Int.reduceToNat, Nat.reduceShiftRight, Nat.reduceAnd, Nat.reduceBneDiff, Nat.reduceBNe, c18r1, semI.eq_10, semI.eq_11, semI.eq_3, semI.eq_5, semI.eq_7, e_api_Ledger, e_api_Disk, e_api_Write]
  obtain ⟨t, e1, h⟩ := Option.bind_eq_some_iff.1 h
  refine call_fun [] true ⟨trivial, trivial, trivial, trivial, trivial⟩ rfl ?_ (f_ledger_done_ok _ _ _ _ e1) (fun h => by cases h) (fun i hi => by cases hi) ?_
  · simp only [wz, wd, ws, Nat.reduceAdd, Nat.reduceSub, Nat.reduceMul, Nat.reduceLeDiff, Nat.reduceEqDiff, Nat.reduceLT, Nat.reduceBEq, reduceIte, reduceCtorEq, Int.reduceToNat, Nat.reduceShiftRight, Nat.reduceAnd, Nat.reduceBneDiff, Nat.reduceBNe, e_api_Ledger, e_api_Disk, e_api_Write]
  simp only [wz, wd, ws, Nat.reduceAdd, Nat.reduceSub, Nat.reduceMul, Nat.reduceLeDiff, Nat.reduceEqDiff, Nat.reduceLT, Nat.reduceBEq, reduceIte, reduceCtorEq, Int.reduceToNat, Nat.reduceShiftRight, Nat.reduceAnd, Nat.reduceBneDiff, Nat.reduceBNe, c18r1, semI.eq_10, semI.eq_11, semI.eq_3, semI.eq_5, semI.eq_7, e_api_Ledger, e_api_Disk, e_api_Write]
  obtain rfl := Option.some.inj h
  refine .ret ?_
  rw [← hR]
  simp only [wz, wd, ws, Nat.reduceAdd, Nat.reduceSub, Nat.reduceMul, Nat.reduceLeDiff, Nat.reduceEqDiff, Nat.reduceLT, Nat.reduceBEq, reduceIte, reduceCtorEq, Int.reduceToNat, Nat.reduceShiftRight, Nat.reduceAnd, Nat.reduceBneDiff, Nat.reduceBNe, rv18, semI.eq_10, e_api_Ledger, e_api_Disk, e_api_Write]
-- 14 consignor/consignorlaw10.alive
def c14r0 : List Opn := [
  ⟨(some 0), none, .mv (.c (.s (.d (.bool false))))⟩]
def c14r1 : List Opn := [
  ⟨(some 5), none, .call (.fn 12) [(.c (.s (.d (.int .i64 8))))]⟩, 
  ⟨(some 4), none, .mv (.t 5)⟩, 
  ⟨(some 6), none, .ext (.t 4) 0⟩, 
  ⟨(some 7), none, .ext (.t 4) 1⟩, 
  ⟨(some 1), none, .new [.nils, .nils, (.d (.int .i64 0)), (.d (.int .i64 0)), (.d (.int .i64 0)), .nils]⟩, 
  ⟨none, none, .store 6 (.t 1) (.t 6)⟩, 
  ⟨(some 2), none, .mv (.t 7)⟩]
def c14r2 : List Opn := [
  ⟨(some 9), none, .load true 6 (.t 1)⟩, 
  ⟨(some 10), none, .bsl 1 [(.c (.s (.d (.str [97])))), (.c (.s (.d (.str [98]))))]⟩, 
  ⟨(some 11), none, .call (.fn 18) [(.t 9), (.t 10)]⟩, 
  ⟨(some 8), none, .mv (.t 11)⟩, 
  ⟨(some 12), none, .ext (.t 8) 0⟩, 
  ⟨(some 13), none, .ext (.t 8) 1⟩, 
  ⟨none, none, .store 6 (.t 1) (.t 12)⟩, 
  ⟨(some 3), none, .mv (.t 13)⟩]
def c14r3 : List Opn := [
  ⟨(some 14), none, .mv (.t 2)⟩, 
  ⟨(some 15), none, .bin .eql (.t 14) (.c (.s (.d (.int .i64 0))))⟩, 
  ⟨(some 16), none, .mv (.t 15)⟩, 
  ⟨(some 17), some (16, true), .mv (.t 3)⟩, 
  ⟨(some 18), some (16, true), .bin .eql (.t 17) (.c (.s (.d (.int .i64 0))))⟩, 
  ⟨(some 19), none, .pick (.t 16) (.t 18) (.c (.s (.d (.bool false))))⟩, 
  ⟨(some 20), none, .mv (.t 19)⟩, 
  ⟨(some 21), some (20, true), .fadr 5 (.t 1)⟩, 
  ⟨(some 22), some (20, true), .load false 1 (.t 21)⟩, 
  ⟨(some 23), some (20, true), .len (.sl 0) (.t 22)⟩, 
  ⟨(some 24), some (20, true), .bin .eql (.t 23) (.c (.s (.d (.int .i64 2))))⟩, 
  ⟨(some 25), none, .pick (.t 20) (.t 24) (.c (.s (.d (.bool false))))⟩, 
  ⟨(some 26), none, .mv (.t 25)⟩, 
  ⟨(some 27), some (26, true), .fadr 5 (.t 1)⟩, 
  ⟨(some 28), some (26, true), .load false 1 (.t 27)⟩, 
  ⟨(some 29), some (26, true), .iadr (.sl 1) (.t 28) (.c (.s (.d (.int .i64 1))))⟩, 
  ⟨(some 30), some (26, true), .load false 1 (.t 29)⟩, 
  ⟨(some 31), some (26, true), .bin .eql (.t 30) (.c (.s (.d (.str [98]))))⟩, 
  ⟨(some 32), none, .pick (.t 26) (.t 31) (.c (.s (.d (.bool false))))⟩, 
  ⟨(some 0), none, .mv (.t 32)⟩]
def c14 : C := .seq (.reg c14r0 none []) (.seq (.reg c14r1 none [1, 2]) (.seq (.reg c14r2 none [1, 2, 3]) (.seq (.reg c14r3 none [0]) (.ret))))
def k14 : List (Nat × List Nat) := [(3, [0]), (2, [1, 2, 3]), (1, [1, 2]), (0, [])]
theorem cc14 : (Try.f14.body).bind (cC Try.prog 33 k14) = some c14 := by kernel_rfl
def rv14 : List RV := [.t 0]
theorem cr14 : cRVs Try.prog Try.f14.results.toList = some rv14 := by kernel_rfl
theorem f_law10_alive_ok (y_ : Bool) (h : f_law10_alive = some y_) : Fun Try.prog glP 14 [] (.b (.s (.d (.bool y_)))) := by
  refine fun_walk [] Try.func14 Try.ntmps14 cc14 cr14 (by kernel_rfl) (by simp only [List.length_cons, List.length_nil]; decide) ?_
  generalize hR : Ret _ _ _ _ _ = R_
  simp only [wz, wd, ws, Nat.reduceAdd, Nat.reduceSub, Nat.reduceMul, Nat.reduceLeDiff, Nat.reduceEqDiff, Nat.reduceLT, Nat.reduceBEq, reduceIte, reduceCtorEq, Int.reduceToNat, Nat.reduceShiftRight, Nat.reduceAnd, Nat.reduceBneDiff, Nat.reduceBNe, e_api_Ledger, e_api_Disk, e_api_Write]
  unfold f_law10_alive at h; unfold c14
  refine .seq ?_
  refine Rw.walk ?_
  simp only [wz, wd, ws, Nat.reduceAdd, Nat.reduceSub, Nat.reduceMul, Nat.reduceLeDiff, Nat.reduceEqDiff, Nat.reduceLT, Nat.reduceBEq, reduceIte, reduceCtorEq, Int.reduceToNat, Nat.reduceShiftRight, Nat.reduceAnd, Nat.reduceBneDiff, Nat.reduceBNe, c14r0, semI.eq_10, semI.eq_11, semI.eq_3, semI.eq_5, semI.eq_7, e_api_Ledger, e_api_Disk, e_api_Write]
  refine .seq ?_
  refine Rw.walk ?_
  simp only [wz, wd, ws, Nat.reduceAdd, Nat.reduceSub, Nat.reduceMul, Nat.reduceLeDiff, Nat.reduceEqDiff, Nat.reduceLT, Nat.reduceBEq, reduceIte, reduceCtorEq, Int.reduceToNat, Nat.reduceShiftRight, Nat.reduceAnd, Nat.reduceBneDiff, Nat.reduceBNe, c14r1, semI.eq_10, semI.eq_11, semI.eq_3, semI.eq_5, semI.eq_7, e_api_Ledger, e_api_Disk, e_api_Write]
  obtain ⟨t, e1, h⟩ := Option.bind_eq_some_iff.1 h
  refine call_fun [] true ⟨trivial, trivial, trivial⟩ rfl ?_ (f_ledger_Format_ok _ _ e1) (fun h => by cases h) (fun i hi => by cases hi) ?_
  · simp only [wz, wd, ws, Nat.reduceAdd, Nat.reduceSub, Nat.reduceMul, Nat.reduceLeDiff, Nat.reduceEqDiff, Nat.reduceLT, Nat.reduceBEq, reduceIte, reduceCtorEq, Int.reduceToNat, Nat.reduceShiftRight, Nat.reduceAnd, Nat.reduceBneDiff, Nat.reduceBNe, e_api_Ledger, e_api_Disk, e_api_Write]
  simp only [wz, wd, ws, Nat.reduceAdd, Nat.reduceSub, Nat.reduceMul, Nat.reduceLeDiff, Nat.reduceEqDiff, Nat.reduceLT, Nat.reduceBEq, reduceIte, reduceCtorEq, Int.reduceToNat, Nat.reduceShiftRight, Nat.reduceAnd, Nat.reduceBneDiff, Nat.reduceBNe, c14r1, semI.eq_10, semI.eq_11, semI.eq_3, semI.eq_5, semI.eq_7, e_api_Ledger, e_api_Disk, e_api_Write]
  refine .seq ?_
  refine Rw.walk ?_
  simp only [wz, wd, ws, Nat.reduceAdd, Nat.reduceSub, Nat.reduceMul, Nat.reduceLeDiff, Nat.reduceEqDiff, Nat.reduceLT, Nat.reduceBEq, reduceIte, reduceCtorEq, Int.reduceToNat, Nat.reduceShiftRight, Nat.reduceAnd, Nat.reduceBneDiff, Nat.reduceBNe, c14r2, semI.eq_10, semI.eq_11, semI.eq_3, semI.eq_5, semI.eq_7, e_api_Ledger, e_api_Disk, e_api_Write]
  refine Go1.of (sem_bsl (enc := eS) (m := ([([97] : Str), ([98] : Str)] : List Str)) eS_len (by rfl) (by rfl) (by rfl) ⟨trivial, trivial, trivial⟩) ?_
  simp only [wz, wd, ws, Nat.reduceAdd, Nat.reduceSub, Nat.reduceMul, Nat.reduceLeDiff, Nat.reduceEqDiff, Nat.reduceLT, Nat.reduceBEq, reduceIte, reduceCtorEq, Int.reduceToNat, Nat.reduceShiftRight, Nat.reduceAnd, Nat.reduceBneDiff, Nat.reduceBNe, c14r2, semI.eq_10, semI.eq_11, semI.eq_3, semI.eq_5, semI.eq_7, e_api_Ledger, e_api_Disk, e_api_Write]
  obtain ⟨t2, e2, h⟩ := Option.bind_eq_some_iff.1 h
  refine call_fun [10] true ⟨trivial, trivial, trivial, trivial⟩ rfl ?_ (f_ledger_Add_ok _ _ _ e2) (fun h => by cases h) (fun i hi e he => coF_get (l := [10]) (by simp only [wz, wd, ws, Nat.reduceAdd, Nat.reduceSub, Nat.reduceMul, Nat.reduceLeDiff, Nat.reduceEqDiff, Nat.reduceLT, Nat.reduceBEq, reduceIte, reduceCtorEq, Int.reduceToNat, Nat.reduceShiftRight, Nat.reduceAnd, Nat.reduceBneDiff, Nat.reduceBNe, wi, e_api_Ledger, e_api_Disk, e_api_Write]) i e hi he) ?_
  · simp only [wz, wd, ws, Nat.reduceAdd, Nat.reduceSub, Nat.reduceMul, Nat.reduceLeDiff, Nat.reduceEqDiff, Nat.reduceLT, Nat.reduceBEq, reduceIte, reduceCtorEq, Int.reduceToNat, Nat.reduceShiftRight, Nat.reduceAnd, Nat.reduceBneDiff, Nat.reduceBNe, e_api_Ledger, e_api_Disk, e_api_Write, frz.eq_1, er_back]
  simp only [wz, wd, ws, Nat.reduceAdd, Nat.reduceSub, Nat.reduceMul, Nat.reduceLeDiff, Nat.reduceEqDiff, Nat.reduceLT, Nat.reduceBEq, reduceIte, reduceCtorEq, Int.reduceToNat, Nat.reduceShiftRight, Nat.reduceAnd, Nat.reduceBneDiff, Nat.reduceBNe, c14r2, semI.eq_10, semI.eq_11, semI.eq_3, semI.eq_5, semI.eq_7, e_api_Ledger, e_api_Disk, e_api_Write, frz.eq_1, er_back]
  refine .seq ?_
  refine Rw.walk ?_
  simp only [wz, wd, ws, Nat.reduceAdd, Nat.reduceSub, Nat.reduceMul, Nat.reduceLeDiff, Nat.reduceEqDiff, Nat.reduceLT, Nat.reduceBEq, reduceIte, reduceCtorEq, Int.reduceToNat, Nat.reduceShiftRight, Nat.reduceAnd, Nat.reduceBneDiff, Nat.reduceBNe, c14r3, semI.eq_10, semI.eq_11, semI.eq_3, semI.eq_5, semI.eq_7, e_api_Ledger, e_api_Disk, e_api_Write, frz.eq_1, er_back]
  repeat (refine And.intro ?_ ?_; · first | omega | (simp only [List.length_append, List.length_cons, List.length_nil] at *; omega) | (intro q; simp only [wz, wd, ws, Nat.reduceAdd, Nat.reduceSub, Nat.reduceMul, Nat.reduceLeDiff, Nat.reduceEqDiff, Nat.reduceLT, Nat.reduceBEq, reduceIte, reduceCtorEq, Int.reduceToNat, Nat.reduceShiftRight, Nat.reduceAnd, Nat.reduceBneDiff, Nat.reduceBNe, q]; done))
  refine call_alt (v := .b (.s (.d (.sl (t2.1.Entries.map eS))))) rfl rfl (by simp only [wz, wd, ws, Nat.reduceAdd, Nat.reduceSub, Nat.reduceMul, Nat.reduceLeDiff, Nat.reduceEqDiff, Nat.reduceLT, Nat.reduceBEq, reduceIte, reduceCtorEq, Int.reduceToNat, Nat.reduceShiftRight, Nat.reduceAnd, Nat.reduceBneDiff, Nat.reduceBNe]) (fun q => ⟨_, by simp only [wz, wd, ws, Nat.reduceAdd, Nat.reduceSub, Nat.reduceMul, Nat.reduceLeDiff, Nat.reduceEqDiff, Nat.reduceLT, Nat.reduceBEq, reduceIte, reduceCtorEq, Int.reduceToNat, Nat.reduceShiftRight, Nat.reduceAnd, Nat.reduceBneDiff, Nat.reduceBNe, semI.eq_10, e_api_Ledger, e_api_Disk, e_api_Write, frz.eq_1, er_back], trivial⟩) ?_
  simp only [wz, wd, ws, Nat.reduceAdd, Nat.reduceSub, Nat.reduceMul, Nat.reduceLeDiff, Nat.reduceEqDiff, Nat.reduceLT, Nat.reduceBEq, reduceIte, reduceCtorEq, Int.reduceToNat, Nat.reduceShiftRight, Nat.reduceAnd, Nat.reduceBneDiff, Nat.reduceBNe, c14r3, semI.eq_10, semI.eq_11, semI.eq_3, semI.eq_5, semI.eq_7, e_api_Ledger, e_api_Disk, e_api_Write, frz.eq_1, er_back]
  repeat (refine And.intro ?_ ?_; · first | omega | (simp only [List.length_append, List.length_cons, List.length_nil] at *; omega) | (intro q; simp only [wz, wd, ws, Nat.reduceAdd, Nat.reduceSub, Nat.reduceMul, Nat.reduceLeDiff, Nat.reduceEqDiff, Nat.reduceLT, Nat.reduceBEq, reduceIte, reduceCtorEq, Int.reduceToNat, Nat.reduceShiftRight, Nat.reduceAnd, Nat.reduceBneDiff, Nat.reduceBNe, q]; done))
  refine call_alt (v := .b (.s (.d (.sl (t2.1.Entries.map eS))))) rfl rfl (by simp only [wz, wd, ws, Nat.reduceAdd, Nat.reduceSub, Nat.reduceMul, Nat.reduceLeDiff, Nat.reduceEqDiff, Nat.reduceLT, Nat.reduceBEq, reduceIte, reduceCtorEq, Int.reduceToNat, Nat.reduceShiftRight, Nat.reduceAnd, Nat.reduceBneDiff, Nat.reduceBNe]) (fun q => ⟨_, by simp only [wz, wd, ws, Nat.reduceAdd, Nat.reduceSub, Nat.reduceMul, Nat.reduceLeDiff, Nat.reduceEqDiff, Nat.reduceLT, Nat.reduceBEq, reduceIte, reduceCtorEq, Int.reduceToNat, Nat.reduceShiftRight, Nat.reduceAnd, Nat.reduceBneDiff, Nat.reduceBNe, semI.eq_10, e_api_Ledger, e_api_Disk, e_api_Write, frz.eq_1, er_back], trivial⟩) ?_
  simp only [wz, wd, ws, Nat.reduceAdd, Nat.reduceSub, Nat.reduceMul, Nat.reduceLeDiff, Nat.reduceEqDiff, Nat.reduceLT, Nat.reduceBEq, reduceIte, reduceCtorEq, Int.reduceToNat, Nat.reduceShiftRight, Nat.reduceAnd, Nat.reduceBneDiff, Nat.reduceBNe, c14r3, semI.eq_10, semI.eq_11, semI.eq_3, semI.eq_5, semI.eq_7, e_api_Ledger, e_api_Disk, e_api_Write, frz.eq_1, er_back]
  obtain ⟨x, e3, h⟩ := Option.bind_eq_some_iff.1 h
  refine call_alt (v := .b (.s (.d (.ref [(.str x)] 0)))) rfl rfl (by simp only [wz, wd, ws, Nat.reduceAdd, Nat.reduceSub, Nat.reduceMul, Nat.reduceLeDiff, Nat.reduceEqDiff, Nat.reduceLT, Nat.reduceBEq, reduceIte, reduceCtorEq, Int.reduceToNat, Nat.reduceShiftRight, Nat.reduceAnd, Nat.reduceBneDiff, Nat.reduceBNe]) (fun q => ⟨_, sem_iadr (enc := eS) (l := t2.1.Entries) eS_len (gx_iff e3 (by simpa using q)) rfl rfl, trivial⟩) ?_
  simp only [wz, wd, ws, Nat.reduceAdd, Nat.reduceSub, Nat.reduceMul, Nat.reduceLeDiff, Nat.reduceEqDiff, Nat.reduceLT, Nat.reduceBEq, reduceIte, reduceCtorEq, Int.reduceToNat, Nat.reduceShiftRight, Nat.reduceAnd, Nat.reduceBneDiff, Nat.reduceBNe, c14r3, semI.eq_10, semI.eq_11, semI.eq_3, semI.eq_5, semI.eq_7, e_api_Ledger, e_api_Disk, e_api_Write, frz.eq_1, er_back]
  refine call_alt (v := .b (.s (.d (.str x)))) rfl rfl (by simp only [wz, wd, ws, Nat.reduceAdd, Nat.reduceSub, Nat.reduceMul, Nat.reduceLeDiff, Nat.reduceEqDiff, Nat.reduceLT, Nat.reduceBEq, reduceIte, reduceCtorEq, Int.reduceToNat, Nat.reduceShiftRight, Nat.reduceAnd, Nat.reduceBneDiff, Nat.reduceBNe]) (fun q => ⟨_, by simp only [wz, wd, ws, Nat.reduceAdd, Nat.reduceSub, Nat.reduceMul, Nat.reduceLeDiff, Nat.reduceEqDiff, Nat.reduceLT, Nat.reduceBEq, reduceIte, reduceCtorEq, Int.reduceToNat, Nat.reduceShiftRight, Nat.reduceAnd, Nat.reduceBneDiff, Nat.reduceBNe, semI.eq_10, e_api_Ledger, e_api_Disk, e_api_Write, frz.eq_1, er_back], trivial⟩) ?_
  simp only [wz, wd, ws, Nat.reduceAdd, Nat.reduceSub, Nat.reduceMul, Nat.reduceLeDiff, Nat.reduceEqDiff, Nat.reduceLT, Nat.reduceBEq, reduceIte, reduceCtorEq, Int.reduceToNat, Nat.reduceShiftRight, Nat.reduceAnd, Nat.reduceBneDiff, Nat.reduceBNe, c14r3, semI.eq_10, semI.eq_11, semI.eq_3, semI.eq_5, semI.eq_7, e_api_Ledger, e_api_Disk, e_api_Write, frz.eq_1, er_back]
  repeat (refine And.intro ?_ ?_; · first | omega | (simp only [List.length_append, List.length_cons, List.length_nil] at *; omega) | (intro q; simp only [wz, wd, ws, Nat.reduceAdd, Nat.reduceSub, Nat.reduceMul, Nat.reduceLeDiff, Nat.reduceEqDiff, Nat.reduceLT, Nat.reduceBEq, reduceIte, reduceCtorEq, Int.reduceToNat, Nat.reduceShiftRight, Nat.reduceAnd, Nat.reduceBneDiff, Nat.reduceBNe, q]; done))
  obtain rfl := Option.some.inj h
  refine .ret ?_
  rw [← hR]
  simp only [wz, wd, ws, Nat.reduceAdd, Nat.reduceSub, Nat.reduceMul, Nat.reduceLeDiff, Nat.reduceEqDiff, Nat.reduceLT, Nat.reduceBEq, reduceIte, reduceCtorEq, Int.reduceToNat, Nat.reduceShiftRight, Nat.reduceAnd, Nat.reduceBneDiff, Nat.reduceBNe, rv14, e_api_Ledger, e_api_Disk, e_api_Write, frz.eq_1, er_back]
-- 19 consignor/consignorref01.Same
def c19r0 : List Opn := [
  ⟨(some 4), none, .mv (.c (.s (.d (.bool false))))⟩]
def c19r1 : List Opn := [
  ⟨(some 6), none, .mv (.t 0)⟩, 
  ⟨(some 7), none, .len (.sl 0) (.t 6)⟩, 
  ⟨(some 8), none, .mv (.t 1)⟩, 
  ⟨(some 9), none, .len (.sl 0) (.t 8)⟩, 
  ⟨(some 10), none, .bin .neq (.t 7) (.t 9)⟩]
def c19r2 : List Opn := [
  ⟨(some 4), none, .mv (.c (.s (.d (.bool false))))⟩]
def c19r3 : List Opn := [
  ⟨(some 11), none, .mv (.t 0)⟩, 
  ⟨(some 12), none, .len (.sl 0) (.t 11)⟩, 
  ⟨(some 13), none, .mv (.c (.s (.d (.int .i64 0))))⟩]
def c19r4 : List Opn := [
  ⟨(some 14), none, .bin .lss (.t 13) (.t 12)⟩]
def c19r5 : List Opn := [
  ⟨(some 15), none, .mv (.t 13)⟩, 
  ⟨(some 5), none, .mv (.t 15)⟩]
def c19r6 : List Opn := [
  ⟨(some 16), none, .mv (.t 0)⟩, 
  ⟨(some 17), none, .mv (.t 5)⟩, 
  ⟨(some 18), none, .iadr (.sl 1) (.t 16) (.t 17)⟩, 
  ⟨(some 19), none, .load false 1 (.t 18)⟩, 
  ⟨(some 20), none, .mv (.t 1)⟩, 
  ⟨(some 21), none, .mv (.t 5)⟩, 
  ⟨(some 22), none, .iadr (.sl 1) (.t 20) (.t 21)⟩, 
  ⟨(some 23), none, .load false 1 (.t 22)⟩, 
  ⟨(some 24), none, .bin .neq (.t 19) (.t 23)⟩]
def c19r7 : List Opn := [
  ⟨(some 4), none, .mv (.c (.s (.d (.bool false))))⟩]
def c19r8 : List Opn := [
  ⟨(some 25), none, .bin .add (.t 13) (.c (.s (.d (.int .i64 1))))⟩, 
  ⟨(some 13), none, .mv (.t 25)⟩]
def c19l9 : C := .seq (.reg c19r4 none [0, 1, 12, 13, 14]) (.seq (.cond (.t 14) (.skip) (.exit 0)) (.seq (.blk 1 (.seq (.reg c19r5 none [0, 1, 5, 12, 13]) (.seq (.reg c19r6 (some [0, 0, 3, 7, 0, 0, 48, 112, 255]) [0, 1, 12, 13, 24]) (.cond (.t 24) (.seq (.reg c19r7 none [4]) (.ret)) (.skip))))) (.reg c19r8 none [0, 1, 12, 13])))
def c19r9 : List Opn := [
  ⟨(some 4), none, .mv (.c (.s (.d (.bool true))))⟩]
def c19 : C := .seq (.reg c19r0 none [0, 1]) (.seq (.seq (.reg c19r1 none [0, 1, 10]) (.cond (.t 10) (.seq (.reg c19r2 none [4]) (.ret)) (.skip))) (.seq (.seq (.reg c19r3 none [0, 1, 12, 13]) (.blk 0 (.loop c19l9))) (.seq (.reg c19r9 none [4]) (.ret))))
def k19 : List (Nat × List Nat) := [(9, [4]), (8, [0, 1, 12, 13]), (7, [4]), (6, [0, 1, 12, 13, 24]), (5, [0, 1, 5, 12, 13]), (4, [0, 1, 12, 13, 14]), (3, [0, 1, 12, 13]), (2, [4]), (1, [0, 1, 10]), (0, [0, 1])]
theorem cc19 : (Try.f19.body).bind (cC Try.prog 26 k19) = some c19 := by kernel_rfl
def rv19 : List RV := [.t 4]
theorem cr19 : cRVs Try.prog Try.f19.results.toList = some rv19 := by kernel_rfl
theorem f_ref01_Same_l9_ok (a : (List Str)) (b : (List Str)) (y_ : Bool) (R_ : St → Prop) (hR : (Ret Try.prog glP [] rv19 (.b (.s (.d (.bool y_))))) = R_) : ∀ (m_ : Nat) (v13 : Int) (res_ : (Int) ⊕ (Bool)) (h : f_ref01_Same_l9 a b m_ v13 = some res_) (k_ : List It) (hx : ∀ s_ : Int, res_ = .inl s_ → W Try.prog glP 26 k_ ⟨lkT [(0, .b (.s (.d (.sl (a.map eS))))), (1, .b (.s (.d (.sl (b.map eS))))), (12, .b (.s (.d (.int .i64 (a.length : Int))))), (13, .b (.s (.d (.int .i64 s_))))], lkG []⟩ R_) (hr : ∀ z_ : Bool, res_ = .inr z_ → z_ = y_), W Try.prog glP 26 (.c c19l9 :: .lp c19l9 :: .blk 0 :: k_) ⟨lkT [(0, .b (.s (.d (.sl (a.map eS))))), (1, .b (.s (.d (.sl (b.map eS))))), (12, .b (.s (.d (.int .i64 (a.length : Int))))), (13, .b (.s (.d (.int .i64 v13))))], lkG []⟩ R_ := by
  intro m_; induction m_ with
  | zero => intro v13 res_ h; rw [f_ref01_Same_l9.eq_1] at h; cases h
  | succ m_ ih =>
    intro v13 res_ h k_ hx hr; rw [f_ref01_Same_l9.eq_2] at h; refine W.cdef c19l9.eq_1 ?_
    refine .seq ?_
    refine Rw.walk ?_
    simp only [wz, wd, ws, Nat.reduceAdd, Nat.reduceSub, Nat.reduceMul, Nat.reduceLeDiff, Nat.reduceEqDiff, Nat.reduceLT, Nat.reduceBEq, reduceIte, reduceCtorEq, Int.reduceToNat, Nat.reduceShiftRight, Nat.reduceAnd, Nat.reduceBneDiff, Nat.reduceBNe, c19r4, semI.eq_10, semI.eq_11, semI.eq_3, semI.eq_5, semI.eq_7]
    refine .seq ?_
    refine .cond (p := (decide (v13 < (a.length : Int)))) (by first | rfl | simp only [wz, wd, ws, Nat.reduceAdd, Nat.reduceSub, Nat.reduceMul, Nat.reduceLeDiff, Nat.reduceEqDiff, Nat.reduceLT, Nat.reduceBEq, reduceIte, reduceCtorEq, Int.reduceToNat, Nat.reduceShiftRight, Nat.reduceAnd, Nat.reduceBneDiff, Nat.reduceBNe]) (fun h1 => ?_) (fun h1 => ?_)
    · rw [ite_t h1] at h
      refine .skip ?_
      refine .seq ?_
      refine .blk ?_
      refine .seq ?_
      refine Rw.walk ?_
      simp only [wz, wd, ws, Nat.reduceAdd, Nat.reduceSub, Nat.reduceMul, Nat.reduceLeDiff, Nat.reduceEqDiff, Nat.reduceLT, Nat.reduceBEq, reduceIte, reduceCtorEq, Int.reduceToNat, Nat.reduceShiftRight, Nat.reduceAnd, Nat.reduceBneDiff, Nat.reduceBNe, c19r5, semI.eq_10, semI.eq_11, semI.eq_3, semI.eq_5, semI.eq_7]
      refine .seq ?_
      refine RwD.walk ?_
      simp only [wz, wd, ws, Nat.reduceAdd, Nat.reduceSub, Nat.reduceMul, Nat.reduceLeDiff, Nat.reduceEqDiff, Nat.reduceLT, Nat.reduceBEq, reduceIte, reduceCtorEq, Int.reduceToNat, Nat.reduceShiftRight, Nat.reduceAnd, Nat.reduceBneDiff, Nat.reduceBNe, c19r6, semI.eq_10, semI.eq_11, semI.eq_3, semI.eq_5, semI.eq_7]
      obtain ⟨x, e1, h⟩ := Option.bind_eq_some_iff.1 h
      refine GoD1.of (sem_iadr eS_len e1 (by rfl) (by rfl)) ?_
      simp only [wz, wd, ws, Nat.reduceAdd, Nat.reduceSub, Nat.reduceMul, Nat.reduceLeDiff, Nat.reduceEqDiff, Nat.reduceLT, Nat.reduceBEq, reduceIte, reduceCtorEq, Int.reduceToNat, Nat.reduceShiftRight, Nat.reduceAnd, Nat.reduceBneDiff, Nat.reduceBNe, c19r6, semI.eq_10, semI.eq_11, semI.eq_3, semI.eq_5, semI.eq_7]
      obtain ⟨x2, e2, h⟩ := Option.bind_eq_some_iff.1 h
      refine GoD1.of (sem_iadr eS_len e2 (by rfl) (by rfl)) ?_
      simp only [wz, wd, ws, Nat.reduceAdd, Nat.reduceSub, Nat.reduceMul, Nat.reduceLeDiff, Nat.reduceEqDiff, Nat.reduceLT, Nat.reduceBEq, reduceIte, reduceCtorEq, Int.reduceToNat, Nat.reduceShiftRight, Nat.reduceAnd, Nat.reduceBneDiff, Nat.reduceBNe, c19r6, semI.eq_10, semI.eq_11, semI.eq_3, semI.eq_5, semI.eq_7]
      refine .cond (p := (!(x == x2))) (by first | rfl | simp only [wz, wd, ws, Nat.reduceAdd, Nat.reduceSub, Nat.reduceMul, Nat.reduceLeDiff, Nat.reduceEqDiff, Nat.reduceLT, Nat.reduceBEq, reduceIte, reduceCtorEq, Int.reduceToNat, Nat.reduceShiftRight, Nat.reduceAnd, Nat.reduceBneDiff, Nat.reduceBNe]) (fun h1 => ?_) (fun h1 => ?_)
      · rw [ite_t h1] at h
        refine .seq ?_
        refine Rw.walk ?_
        simp only [wz, wd, ws, Nat.reduceAdd, Nat.reduceSub, Nat.reduceMul, Nat.reduceLeDiff, Nat.reduceEqDiff, Nat.reduceLT, Nat.reduceBEq, reduceIte, reduceCtorEq, Int.reduceToNat, Nat.reduceShiftRight, Nat.reduceAnd, Nat.reduceBneDiff, Nat.reduceBNe, c19r7, semI.eq_10, semI.eq_11, semI.eq_3, semI.eq_5, semI.eq_7]
        obtain rfl := Option.some.inj h; obtain rfl := hr _ rfl
        refine .ret ?_
        rw [← hR]
        simp only [wz, wd, ws, Nat.reduceAdd, Nat.reduceSub, Nat.reduceMul, Nat.reduceLeDiff, Nat.reduceEqDiff, Nat.reduceLT, Nat.reduceBEq, reduceIte, reduceCtorEq, Int.reduceToNat, Nat.reduceShiftRight, Nat.reduceAnd, Nat.reduceBneDiff, Nat.reduceBNe, rv19]
      · rw [ite_f h1] at h
        refine .skip ?_
        refine .eblk ?_
        refine Rw.walk ?_
        simp only [wz, wd, ws, Nat.reduceAdd, Nat.reduceSub, Nat.reduceMul, Nat.reduceLeDiff, Nat.reduceEqDiff, Nat.reduceLT, Nat.reduceBEq, reduceIte, reduceCtorEq, Int.reduceToNat, Nat.reduceShiftRight, Nat.reduceAnd, Nat.reduceBneDiff, Nat.reduceBNe, c19r8, semI.eq_10, semI.eq_11, semI.eq_3, semI.eq_5, semI.eq_7]
        refine .lp ?_
        refine .weak (Imp.co [] _ _ ?_ ?_ ?_ ?_ ?_) (ih (IntKind.i64.wrap (v13 + 1)) _ h k_ hx hr) <;> simp only [wz, wd, ws, Nat.reduceAdd, Nat.reduceSub, Nat.reduceMul, Nat.reduceLeDiff, Nat.reduceEqDiff, Nat.reduceLT, Nat.reduceBEq, reduceIte, reduceCtorEq, Int.reduceToNat, Nat.reduceShiftRight, Nat.reduceAnd, Nat.reduceBneDiff, Nat.reduceBNe, wi, er_nil]
    · rw [ite_f h1] at h
      refine .exit rfl ?_
      obtain rfl := Option.some.inj h
      refine .weak (Imp.co [] _ _ ?_ ?_ ?_ ?_ ?_) (hx _ rfl) <;> simp only [wz, wd, ws, Nat.reduceAdd, Nat.reduceSub, Nat.reduceMul, Nat.reduceLeDiff, Nat.reduceEqDiff, Nat.reduceLT, Nat.reduceBEq, reduceIte, reduceCtorEq, Int.reduceToNat, Nat.reduceShiftRight, Nat.reduceAnd, Nat.reduceBneDiff, Nat.reduceBNe, wi, er_nil]
theorem f_ref01_Same_ok (a : (List Str)) (b : (List Str)) (y_ : Bool) (h : f_ref01_Same a b = some y_) : Fun Try.prog glP 19 [.b (.s (.d (.sl (a.map eS)))), .b (.s (.d (.sl (b.map eS))))] (.b (.s (.d (.bool y_)))) := by
  refine fun_walk [] Try.func19 Try.ntmps19 cc19 cr19 (by kernel_rfl) (by simp only [List.length_cons, List.length_nil]; decide) ?_
  generalize hR : Ret _ _ _ _ _ = R_
  simp only [wz, wd, ws, Nat.reduceAdd, Nat.reduceSub, Nat.reduceMul, Nat.reduceLeDiff, Nat.reduceEqDiff, Nat.reduceLT, Nat.reduceBEq, reduceIte, reduceCtorEq, Int.reduceToNat, Nat.reduceShiftRight, Nat.reduceAnd, Nat.reduceBneDiff, Nat.reduceBNe]
  unfold f_ref01_Same at h; unfold c19
  refine .seq ?_
  refine Rw.walk ?_
  simp only [wz, wd, ws, Nat.reduceAdd, Nat.reduceSub, Nat.reduceMul, Nat.reduceLeDiff, Nat.reduceEqDiff, Nat.reduceLT, Nat.reduceBEq, reduceIte, reduceCtorEq, Int.reduceToNat, Nat.reduceShiftRight, Nat.reduceAnd, Nat.reduceBneDiff, Nat.reduceBNe, c19r0, semI.eq_10, semI.eq_11, semI.eq_3, semI.eq_5, semI.eq_7]
  refine .seq ?_
  refine .seq ?_
  refine Rw.walk ?_
  simp only [wz, wd, ws, Nat.reduceAdd, Nat.reduceSub, Nat.reduceMul, Nat.reduceLeDiff, Nat.reduceEqDiff, Nat.reduceLT, Nat.reduceBEq, reduceIte, reduceCtorEq, Int.reduceToNat, Nat.reduceShiftRight, Nat.reduceAnd, Nat.reduceBneDiff, Nat.reduceBNe, c19r1, semI.eq_10, semI.eq_11, semI.eq_3, semI.eq_5, semI.eq_7]
  refine .cond (p := ((a.length : Int) != (b.length : Int))) (by first | rfl | simp only [wz, wd, ws, Nat.reduceAdd, Nat.reduceSub, Nat.reduceMul, Nat.reduceLeDiff, Nat.reduceEqDiff, Nat.reduceLT, Nat.reduceBEq, reduceIte, reduceCtorEq, Int.reduceToNat, Nat.reduceShiftRight, Nat.reduceAnd, Nat.reduceBneDiff, Nat.reduceBNe]) (fun h1 => ?_) (fun h1 => ?_)
  · rw [ite_t h1] at h
    refine .seq ?_
    refine Rw.walk ?_
    simp only [wz, wd, ws, Nat.reduceAdd, Nat.reduceSub, Nat.reduceMul, Nat.reduceLeDiff, Nat.reduceEqDiff, Nat.reduceLT, Nat.reduceBEq, reduceIte, reduceCtorEq, Int.reduceToNat, Nat.reduceShiftRight, Nat.reduceAnd, Nat.reduceBneDiff, Nat.reduceBNe, c19r2, semI.eq_10, semI.eq_11, semI.eq_3, semI.eq_5, semI.eq_7]
    obtain rfl := Option.some.inj h
    refine .ret ?_
    rw [← hR]
    simp only [wz, wd, ws, Nat.reduceAdd, Nat.reduceSub, Nat.reduceMul, Nat.reduceLeDiff, Nat.reduceEqDiff, Nat.reduceLT, Nat.reduceBEq, reduceIte, reduceCtorEq, Int.reduceToNat, Nat.reduceShiftRight, Nat.reduceAnd, Nat.reduceBneDiff, Nat.reduceBNe, rv19]
  · rw [ite_f h1] at h
    refine .skip ?_
    refine .seq ?_
    refine .seq ?_
    refine Rw.walk ?_
    simp only [wz, wd, ws, Nat.reduceAdd, Nat.reduceSub, Nat.reduceMul, Nat.reduceLeDiff, Nat.reduceEqDiff, Nat.reduceLT, Nat.reduceBEq, reduceIte, reduceCtorEq, Int.reduceToNat, Nat.reduceShiftRight, Nat.reduceAnd, Nat.reduceBneDiff, Nat.reduceBNe, c19r3, semI.eq_10, semI.eq_11, semI.eq_3, semI.eq_5, semI.eq_7]
    refine .blk ?_
    obtain ⟨s, hf, h⟩ := Option.bind_eq_some_iff.1 h
    refine .loop (.weak (Imp.co [] _ _ ?c1 ?c2 ?c3 ?c4 ?c5) (f_ref01_Same_l9_ok a b _ _ hR _ _ _ hf _ ?_ ?_))
    case c1 | c2 | c3 | c4 | c5 => simp only [wz, wd, ws, Nat.reduceAdd, Nat.reduceSub, Nat.reduceMul, Nat.reduceLeDiff, Nat.reduceEqDiff, Nat.reduceLT, Nat.reduceBEq, reduceIte, reduceCtorEq, Int.reduceToNat, Nat.reduceShiftRight, Nat.reduceAnd, Nat.reduceBneDiff, Nat.reduceBNe, wi, er_nil]
    · intro s2 hs; subst hs; dsimp only at h
      refine .seq ?_
      refine Rw.walk ?_
      simp only [wz, wd, ws, Nat.reduceAdd, Nat.reduceSub, Nat.reduceMul, Nat.reduceLeDiff, Nat.reduceEqDiff, Nat.reduceLT, Nat.reduceBEq, reduceIte, reduceCtorEq, Int.reduceToNat, Nat.reduceShiftRight, Nat.reduceAnd, Nat.reduceBneDiff, Nat.reduceBNe, c19r9, semI.eq_10, semI.eq_11, semI.eq_3, semI.eq_5, semI.eq_7]
      obtain rfl := Option.some.inj h
      refine .ret ?_
      rw [← hR]
      simp only [wz, wd, ws, Nat.reduceAdd, Nat.reduceSub, Nat.reduceMul, Nat.reduceLeDiff, Nat.reduceEqDiff, Nat.reduceLT, Nat.reduceBEq, reduceIte, reduceCtorEq, Int.reduceToNat, Nat.reduceShiftRight, Nat.reduceAnd, Nat.reduceBneDiff, Nat.reduceBNe, rv19]
    · intro z hz; subst hz; dsimp only at h
      exact Option.some.inj h
-- 20 consignor/consignorref09.Like
def c20r0 : List Opn := [
  ⟨(some 2), none, .box 2 (.t 0)⟩, 
  ⟨(some 3), none, .box 2 (.t 1)⟩, 
  ⟨(some 4), none, .mv (.c (.s (.d (.bool false))))⟩]
def c20r1 : List Opn := [
  ⟨(some 7), none, .fadr 0 (.t 2)⟩, 
  ⟨(some 8), none, .load false 1 (.t 7)⟩, 
  ⟨(some 9), none, .len (.sl 0) (.t 8)⟩, 
  ⟨(some 10), none, .fadr 0 (.t 3)⟩, 
  ⟨(some 11), none, .load false 1 (.t 10)⟩, 
  ⟨(some 12), none, .len (.sl 0) (.t 11)⟩, 
  ⟨(some 13), none, .bin .neq (.t 9) (.t 12)⟩, 
  ⟨(some 14), none, .mv (.t 13)⟩, 
  ⟨(some 15), some (14, false), .fadr 1 (.t 2)⟩, 
  ⟨(some 16), some (14, false), .load false 1 (.t 15)⟩, 
  ⟨(some 17), some (14, false), .len (.sl 0) (.t 16)⟩, 
  ⟨(some 18), some (14, false), .fadr 1 (.t 3)⟩, 
  ⟨(some 19), some (14, false), .load false 1 (.t 18)⟩, 
  ⟨(some 20), some (14, false), .len (.sl 0) (.t 19)⟩, 
  ⟨(some 21), some (14, false), .bin .neq (.t 17) (.t 20)⟩, 
  ⟨(some 22), none, .pick (.t 14) (.c (.s (.d (.bool true)))) (.t 21)⟩]
def c20r2 : List Opn := [
  ⟨(some 4), none, .mv (.c (.s (.d (.bool false))))⟩]
def c20r3 : List Opn := [
  ⟨(some 23), none, .fadr 0 (.t 2)⟩, 
  ⟨(some 24), none, .load false 1 (.t 23)⟩, 
  ⟨(some 25), none, .len (.sl 0) (.t 24)⟩, 
  ⟨(some 26), none, .mv (.c (.s (.d (.int .i64 0))))⟩]
def c20r4 : List Opn := [
  ⟨(some 27), none, .bin .lss (.t 26) (.t 25)⟩]
def c20r5 : List Opn := [
  ⟨(some 28), none, .mv (.t 26)⟩, 
  ⟨(some 5), none, .mv (.t 28)⟩]
def c20r6 : List Opn := [
  ⟨(some 29), none, .fadr 0 (.t 2)⟩, 
  ⟨(some 30), none, .load false 1 (.t 29)⟩, 
  ⟨(some 31), none, .mv (.t 5)⟩, 
  ⟨(some 32), none, .iadr (.sl 1) (.t 30) (.t 31)⟩, 
  ⟨(some 33), none, .load false 1 (.t 32)⟩, 
  ⟨(some 34), none, .fadr 0 (.t 3)⟩, 
  ⟨(some 35), none, .load false 1 (.t 34)⟩, 
  ⟨(some 36), none, .mv (.t 5)⟩, 
  ⟨(some 37), none, .iadr (.sl 1) (.t 35) (.t 36)⟩, 
  ⟨(some 38), none, .load false 1 (.t 37)⟩, 
  ⟨(some 39), none, .bin .neq (.t 33) (.t 38)⟩]
def c20r7 : List Opn := [
  ⟨(some 4), none, .mv (.c (.s (.d (.bool false))))⟩]
def c20r8 : List Opn := [
  ⟨(some 40), none, .bin .add (.t 26) (.c (.s (.d (.int .i64 1))))⟩, 
  ⟨(some 26), none, .mv (.t 40)⟩]
def c20l9 : C := .seq (.reg c20r4 none [2, 3, 25, 26, 27]) (.seq (.cond (.t 27) (.skip) (.exit 0)) (.seq (.blk 1 (.seq (.reg c20r5 none [2, 3, 5, 25, 26]) (.seq (.reg c20r6 (some [0, 1, 0, 7, 15, 0, 32, 0, 224, 480, 1023]) [2, 3, 25, 26, 39]) (.cond (.t 39) (.seq (.reg c20r7 none [4]) (.ret)) (.skip))))) (.reg c20r8 none [2, 3, 25, 26])))
def c20r9 : List Opn := [
  ⟨(some 41), none, .fadr 1 (.t 2)⟩, 
  ⟨(some 42), none, .load false 1 (.t 41)⟩, 
  ⟨(some 43), none, .len (.sl 0) (.t 42)⟩, 
  ⟨(some 44), none, .mv (.c (.s (.d (.int .i64 0))))⟩]
def c20r10 : List Opn := [
  ⟨(some 45), none, .bin .lss (.t 44) (.t 43)⟩]
def c20r11 : List Opn := [
  ⟨(some 46), none, .mv (.t 44)⟩, 
  ⟨(some 6), none, .mv (.t 46)⟩]
def c20r12 : List Opn := [
  ⟨(some 47), none, .fadr 1 (.t 2)⟩, 
  ⟨(some 48), none, .load false 1 (.t 47)⟩, 
  ⟨(some 49), none, .mv (.t 6)⟩, 
  ⟨(some 50), none, .iadr (.sl 2) (.t 48) (.t 49)⟩, 
  ⟨(some 51), none, .load true 2 (.t 50)⟩, 
  ⟨(some 52), none, .fadr 1 (.t 3)⟩, 
  ⟨(some 53), none, .load false 1 (.t 52)⟩, 
  ⟨(some 54), none, .mv (.t 6)⟩, 
  ⟨(some 55), none, .iadr (.sl 2) (.t 53) (.t 54)⟩, 
  ⟨(some 56), none, .load true 2 (.t 55)⟩, 
  ⟨(some 57), none, .bagg .neq [.int, .str] (.t 51) (.t 56)⟩]
def c20r13 : List Opn := [
  ⟨(some 4), none, .mv (.c (.s (.d (.bool false))))⟩]
def c20r14 : List Opn := [
  ⟨(some 58), none, .bin .add (.t 44) (.c (.s (.d (.int .i64 1))))⟩, 
  ⟨(some 44), none, .mv (.t 58)⟩]
def c20l16 : C := .seq (.reg c20r10 none [2, 3, 43, 44, 45]) (.seq (.cond (.t 45) (.skip) (.exit 2)) (.seq (.blk 3 (.seq (.reg c20r11 none [2, 3, 6, 43, 44]) (.seq (.reg c20r12 (some [0, 1, 0, 7, 15, 0, 32, 0, 224, 480, 1023]) [2, 3, 43, 44, 57]) (.cond (.t 57) (.seq (.reg c20r13 none [4]) (.ret)) (.skip))))) (.reg c20r14 none [2, 3, 43, 44])))
def c20r15 : List Opn := [
  ⟨(some 4), none, .mv (.c (.s (.d (.bool true))))⟩]
def c20 : C := .seq (.reg c20r0 none [2, 3]) (.seq (.seq (.reg c20r1 none [2, 3, 22]) (.cond (.t 22) (.seq (.reg c20r2 none [4]) (.ret)) (.skip))) (.seq (.seq (.reg c20r3 none [2, 3, 25, 26]) (.blk 0 (.loop c20l9))) (.seq (.seq (.reg c20r9 none [2, 3, 43, 44]) (.blk 2 (.loop c20l16))) (.seq (.reg c20r15 none [4]) (.ret)))))
def k20 : List (Nat × List Nat) := [(15, [4]), (14, [2, 3, 43, 44]), (13, [4]), (12, [2, 3, 43, 44, 57]), (11, [2, 3, 6, 43, 44]), (10, [2, 3, 43, 44, 45]), (9, [2, 3, 43, 44]), (8, [2, 3, 25, 26]), (7, [4]), (6, [2, 3, 25, 26, 39]), (5, [2, 3, 5, 25, 26]), (4, [2, 3, 25, 26, 27]), (3, [2, 3, 25, 26]), (2, [4]), (1, [2, 3, 22]), (0, [2, 3])]
theorem cc20 : (Try.f20.body).bind (cC Try.prog 59 k20) = some c20 := by kernel_rfl
def rv20 : List RV := [.t 4]
theorem cr20 : cRVs Try.prog Try.f20.results.toList = some rv20 := by kernel_rfl
theorem f_ref09_Like_l9_ok (a : api_Disk) (b : api_Disk) (y_ : Bool) (R_ : St → Prop) (hR : (Ret Try.prog glP [] rv20 (.b (.s (.d (.bool y_))))) = R_) : ∀ (m_ : Nat) (v26 : Int) (res_ : (Int) ⊕ (Bool)) (h : f_ref09_Like_l9 a b m_ v26 = some res_) (k_ : List It) (hx : ∀ s_ : Int, res_ = .inl s_ → W Try.prog glP 59 k_ ⟨lkT [(2, .b (.s (.ptr 2 1 0 0))), (3, .b (.s (.ptr 3 1 0 0))), (25, .b (.s (.d (.int .i64 (a.Sectors.length : Int))))), (26, .b (.s (.d (.int .i64 s_))))], lkG [(2, ⟨2, [[(.d (.sl (a.Sectors.map eS))), (.d (.sl (a.Dirty.map e_api_Write)))]], false⟩), (3, ⟨2, [[(.d (.sl (b.Sectors.map eS))), (.d (.sl (b.Dirty.map e_api_Write)))]], false⟩)]⟩ R_) (hr : ∀ z_ : Bool, res_ = .inr z_ → z_ = y_), W Try.prog glP 59 (.c c20l9 :: .lp c20l9 :: .blk 0 :: k_) ⟨lkT [(2, .b (.s (.ptr 2 1 0 0))), (3, .b (.s (.ptr 3 1 0 0))), (25, .b (.s (.d (.int .i64 (a.Sectors.length : Int))))), (26, .b (.s (.d (.int .i64 v26))))], lkG [(2, ⟨2, [[(.d (.sl (a.Sectors.map eS))), (.d (.sl (a.Dirty.map e_api_Write)))]], false⟩), (3, ⟨2, [[(.d (.sl (b.Sectors.map eS))), (.d (.sl (b.Dirty.map e_api_Write)))]], false⟩)]⟩ R_ := by
  intro m_; induction m_ with
  | zero => intro v26 res_ h; rw [f_ref09_Like_l9.eq_1] at h; cases h
  | succ m_ ih =>
    intro v26 res_ h k_ hx hr; rw [f_ref09_Like_l9.eq_2] at h; refine W.cdef c20l9.eq_1 ?_
    refine .seq ?_
    refine Rw.walk ?_
    simp only [wz, wd, ws, Nat.reduceAdd, Nat.reduceSub, Nat.reduceMul, Nat.reduceLeDiff, Nat.reduceEqDiff, Nat.reduceLT, Nat.reduceBEq, reduceIte, reduceCtorEq, Int.reduceToNat, Nat.reduceShiftRight, Nat.reduceAnd, Nat.reduceBneDiff, Nat.reduceBNe, c20r4, semI.eq_10, semI.eq_11, semI.eq_3, semI.eq_5, semI.eq_7, e_api_Disk, e_api_Write]
    refine .seq ?_
    refine .cond (p := (decide (v26 < (a.Sectors.length : Int)))) (by first | rfl | simp only [wz, wd, ws, Nat.reduceAdd, Nat.reduceSub, Nat.reduceMul, Nat.reduceLeDiff, Nat.reduceEqDiff, Nat.reduceLT, Nat.reduceBEq, reduceIte, reduceCtorEq, Int.reduceToNat, Nat.reduceShiftRight, Nat.reduceAnd, Nat.reduceBneDiff, Nat.reduceBNe]) (fun h1 => ?_) (fun h1 => ?_)
    · rw [ite_t h1] at h
      refine .skip ?_
      refine .seq ?_
      refine .blk ?_
      refine .seq ?_
      refine Rw.walk ?_
      simp only [wz, wd, ws, Nat.reduceAdd, Nat.reduceSub, Nat.reduceMul, Nat.reduceLeDiff, Nat.reduceEqDiff, Nat.reduceLT, Nat.reduceBEq, reduceIte, reduceCtorEq, Int.reduceToNat, Nat.reduceShiftRight, Nat.reduceAnd, Nat.reduceBneDiff, Nat.reduceBNe, c20r5, semI.eq_10, semI.eq_11, semI.eq_3, semI.eq_5, semI.eq_7, e_api_Disk, e_api_Write]
      refine .seq ?_
      refine RwD.walk ?_
      simp only [wz, wd, ws, Nat.reduceAdd, Nat.reduceSub, Nat.reduceMul, Nat.reduceLeDiff, Nat.reduceEqDiff, Nat.reduceLT, Nat.reduceBEq, reduceIte, reduceCtorEq, Int.reduceToNat, Nat.reduceShiftRight, Nat.reduceAnd, Nat.reduceBneDiff, Nat.reduceBNe, c20r6, semI.eq_10, semI.eq_11, semI.eq_3, semI.eq_5, semI.eq_7, e_api_Disk, e_api_Write]
      obtain ⟨x, e1, h⟩ := Option.bind_eq_some_iff.1 h
      refine GoD1.of (sem_iadr eS_len e1 (by rfl) (by rfl)) ?_
      simp only [wz, wd, ws, Nat.reduceAdd, Nat.reduceSub, Nat.reduceMul, Nat.reduceLeDiff, Nat.reduceEqDiff, Nat.reduceLT, Nat.reduceBEq, reduceIte, reduceCtorEq, Int.reduceToNat, Nat.reduceShiftRight, Nat.reduceAnd, Nat.reduceBneDiff, Nat.reduceBNe, c20r6, semI.eq_10, semI.eq_11, semI.eq_3, semI.eq_5, semI.eq_7, e_api_Disk, e_api_Write]
      obtain ⟨x2, e2, h⟩ := Option.bind_eq_some_iff.1 h
      refine GoD1.of (sem_iadr eS_len e2 (by rfl) (by rfl)) ?_
      simp only [wz, wd, ws, Nat.reduceAdd, Nat.reduceSub, Nat.reduceMul, Nat.reduceLeDiff, Nat.reduceEqDiff, Nat.reduceLT, Nat.reduceBEq, reduceIte, reduceCtorEq, Int.reduceToNat, Nat.reduceShiftRight, Nat.reduceAnd, Nat.reduceBneDiff, Nat.reduceBNe, c20r6, semI.eq_10, semI.eq_11, semI.eq_3, semI.eq_5, semI.eq_7, e_api_Disk, e_api_Write]
      refine .cond (p := (!(x == x2))) (by first | rfl | simp only [wz, wd, ws, Nat.reduceAdd, Nat.reduceSub, Nat.reduceMul, Nat.reduceLeDiff, Nat.reduceEqDiff, Nat.reduceLT, Nat.reduceBEq, reduceIte, reduceCtorEq, Int.reduceToNat, Nat.reduceShiftRight, Nat.reduceAnd, Nat.reduceBneDiff, Nat.reduceBNe]) (fun h1 => ?_) (fun h1 => ?_)
      · rw [ite_t h1] at h
        refine .seq ?_
        refine Rw.walk ?_
        simp only [wz, wd, ws, Nat.reduceAdd, Nat.reduceSub, Nat.reduceMul, Nat.reduceLeDiff, Nat.reduceEqDiff, Nat.reduceLT, Nat.reduceBEq, reduceIte, reduceCtorEq, Int.reduceToNat, Nat.reduceShiftRight, Nat.reduceAnd, Nat.reduceBneDiff, Nat.reduceBNe, c20r7, semI.eq_10, semI.eq_11, semI.eq_3, semI.eq_5, semI.eq_7, e_api_Disk, e_api_Write]
        obtain rfl := Option.some.inj h; obtain rfl := hr _ rfl
        refine .ret ?_
        rw [← hR]
        simp only [wz, wd, ws, Nat.reduceAdd, Nat.reduceSub, Nat.reduceMul, Nat.reduceLeDiff, Nat.reduceEqDiff, Nat.reduceLT, Nat.reduceBEq, reduceIte, reduceCtorEq, Int.reduceToNat, Nat.reduceShiftRight, Nat.reduceAnd, Nat.reduceBneDiff, Nat.reduceBNe, rv20, e_api_Disk, e_api_Write]
      · rw [ite_f h1] at h
        refine .skip ?_
        refine .eblk ?_
        refine Rw.walk ?_
        simp only [wz, wd, ws, Nat.reduceAdd, Nat.reduceSub, Nat.reduceMul, Nat.reduceLeDiff, Nat.reduceEqDiff, Nat.reduceLT, Nat.reduceBEq, reduceIte, reduceCtorEq, Int.reduceToNat, Nat.reduceShiftRight, Nat.reduceAnd, Nat.reduceBneDiff, Nat.reduceBNe, c20r8, semI.eq_10, semI.eq_11, semI.eq_3, semI.eq_5, semI.eq_7, e_api_Disk, e_api_Write]
        refine .lp ?_
        refine .weak (Imp.co [] _ _ ?_ ?_ ?_ ?_ ?_) (ih (IntKind.i64.wrap (v26 + 1)) _ h k_ hx hr) <;> simp only [wz, wd, ws, Nat.reduceAdd, Nat.reduceSub, Nat.reduceMul, Nat.reduceLeDiff, Nat.reduceEqDiff, Nat.reduceLT, Nat.reduceBEq, reduceIte, reduceCtorEq, Int.reduceToNat, Nat.reduceShiftRight, Nat.reduceAnd, Nat.reduceBneDiff, Nat.reduceBNe, wi, er_nil, e_api_Disk, e_api_Write]
    · rw [ite_f h1] at h
      refine .exit rfl ?_
      obtain rfl := Option.some.inj h
      refine .weak (Imp.co [] _ _ ?_ ?_ ?_ ?_ ?_) (hx _ rfl) <;> simp only [wz, wd, ws, Nat.reduceAdd, Nat.reduceSub, Nat.reduceMul, Nat.reduceLeDiff, Nat.reduceEqDiff, Nat.reduceLT, Nat.reduceBEq, reduceIte, reduceCtorEq, Int.reduceToNat, Nat.reduceShiftRight, Nat.reduceAnd, Nat.reduceBneDiff, Nat.reduceBNe, wi, er_nil, e_api_Disk, e_api_Write]
theorem f_ref09_Like_l16_ok (a : api_Disk) (b : api_Disk) (y_ : Bool) (R_ : St → Prop) (hR : (Ret Try.prog glP [] rv20 (.b (.s (.d (.bool y_))))) = R_) : ∀ (m_ : Nat) (v44 : Int) (res_ : (Int) ⊕ (Bool)) (h : f_ref09_Like_l16 a b m_ v44 = some res_) (k_ : List It) (hx : ∀ s_ : Int, res_ = .inl s_ → W Try.prog glP 59 k_ ⟨lkT [(2, .b (.s (.ptr 2 1 0 0))), (3, .b (.s (.ptr 3 1 0 0))), (43, .b (.s (.d (.int .i64 (a.Dirty.length : Int))))), (44, .b (.s (.d (.int .i64 s_))))], lkG [(2, ⟨2, [[(.d (.sl (a.Sectors.map eS))), (.d (.sl (a.Dirty.map e_api_Write)))]], false⟩), (3, ⟨2, [[(.d (.sl (b.Sectors.map eS))), (.d (.sl (b.Dirty.map e_api_Write)))]], false⟩)]⟩ R_) (hr : ∀ z_ : Bool, res_ = .inr z_ → z_ = y_), W Try.prog glP 59 (.c c20l16 :: .lp c20l16 :: .blk 2 :: k_) ⟨lkT [(2, .b (.s (.ptr 2 1 0 0))), (3, .b (.s (.ptr 3 1 0 0))), (43, .b (.s (.d (.int .i64 (a.Dirty.length : Int))))), (44, .b (.s (.d (.int .i64 v44))))], lkG [(2, ⟨2, [[(.d (.sl (a.Sectors.map eS))), (.d (.sl (a.Dirty.map e_api_Write)))]], false⟩), (3, ⟨2, [[(.d (.sl (b.Sectors.map eS))), (.d (.sl (b.Dirty.map e_api_Write)))]], false⟩)]⟩ R_ := by
  intro m_; induction m_ with
  | zero => intro v44 res_ h; rw [f_ref09_Like_l16.eq_1] at h; cases h
  | succ m_ ih =>
    intro v44 res_ h k_ hx hr; rw [f_ref09_Like_l16.eq_2] at h; refine W.cdef c20l16.eq_1 ?_
    refine .seq ?_
    refine Rw.walk ?_
    simp only [wz, wd, ws, Nat.reduceAdd, Nat.reduceSub, Nat.reduceMul, Nat.reduceLeDiff, Nat.reduceEqDiff, Nat.reduceLT, Nat.reduceBEq, reduceIte, reduceCtorEq, Int.reduceToNat, Nat.reduceShiftRight, Nat.reduceAnd, Nat.reduceBneDiff, Nat.reduceBNe, c20r10, semI.eq_10, semI.eq_11, semI.eq_3, semI.eq_5, semI.eq_7, e_api_Disk, e_api_Write]
    refine .seq ?_
    refine .cond (p := (decide (v44 < (a.Dirty.length : Int)))) (by first | rfl | simp only [wz, wd, ws, Nat.reduceAdd, Nat.reduceSub, Nat.reduceMul, Nat.reduceLeDiff, Nat.reduceEqDiff, Nat.reduceLT, Nat.reduceBEq, reduceIte, reduceCtorEq, Int.reduceToNat, Nat.reduceShiftRight, Nat.reduceAnd, Nat.reduceBneDiff, Nat.reduceBNe]) (fun h1 => ?_) (fun h1 => ?_)
    · rw [ite_t h1] at h
      refine .skip ?_
      refine .seq ?_
      refine .blk ?_
      refine .seq ?_
      refine Rw.walk ?_
      simp only [wz, wd, ws, Nat.reduceAdd, Nat.reduceSub, Nat.reduceMul, Nat.reduceLeDiff, Nat.reduceEqDiff, Nat.reduceLT, Nat.reduceBEq, reduceIte, reduceCtorEq, Int.reduceToNat, Nat.reduceShiftRight, Nat.reduceAnd, Nat.reduceBneDiff, Nat.reduceBNe, c20r11, semI.eq_10, semI.eq_11, semI.eq_3, semI.eq_5, semI.eq_7, e_api_Disk, e_api_Write]
      refine .seq ?_
      refine RwD.walk ?_
      simp only [wz, wd, ws, Nat.reduceAdd, Nat.reduceSub, Nat.reduceMul, Nat.reduceLeDiff, Nat.reduceEqDiff, Nat.reduceLT, Nat.reduceBEq, reduceIte, reduceCtorEq, Int.reduceToNat, Nat.reduceShiftRight, Nat.reduceAnd, Nat.reduceBneDiff, Nat.reduceBNe, c20r12, semI.eq_10, semI.eq_11, semI.eq_3, semI.eq_5, semI.eq_7, e_api_Disk, e_api_Write]
      obtain ⟨x, e3, h⟩ := Option.bind_eq_some_iff.1 h
      refine GoD1.of (sem_iadr e_api_Write_len e3 (by rfl) (by rfl)) ?_
      simp only [wz, wd, ws, Nat.reduceAdd, Nat.reduceSub, Nat.reduceMul, Nat.reduceLeDiff, Nat.reduceEqDiff, Nat.reduceLT, Nat.reduceBEq, reduceIte, reduceCtorEq, Int.reduceToNat, Nat.reduceShiftRight, Nat.reduceAnd, Nat.reduceBneDiff, Nat.reduceBNe, c20r12, semI.eq_10, semI.eq_11, semI.eq_3, semI.eq_5, semI.eq_7, e_api_Disk, e_api_Write]
      obtain ⟨x2, e4, h⟩ := Option.bind_eq_some_iff.1 h
      refine GoD1.of (sem_iadr e_api_Write_len e4 (by rfl) (by rfl)) ?_
      simp only [wz, wd, ws, Nat.reduceAdd, Nat.reduceSub, Nat.reduceMul, Nat.reduceLeDiff, Nat.reduceEqDiff, Nat.reduceLT, Nat.reduceBEq, reduceIte, reduceCtorEq, Int.reduceToNat, Nat.reduceShiftRight, Nat.reduceAnd, Nat.reduceBneDiff, Nat.reduceBNe, c20r12, semI.eq_10, semI.eq_11, semI.eq_3, semI.eq_5, semI.eq_7, e_api_Disk, e_api_Write]
      refine .cond (p := (!((x.At == x2.At) && (x.Data == x2.Data)))) (by first | rfl | simp only [wz, wd, ws, Nat.reduceAdd, Nat.reduceSub, Nat.reduceMul, Nat.reduceLeDiff, Nat.reduceEqDiff, Nat.reduceLT, Nat.reduceBEq, reduceIte, reduceCtorEq, Int.reduceToNat, Nat.reduceShiftRight, Nat.reduceAnd, Nat.reduceBneDiff, Nat.reduceBNe]) (fun h1 => ?_) (fun h1 => ?_)
      · rw [ite_t h1] at h
        refine .seq ?_
        refine Rw.walk ?_
        simp only [wz, wd, ws, Nat.reduceAdd, Nat.reduceSub, Nat.reduceMul, Nat.reduceLeDiff, Nat.reduceEqDiff, Nat.reduceLT, Nat.reduceBEq, reduceIte, reduceCtorEq, Int.reduceToNat, Nat.reduceShiftRight, Nat.reduceAnd, Nat.reduceBneDiff, Nat.reduceBNe, c20r13, semI.eq_10, semI.eq_11, semI.eq_3, semI.eq_5, semI.eq_7, e_api_Disk, e_api_Write]
        obtain rfl := Option.some.inj h; obtain rfl := hr _ rfl
        refine .ret ?_
        rw [← hR]
        simp only [wz, wd, ws, Nat.reduceAdd, Nat.reduceSub, Nat.reduceMul, Nat.reduceLeDiff, Nat.reduceEqDiff, Nat.reduceLT, Nat.reduceBEq, reduceIte, reduceCtorEq, Int.reduceToNat, Nat.reduceShiftRight, Nat.reduceAnd, Nat.reduceBneDiff, Nat.reduceBNe, rv20, e_api_Disk, e_api_Write]
      · rw [ite_f h1] at h
        refine .skip ?_
        refine .eblk ?_
        refine Rw.walk ?_
        simp only [wz, wd, ws, Nat.reduceAdd, Nat.reduceSub, Nat.reduceMul, Nat.reduceLeDiff, Nat.reduceEqDiff, Nat.reduceLT, Nat.reduceBEq, reduceIte, reduceCtorEq, Int.reduceToNat, Nat.reduceShiftRight, Nat.reduceAnd, Nat.reduceBneDiff, Nat.reduceBNe, c20r14, semI.eq_10, semI.eq_11, semI.eq_3, semI.eq_5, semI.eq_7, e_api_Disk, e_api_Write]
        refine .lp ?_
        refine .weak (Imp.co [] _ _ ?_ ?_ ?_ ?_ ?_) (ih (IntKind.i64.wrap (v44 + 1)) _ h k_ hx hr) <;> simp only [wz, wd, ws, Nat.reduceAdd, Nat.reduceSub, Nat.reduceMul, Nat.reduceLeDiff, Nat.reduceEqDiff, Nat.reduceLT, Nat.reduceBEq, reduceIte, reduceCtorEq, Int.reduceToNat, Nat.reduceShiftRight, Nat.reduceAnd, Nat.reduceBneDiff, Nat.reduceBNe, wi, er_nil, e_api_Disk, e_api_Write]
    · rw [ite_f h1] at h
      refine .exit rfl ?_
      obtain rfl := Option.some.inj h
      refine .weak (Imp.co [] _ _ ?_ ?_ ?_ ?_ ?_) (hx _ rfl) <;> simp only [wz, wd, ws, Nat.reduceAdd, Nat.reduceSub, Nat.reduceMul, Nat.reduceLeDiff, Nat.reduceEqDiff, Nat.reduceLT, Nat.reduceBEq, reduceIte, reduceCtorEq, Int.reduceToNat, Nat.reduceShiftRight, Nat.reduceAnd, Nat.reduceBneDiff, Nat.reduceBNe, wi, er_nil, e_api_Disk, e_api_Write]
theorem f_ref09_Like_ok (a : api_Disk) (b : api_Disk) (y_ : Bool) (h : f_ref09_Like a b = some y_) : Fun Try.prog glP 20 [.b (.agg ((e_api_Disk a).map Lc.d)), .b (.agg ((e_api_Disk b).map Lc.d))] (.b (.s (.d (.bool y_)))) := by
  refine fun_walk [] Try.func20 Try.ntmps20 cc20 cr20 (by kernel_rfl) (by simp only [List.length_cons, List.length_nil]; decide) ?_
  generalize hR : Ret _ _ _ _ _ = R_
  simp only [wz, wd, ws, Nat.reduceAdd, Nat.reduceSub, Nat.reduceMul, Nat.reduceLeDiff, Nat.reduceEqDiff, Nat.reduceLT, Nat.reduceBEq, reduceIte, reduceCtorEq, Int.reduceToNat, Nat.reduceShiftRight, Nat.reduceAnd, Nat.reduceBneDiff, Nat.reduceBNe, e_api_Disk, e_api_Write]
  unfold f_ref09_Like at h; unfold c20
  refine .seq ?_
  refine Rw.walk ?_
  simp only [wz, wd, ws, Nat.reduceAdd, Nat.reduceSub, Nat.reduceMul, Nat.reduceLeDiff, Nat.reduceEqDiff, Nat.reduceLT, Nat.reduceBEq, reduceIte, reduceCtorEq, Int.reduceToNat, Nat.reduceShiftRight, Nat.reduceAnd, Nat.reduceBneDiff, Nat.reduceBNe, c20r0, semI.eq_10, semI.eq_11, semI.eq_3, semI.eq_5, semI.eq_7, e_api_Disk, e_api_Write]
  refine .seq ?_
  refine .seq ?_
  refine Rw.walk ?_
  simp only [wz, wd, ws, Nat.reduceAdd, Nat.reduceSub, Nat.reduceMul, Nat.reduceLeDiff, Nat.reduceEqDiff, Nat.reduceLT, Nat.reduceBEq, reduceIte, reduceCtorEq, Int.reduceToNat, Nat.reduceShiftRight, Nat.reduceAnd, Nat.reduceBneDiff, Nat.reduceBNe, c20r1, semI.eq_10, semI.eq_11, semI.eq_3, semI.eq_5, semI.eq_7, e_api_Disk, e_api_Write]
  refine call_alt (v := .b (.s (.d (.sl (a.Dirty.map e_api_Write))))) rfl rfl (by simp only [wz, wd, ws, Nat.reduceAdd, Nat.reduceSub, Nat.reduceMul, Nat.reduceLeDiff, Nat.reduceEqDiff, Nat.reduceLT, Nat.reduceBEq, reduceIte, reduceCtorEq, Int.reduceToNat, Nat.reduceShiftRight, Nat.reduceAnd, Nat.reduceBneDiff, Nat.reduceBNe]) (fun q => ⟨_, by simp only [wz, wd, ws, Nat.reduceAdd, Nat.reduceSub, Nat.reduceMul, Nat.reduceLeDiff, Nat.reduceEqDiff, Nat.reduceLT, Nat.reduceBEq, reduceIte, reduceCtorEq, Int.reduceToNat, Nat.reduceShiftRight, Nat.reduceAnd, Nat.reduceBneDiff, Nat.reduceBNe, semI.eq_10, e_api_Disk, e_api_Write], trivial⟩) ?_
  simp only [wz, wd, ws, Nat.reduceAdd, Nat.reduceSub, Nat.reduceMul, Nat.reduceLeDiff, Nat.reduceEqDiff, Nat.reduceLT, Nat.reduceBEq, reduceIte, reduceCtorEq, Int.reduceToNat, Nat.reduceShiftRight, Nat.reduceAnd, Nat.reduceBneDiff, Nat.reduceBNe, c20r1, semI.eq_10, semI.eq_11, semI.eq_3, semI.eq_5, semI.eq_7, e_api_Disk, e_api_Write]
  refine call_alt (v := .b (.s (.d (.sl (b.Dirty.map e_api_Write))))) rfl rfl (by simp only [wz, wd, ws, Nat.reduceAdd, Nat.reduceSub, Nat.reduceMul, Nat.reduceLeDiff, Nat.reduceEqDiff, Nat.reduceLT, Nat.reduceBEq, reduceIte, reduceCtorEq, Int.reduceToNat, Nat.reduceShiftRight, Nat.reduceAnd, Nat.reduceBneDiff, Nat.reduceBNe]) (fun q => ⟨_, by simp only [wz, wd, ws, Nat.reduceAdd, Nat.reduceSub, Nat.reduceMul, Nat.reduceLeDiff, Nat.reduceEqDiff, Nat.reduceLT, Nat.reduceBEq, reduceIte, reduceCtorEq, Int.reduceToNat, Nat.reduceShiftRight, Nat.reduceAnd, Nat.reduceBneDiff, Nat.reduceBNe, semI.eq_10, e_api_Disk, e_api_Write], trivial⟩) ?_
  simp only [wz, wd, ws, Nat.reduceAdd, Nat.reduceSub, Nat.reduceMul, Nat.reduceLeDiff, Nat.reduceEqDiff, Nat.reduceLT, Nat.reduceBEq, reduceIte, reduceCtorEq, Int.reduceToNat, Nat.reduceShiftRight, Nat.reduceAnd, Nat.reduceBneDiff, Nat.reduceBNe, c20r1, semI.eq_10, semI.eq_11, semI.eq_3, semI.eq_5, semI.eq_7, e_api_Disk, e_api_Write]
  repeat (refine And.intro ?_ ?_; · first | omega | (simp only [List.length_append, List.length_cons, List.length_nil] at *; omega) | (intro q; simp only [wz, wd, ws, Nat.reduceAdd, Nat.reduceSub, Nat.reduceMul, Nat.reduceLeDiff, Nat.reduceEqDiff, Nat.reduceLT, Nat.reduceBEq, reduceIte, reduceCtorEq, Int.reduceToNat, Nat.reduceShiftRight, Nat.reduceAnd, Nat.reduceBneDiff, Nat.reduceBNe, q]; done))
  refine .cond (p := (((a.Sectors.length : Int) != (b.Sectors.length : Int)) || ((a.Dirty.length : Int) != (b.Dirty.length : Int)))) (by first | rfl | simp only [wz, wd, ws, Nat.reduceAdd, Nat.reduceSub, Nat.reduceMul, Nat.reduceLeDiff, Nat.reduceEqDiff, Nat.reduceLT, Nat.reduceBEq, reduceIte, reduceCtorEq, Int.reduceToNat, Nat.reduceShiftRight, Nat.reduceAnd, Nat.reduceBneDiff, Nat.reduceBNe]) (fun h1 => ?_) (fun h1 => ?_)
  · rw [ite_t h1] at h
    refine .seq ?_
    refine Rw.walk ?_
    simp only [wz, wd, ws, Nat.reduceAdd, Nat.reduceSub, Nat.reduceMul, Nat.reduceLeDiff, Nat.reduceEqDiff, Nat.reduceLT, Nat.reduceBEq, reduceIte, reduceCtorEq, Int.reduceToNat, Nat.reduceShiftRight, Nat.reduceAnd, Nat.reduceBneDiff, Nat.reduceBNe, c20r2, semI.eq_10, semI.eq_11, semI.eq_3, semI.eq_5, semI.eq_7, e_api_Disk, e_api_Write]
    obtain rfl := Option.some.inj h
    refine .ret ?_
    rw [← hR]
    simp only [wz, wd, ws, Nat.reduceAdd, Nat.reduceSub, Nat.reduceMul, Nat.reduceLeDiff, Nat.reduceEqDiff, Nat.reduceLT, Nat.reduceBEq, reduceIte, reduceCtorEq, Int.reduceToNat, Nat.reduceShiftRight, Nat.reduceAnd, Nat.reduceBneDiff, Nat.reduceBNe, rv20, e_api_Disk, e_api_Write]
  · rw [ite_f h1] at h
    refine .skip ?_
    refine .seq ?_
    refine .seq ?_
    refine Rw.walk ?_
    simp only [wz, wd, ws, Nat.reduceAdd, Nat.reduceSub, Nat.reduceMul, Nat.reduceLeDiff, Nat.reduceEqDiff, Nat.reduceLT, Nat.reduceBEq, reduceIte, reduceCtorEq, Int.reduceToNat, Nat.reduceShiftRight, Nat.reduceAnd, Nat.reduceBneDiff, Nat.reduceBNe, c20r3, semI.eq_10, semI.eq_11, semI.eq_3, semI.eq_5, semI.eq_7, e_api_Disk, e_api_Write]
    refine .blk ?_
    obtain ⟨s, hf, h⟩ := Option.bind_eq_some_iff.1 h
    refine .loop (.weak (Imp.co [] _ _ ?c1 ?c2 ?c3 ?c4 ?c5) (f_ref09_Like_l9_ok a b _ _ hR _ _ _ hf _ ?_ ?_))
    case c1 | c2 | c3 | c4 | c5 => simp only [wz, wd, ws, Nat.reduceAdd, Nat.reduceSub, Nat.reduceMul, Nat.reduceLeDiff, Nat.reduceEqDiff, Nat.reduceLT, Nat.reduceBEq, reduceIte, reduceCtorEq, Int.reduceToNat, Nat.reduceShiftRight, Nat.reduceAnd, Nat.reduceBneDiff, Nat.reduceBNe, wi, er_nil, e_api_Disk, e_api_Write]
    · intro s2 hs; subst hs; dsimp only at h
      refine .seq ?_
      refine .seq ?_
      refine Rw.walk ?_
      simp only [wz, wd, ws, Nat.reduceAdd, Nat.reduceSub, Nat.reduceMul, Nat.reduceLeDiff, Nat.reduceEqDiff, Nat.reduceLT, Nat.reduceBEq, reduceIte, reduceCtorEq, Int.reduceToNat, Nat.reduceShiftRight, Nat.reduceAnd, Nat.reduceBneDiff, Nat.reduceBNe, c20r9, semI.eq_10, semI.eq_11, semI.eq_3, semI.eq_5, semI.eq_7, e_api_Disk, e_api_Write]
      refine .blk ?_
      obtain ⟨s, hf, h⟩ := Option.bind_eq_some_iff.1 h
      refine .loop (.weak (Imp.co [] _ _ ?c1 ?c2 ?c3 ?c4 ?c5) (f_ref09_Like_l16_ok a b _ _ hR _ _ _ hf _ ?_ ?_))
      case c1 | c2 | c3 | c4 | c5 => simp only [wz, wd, ws, Nat.reduceAdd, Nat.reduceSub, Nat.reduceMul, Nat.reduceLeDiff, Nat.reduceEqDiff, Nat.reduceLT, Nat.reduceBEq, reduceIte, reduceCtorEq, Int.reduceToNat, Nat.reduceShiftRight, Nat.reduceAnd, Nat.reduceBneDiff, Nat.reduceBNe, wi, er_nil, e_api_Disk, e_api_Write]
      · intro s3 hs; subst hs; dsimp only at h
        refine .seq ?_
        refine Rw.walk ?_
        simp only [wz, wd, ws, Nat.reduceAdd, Nat.reduceSub, Nat.reduceMul, Nat.reduceLeDiff, Nat.reduceEqDiff, Nat.reduceLT, Nat.reduceBEq, reduceIte, reduceCtorEq, Int.reduceToNat, Nat.reduceShiftRight, Nat.reduceAnd, Nat.reduceBneDiff, Nat.reduceBNe, c20r15, semI.eq_10, semI.eq_11, semI.eq_3, semI.eq_5, semI.eq_7, e_api_Disk, e_api_Write]
        obtain rfl := Option.some.inj h
        refine .ret ?_
        rw [← hR]
        simp only [wz, wd, ws, Nat.reduceAdd, Nat.reduceSub, Nat.reduceMul, Nat.reduceLeDiff, Nat.reduceEqDiff, Nat.reduceLT, Nat.reduceBEq, reduceIte, reduceCtorEq, Int.reduceToNat, Nat.reduceShiftRight, Nat.reduceAnd, Nat.reduceBneDiff, Nat.reduceBNe, rv20, e_api_Disk, e_api_Write]
      · intro z hz; subst hz; dsimp only at h
        exact Option.some.inj h
    · intro z hz; subst hz; dsimp only at h
      exact Option.some.inj h
-- 4 consignor/consignorlaw10.LedgerOrder
def c4r0 : List Opn := [
  ⟨(some 6), none, .mv (.c (.s (.d (.bool false))))⟩]
def c4r1 : List Opn := [
  ⟨(some 15), none, .mv (.t 0)⟩, 
  ⟨(some 16), none, .mm true (.t 15) (.c (.s (.d (.int .i64 4))))⟩, 
  ⟨(some 17), none, .mm false (.t 16) (.c (.s (.d (.int .i64 64))))⟩, 
  ⟨(some 0), none, .mv (.t 17)⟩]
def c4r2 : List Opn := [
  ⟨(some 18), none, .mv (.t 1)⟩, 
  ⟨(some 19), none, .call (.fn 17) [(.t 18)]⟩, 
  ⟨(some 1), none, .mv (.t 19)⟩]
def c4r3 : List Opn := [
  ⟨(some 20), none, .mv (.t 2)⟩, 
  ⟨(some 21), none, .mv (.t 1)⟩, 
  ⟨(some 22), none, .len (.sl 0) (.t 21)⟩, 
  ⟨(some 23), none, .bin .add (.t 22) (.c (.s (.d (.int .i64 1))))⟩, 
  ⟨(some 24), none, .bin .rem (.t 20) (.t 23)⟩, 
  ⟨(some 25), none, .mv (.t 1)⟩, 
  ⟨(some 26), none, .len (.sl 0) (.t 25)⟩, 
  ⟨(some 27), none, .bin .add (.t 24) (.t 26)⟩, 
  ⟨(some 28), none, .bin .add (.t 27) (.c (.s (.d (.int .i64 1))))⟩, 
  ⟨(some 29), none, .mv (.t 1)⟩, 
  ⟨(some 30), none, .len (.sl 0) (.t 29)⟩, 
  ⟨(some 31), none, .bin .add (.t 30) (.c (.s (.d (.int .i64 1))))⟩, 
  ⟨(some 32), none, .bin .rem (.t 28) (.t 31)⟩, 
  ⟨(some 2), none, .mv (.t 32)⟩]
def c4r4 : List Opn := [
  ⟨(some 34), none, .mv (.t 0)⟩, 
  ⟨(some 35), none, .call (.fn 12) [(.t 34)]⟩, 
  ⟨(some 33), none, .mv (.t 35)⟩, 
  ⟨(some 36), none, .ext (.t 33) 0⟩, 
  ⟨(some 37), none, .ext (.t 33) 1⟩, 
  ⟨(some 7), none, .new [.nils, .nils, (.d (.int .i64 0)), (.d (.int .i64 0)), (.d (.int .i64 0)), .nils]⟩, 
  ⟨none, none, .store 6 (.t 7) (.t 36)⟩, 
  ⟨(some 8), none, .mv (.t 37)⟩]
def c4r5 : List Opn := [
  ⟨(some 39), none, .load true 6 (.t 7)⟩, 
  ⟨(some 40), none, .mv (.t 1)⟩, 
  ⟨(some 41), none, .call (.fn 18) [(.t 39), (.t 40)]⟩, 
  ⟨(some 38), none, .mv (.t 41)⟩, 
  ⟨(some 42), none, .ext (.t 38) 0⟩, 
  ⟨(some 43), none, .ext (.t 38) 1⟩, 
  ⟨(some 9), none, .new [.nils, .nils, (.d (.int .i64 0)), (.d (.int .i64 0)), (.d (.int .i64 0)), .nils]⟩, 
  ⟨none, none, .store 6 (.t 9) (.t 42)⟩, 
  ⟨(some 10), none, .mv (.t 43)⟩]
def c4r6 : List Opn := [
  ⟨(some 45), none, .load true 6 (.t 7)⟩, 
  ⟨(some 46), none, .mv (.t 1)⟩, 
  ⟨(some 47), none, .mv (.t 2)⟩, 
  ⟨(some 48), none, .slc (.sl 1) (.t 46) none (some (.t 47)) none⟩, 
  ⟨(some 49), none, .call (.fn 18) [(.t 45), (.t 48)]⟩, 
  ⟨(some 44), none, .mv (.t 49)⟩, 
  ⟨(some 50), none, .ext (.t 44) 0⟩, 
  ⟨(some 51), none, .ext (.t 44) 1⟩, 
  ⟨(some 11), none, .new [.nils, .nils, (.d (.int .i64 0)), (.d (.int .i64 0)), (.d (.int .i64 0)), .nils]⟩, 
  ⟨none, none, .store 6 (.t 11) (.t 50)⟩, 
  ⟨(some 12), none, .mv (.t 51)⟩]
def c4r7 : List Opn := [
  ⟨(some 52), none, .mv (.t 8)⟩, 
  ⟨(some 53), none, .bin .neq (.t 52) (.c (.s (.d (.int .i64 0))))⟩, 
  ⟨(some 54), none, .mv (.t 53)⟩, 
  ⟨(some 55), some (54, false), .call (.fn 14) []⟩, 
  ⟨(some 56), some (54, false), .un .not (.t 55)⟩, 
  ⟨(some 57), none, .pick (.t 54) (.c (.s (.d (.bool true)))) (.t 56)⟩]
def c4r8 : List Opn := [
  ⟨(some 6), none, .mv (.c (.s (.d (.bool false))))⟩]
def c4r9 : List Opn := [
  ⟨(some 58), none, .mv (.t 10)⟩, 
  ⟨(some 59), none, .bin .neq (.t 58) (.c (.s (.d (.int .i64 0))))⟩, 
  ⟨(some 60), none, .mv (.t 59)⟩, 
  ⟨(some 61), some (60, false), .mv (.t 12)⟩, 
  ⟨(some 62), some (60, false), .bin .neq (.t 61) (.c (.s (.d (.int .i64 0))))⟩, 
  ⟨(some 63), none, .pick (.t 60) (.c (.s (.d (.bool true)))) (.t 62)⟩]
def c4r10 : List Opn := [
  ⟨(some 64), none, .mv (.t 10)⟩, 
  ⟨(some 65), none, .bin .eql (.t 64) (.c (.s (.d (.int .i64 13))))⟩, 
  ⟨(some 66), none, .mv (.t 65)⟩, 
  ⟨(some 67), some (66, false), .mv (.t 10)⟩, 
  ⟨(some 68), some (66, false), .bin .eql (.t 67) (.c (.s (.d (.int .i64 2))))⟩, 
  ⟨(some 69), none, .pick (.t 66) (.c (.s (.d (.bool true)))) (.t 68)⟩, 
  ⟨(some 6), none, .mv (.t 69)⟩]
def c4r11 : List Opn := [
  ⟨(some 71), none, .load true 6 (.t 11)⟩, 
  ⟨(some 72), none, .mv (.t 1)⟩, 
  ⟨(some 73), none, .mv (.t 2)⟩, 
  ⟨(some 74), none, .slc (.sl 1) (.t 72) (some (.t 73)) none none⟩, 
  ⟨(some 75), none, .call (.fn 18) [(.t 71), (.t 74)]⟩, 
  ⟨(some 70), none, .mv (.t 75)⟩, 
  ⟨(some 76), none, .ext (.t 70) 0⟩, 
  ⟨(some 77), none, .ext (.t 70) 1⟩, 
  ⟨(some 13), none, .new [.nils, .nils, (.d (.int .i64 0)), (.d (.int .i64 0)), (.d (.int .i64 0)), .nils]⟩, 
  ⟨none, none, .store 6 (.t 13) (.t 76)⟩, 
  ⟨(some 14), none, .mv (.t 77)⟩]
def c4r12 : List Opn := [
  ⟨(some 78), none, .mv (.t 14)⟩, 
  ⟨(some 79), none, .bin .eql (.t 78) (.c (.s (.d (.int .i64 0))))⟩, 
  ⟨(some 80), none, .mv (.t 79)⟩, 
  ⟨(some 81), some (80, true), .fadr 5 (.t 13)⟩, 
  ⟨(some 82), some (80, true), .load false 1 (.t 81)⟩, 
  ⟨(some 83), some (80, true), .fadr 5 (.t 9)⟩, 
  ⟨(some 84), some (80, true), .load false 1 (.t 83)⟩, 
  ⟨(some 85), some (80, true), .call (.fn 19) [(.t 82), (.t 84)]⟩, 
  ⟨(some 86), none, .pick (.t 80) (.t 85) (.c (.s (.d (.bool false))))⟩, 
  ⟨(some 87), none, .mv (.t 86)⟩, 
  ⟨(some 88), some (87, true), .fadr 4 (.t 13)⟩, 
  ⟨(some 89), some (87, true), .load false 1 (.t 88)⟩, 
  ⟨(some 90), some (87, true), .fadr 4 (.t 9)⟩, 
  ⟨(some 91), some (87, true), .load false 1 (.t 90)⟩, 
  ⟨(some 92), some (87, true), .bin .eql (.t 89) (.t 91)⟩, 
  ⟨(some 93), none, .pick (.t 87) (.t 92) (.c (.s (.d (.bool false))))⟩, 
  ⟨(some 94), none, .mv (.t 93)⟩, 
  ⟨(some 95), some (94, true), .fadr 0 (.t 13)⟩, 
  ⟨(some 96), some (94, true), .load true 2 (.t 95)⟩, 
  ⟨(some 97), some (94, true), .fadr 0 (.t 9)⟩, 
  ⟨(some 98), some (94, true), .load true 2 (.t 97)⟩, 
  ⟨(some 99), some (94, true), .call (.fn 20) [(.t 96), (.t 98)]⟩, 
  ⟨(some 100), none, .pick (.t 94) (.t 99) (.c (.s (.d (.bool false))))⟩, 
  ⟨(some 6), none, .mv (.t 100)⟩]
def c4 : C := .seq (.reg c4r0 none [0, 1, 2]) (.seq (.reg c4r1 none [0, 1, 2]) (.seq (.reg c4r2 none [0, 1, 2]) (.seq (.reg c4r3 none [0, 1, 2]) (.seq (.reg c4r4 none [1, 2, 7, 8]) (.seq (.reg c4r5 none [1, 2, 7, 8, 9, 10]) (.seq (.reg c4r6 (some [0, 0, 0, 6, 15, 31, 63, 63, 0, 383, 1023]) [1, 2, 8, 9, 10, 11, 12]) (.seq (.seq (.reg c4r7 none [1, 2, 9, 10, 11, 12, 57]) (.cond (.t 57) (.seq (.reg c4r8 none [6]) (.ret)) (.skip))) (.seq (.seq (.reg c4r9 none [1, 2, 9, 10, 11, 63]) (.cond (.t 63) (.seq (.reg c4r10 none [6]) (.ret)) (.skip))) (.seq (.reg c4r11 (some [0, 0, 0, 6, 15, 31, 63, 63, 0, 383, 1023]) [9, 13, 14]) (.seq (.reg c4r12 none [6]) (.ret)))))))))))
def k4 : List (Nat × List Nat) := [(12, [6]), (11, [9, 13, 14]), (10, [6]), (9, [1, 2, 9, 10, 11, 63]), (8, [6]), (7, [1, 2, 9, 10, 11, 12, 57]), (6, [1, 2, 8, 9, 10, 11, 12]), (5, [1, 2, 7, 8, 9, 10]), (4, [1, 2, 7, 8]), (3, [0, 1, 2]), (2, [0, 1, 2]), (1, [0, 1, 2]), (0, [0, 1, 2])]
theorem cc4 : (Try.f4.body).bind (cC Try.prog 101 k4) = some c4 := by kernel_rfl
def rv4 : List RV := [.t 6]
theorem cr4 : cRVs Try.prog Try.f4.results.toList = some rv4 := by kernel_rfl
theorem f_law10_LedgerOrder_ok (sectors : Int) (l : (List Str)) (atv : Int) (y_ : Bool) (h : f_law10_LedgerOrder sectors l atv = some y_) : Fun Try.prog glP 4 [.b (.s (.d (.int .i64 sectors))), .b (.s (.d (.sl (l.map eS)))), .b (.s (.d (.int .i64 atv)))] (.b (.s (.d (.bool y_)))) := by
  refine fun_walk [] Try.func4 Try.ntmps4 cc4 cr4 (by kernel_rfl) (by simp only [List.length_cons, List.length_nil]; decide) ?_
  generalize hR : Ret _ _ _ _ _ = R_
  simp only [wz, wd, ws, Nat.reduceAdd, Nat.reduceSub, Nat.reduceMul, Nat.reduceLeDiff, Nat.reduceEqDiff, Nat.reduceLT, Nat.reduceBEq, reduceIte, reduceCtorEq, Int.reduceToNat, Nat.reduceShiftRight, Nat.reduceAnd, Nat.reduceBneDiff, Nat.reduceBNe, e_api_Ledger, e_api_Disk, e_api_Write]
  unfold f_law10_LedgerOrder at h; unfold c4
  refine .seq ?_
  refine Rw.walk ?_
  simp only [wz, wd, ws, Nat.reduceAdd, Nat.reduceSub, Nat.reduceMul, Nat.reduceLeDiff, Nat.reduceEqDiff, Nat.reduceLT, Nat.reduceBEq, reduceIte, reduceCtorEq, Int.reduceToNat, Nat.reduceShiftRight, Nat.reduceAnd, Nat.reduceBneDiff, Nat.reduceBNe, c4r0, semI.eq_10, semI.eq_11, semI.eq_3, semI.eq_5, semI.eq_7, e_api_Ledger, e_api_Disk, e_api_Write]
  refine .seq ?_
  refine Rw.walk ?_
  simp only [wz, wd, ws, Nat.reduceAdd, Nat.reduceSub, Nat.reduceMul, Nat.reduceLeDiff, Nat.reduceEqDiff, Nat.reduceLT, Nat.reduceBEq, reduceIte, reduceCtorEq, Int.reduceToNat, Nat.reduceShiftRight, Nat.reduceAnd, Nat.reduceBneDiff, Nat.reduceBNe, c4r1, semI.eq_10, semI.eq_11, semI.eq_3, semI.eq_5, semI.eq_7, e_api_Ledger, e_api_Disk, e_api_Write]
  obtain ⟨sectors2, e1, h⟩ := Option.bind_eq_some_iff.1 h
  replace e1 := Option.some.inj e1
  first | simp only [e1] | (simp only [wz, wd, ws, Nat.reduceAdd, Nat.reduceSub, Nat.reduceMul, Nat.reduceLeDiff, Nat.reduceEqDiff, Nat.reduceLT, Nat.reduceBEq, reduceIte, reduceCtorEq, Int.reduceToNat, Nat.reduceShiftRight, Nat.reduceAnd, Nat.reduceBneDiff, Nat.reduceBNe, e_api_Ledger, e_api_Disk, e_api_Write] at e1; simp only [e1])
  refine .seq ?_
  refine Rw.walk ?_
  simp only [wz, wd, ws, Nat.reduceAdd, Nat.reduceSub, Nat.reduceMul, Nat.reduceLeDiff, Nat.reduceEqDiff, Nat.reduceLT, Nat.reduceBEq, reduceIte, reduceCtorEq, Int.reduceToNat, Nat.reduceShiftRight, Nat.reduceAnd, Nat.reduceBneDiff, Nat.reduceBNe, c4r2, semI.eq_10, semI.eq_11, semI.eq_3, semI.eq_5, semI.eq_7, e_api_Ledger, e_api_Disk, e_api_Write]
  obtain ⟨t, e2, h⟩ := Option.bind_eq_some_iff.1 h
  refine call_funO' [] ⟨trivial, trivial, trivial⟩ rfl ?_ (f_law10_texts_ok _ _ e2) rfl (.inl rfl) ?_
  · simp only [wz, wd, ws, Nat.reduceAdd, Nat.reduceSub, Nat.reduceMul, Nat.reduceLeDiff, Nat.reduceEqDiff, Nat.reduceLT, Nat.reduceBEq, reduceIte, reduceCtorEq, Int.reduceToNat, Nat.reduceShiftRight, Nat.reduceAnd, Nat.reduceBneDiff, Nat.reduceBNe, e_api_Ledger, e_api_Disk, e_api_Write]
  simp only [wz, wd, ws, Nat.reduceAdd, Nat.reduceSub, Nat.reduceMul, Nat.reduceLeDiff, Nat.reduceEqDiff, Nat.reduceLT, Nat.reduceBEq, reduceIte, reduceCtorEq, Int.reduceToNat, Nat.reduceShiftRight, Nat.reduceAnd, Nat.reduceBneDiff, Nat.reduceBNe, c4r2, semI.eq_10, semI.eq_11, semI.eq_3, semI.eq_5, semI.eq_7, e_api_Ledger, e_api_Disk, e_api_Write]
  refine .seq ?_
  refine Rw.walk ?_
  obtain ⟨g3, h⟩ := gd_iff.1 h
  obtain ⟨g4, h⟩ := gd_iff.1 h
  simp only [wz, wd, ws, Nat.reduceAdd, Nat.reduceSub, Nat.reduceMul, Nat.reduceLeDiff, Nat.reduceEqDiff, Nat.reduceLT, Nat.reduceBEq, reduceIte, reduceCtorEq, Int.reduceToNat, Nat.reduceShiftRight, Nat.reduceAnd, Nat.reduceBneDiff, Nat.reduceBNe, c4r3, semI.eq_10, semI.eq_11, semI.eq_3, semI.eq_5, semI.eq_7, e_api_Ledger, e_api_Disk, e_api_Write]
  repeat (refine And.intro ?_ ?_; · first | omega | (simp only [List.length_append, List.length_cons, List.length_nil] at *; omega) | (intro q; simp only [wz, wd, ws, Nat.reduceAdd, Nat.reduceSub, Nat.reduceMul, Nat.reduceLeDiff, Nat.reduceEqDiff, Nat.reduceLT, Nat.reduceBEq, reduceIte, reduceCtorEq, Int.reduceToNat, Nat.reduceShiftRight, Nat.reduceAnd, Nat.reduceBneDiff, Nat.reduceBNe, q]; done))
  obtain ⟨atv2, e5, h⟩ := Option.bind_eq_some_iff.1 h
  replace e5 := Option.some.inj e5
  first | simp only [e5] | (simp only [wz, wd, ws, Nat.reduceAdd, Nat.reduceSub, Nat.reduceMul, Nat.reduceLeDiff, Nat.reduceEqDiff, Nat.reduceLT, Nat.reduceBEq, reduceIte, reduceCtorEq, Int.reduceToNat, Nat.reduceShiftRight, Nat.reduceAnd, Nat.reduceBneDiff, Nat.reduceBNe, e_api_Ledger, e_api_Disk, e_api_Write] at e5; simp only [e5])
  refine .seq ?_
  refine Rw.walk ?_
  simp only [wz, wd, ws, Nat.reduceAdd, Nat.reduceSub, Nat.reduceMul, Nat.reduceLeDiff, Nat.reduceEqDiff, Nat.reduceLT, Nat.reduceBEq, reduceIte, reduceCtorEq, Int.reduceToNat, Nat.reduceShiftRight, Nat.reduceAnd, Nat.reduceBneDiff, Nat.reduceBNe, c4r4, semI.eq_10, semI.eq_11, semI.eq_3, semI.eq_5, semI.eq_7, e_api_Ledger, e_api_Disk, e_api_Write]
  obtain ⟨t2, e6, h⟩ := Option.bind_eq_some_iff.1 h
  refine call_fun [] true ⟨trivial, trivial, trivial⟩ rfl ?_ (f_ledger_Format_ok _ _ e6) (fun h => by cases h) (fun i hi => by cases hi) ?_
  · simp only [wz, wd, ws, Nat.reduceAdd, Nat.reduceSub, Nat.reduceMul, Nat.reduceLeDiff, Nat.reduceEqDiff, Nat.reduceLT, Nat.reduceBEq, reduceIte, reduceCtorEq, Int.reduceToNat, Nat.reduceShiftRight, Nat.reduceAnd, Nat.reduceBneDiff, Nat.reduceBNe, e_api_Ledger, e_api_Disk, e_api_Write]
  simp only [wz, wd, ws, Nat.reduceAdd, Nat.reduceSub, Nat.reduceMul, Nat.reduceLeDiff, Nat.reduceEqDiff, Nat.reduceLT, Nat.reduceBEq, reduceIte, reduceCtorEq, Int.reduceToNat, Nat.reduceShiftRight, Nat.reduceAnd, Nat.reduceBneDiff, Nat.reduceBNe, c4r4, semI.eq_10, semI.eq_11, semI.eq_3, semI.eq_5, semI.eq_7, e_api_Ledger, e_api_Disk, e_api_Write]
  refine .seq ?_
  refine Rw.walk ?_
  simp only [wz, wd, ws, Nat.reduceAdd, Nat.reduceSub, Nat.reduceMul, Nat.reduceLeDiff, Nat.reduceEqDiff, Nat.reduceLT, Nat.reduceBEq, reduceIte, reduceCtorEq, Int.reduceToNat, Nat.reduceShiftRight, Nat.reduceAnd, Nat.reduceBneDiff, Nat.reduceBNe, c4r5, semI.eq_10, semI.eq_11, semI.eq_3, semI.eq_5, semI.eq_7, e_api_Ledger, e_api_Disk, e_api_Write]
  obtain ⟨t3, e7, h⟩ := Option.bind_eq_some_iff.1 h
  refine call_fun [19] true ⟨trivial, trivial, trivial, trivial⟩ rfl ?_ (f_ledger_Add_ok _ _ _ e7) (fun h => by cases h) (fun i hi e he => coF_get (l := [19]) (by simp only [wz, wd, ws, Nat.reduceAdd, Nat.reduceSub, Nat.reduceMul, Nat.reduceLeDiff, Nat.reduceEqDiff, Nat.reduceLT, Nat.reduceBEq, reduceIte, reduceCtorEq, Int.reduceToNat, Nat.reduceShiftRight, Nat.reduceAnd, Nat.reduceBneDiff, Nat.reduceBNe, wi, e_api_Ledger, e_api_Disk, e_api_Write]) i e hi he) ?_
  · simp only [wz, wd, ws, Nat.reduceAdd, Nat.reduceSub, Nat.reduceMul, Nat.reduceLeDiff, Nat.reduceEqDiff, Nat.reduceLT, Nat.reduceBEq, reduceIte, reduceCtorEq, Int.reduceToNat, Nat.reduceShiftRight, Nat.reduceAnd, Nat.reduceBneDiff, Nat.reduceBNe, e_api_Ledger, e_api_Disk, e_api_Write, frz.eq_1, er_back]
  simp only [wz, wd, ws, Nat.reduceAdd, Nat.reduceSub, Nat.reduceMul, Nat.reduceLeDiff, Nat.reduceEqDiff, Nat.reduceLT, Nat.reduceBEq, reduceIte, reduceCtorEq, Int.reduceToNat, Nat.reduceShiftRight, Nat.reduceAnd, Nat.reduceBneDiff, Nat.reduceBNe, c4r5, semI.eq_10, semI.eq_11, semI.eq_3, semI.eq_5, semI.eq_7, e_api_Ledger, e_api_Disk, e_api_Write, frz.eq_1, er_back]
  refine .seq ?_
  refine .weak (Imp.co [19] [(1, .b (.s (.d (.sl (t.map eS))))), (2, .b (.s (.d (.int .i64 atv2)))), (7, .b (.s (.ptr 7 1 0 0))), (8, .b (.s (.d (.int .i64 t2.2)))), (9, .b (.s (.ptr 9 1 0 0))), (10, .b (.s (.d (.int .i64 t3.2))))] [(7, ⟨6, [[(.d (.sl (t2.1.Disk.Sectors.map eS))), (.d (.sl (t2.1.Disk.Dirty.map e_api_Write))), (.d (.int .i64 t2.1.Half)), (.d (.int .i64 t2.1.Gen)), (.d (.int .i64 t2.1.Used)), (.d (.sl (t2.1.Entries.map eS)))]], false⟩), (9, ⟨6, [[(.d (.sl (t3.1.Disk.Sectors.map eS))), (.d (.sl (t3.1.Disk.Dirty.map e_api_Write))), (.d (.int .i64 t3.1.Half)), (.d (.int .i64 t3.1.Gen)), (.d (.int .i64 t3.1.Used)), (.d (.sl (t3.1.Entries.map eS)))]], false⟩)] ?c1 ?c2 ?c3 ?c4 ?c5) ?c6
  case c1 | c2 | c3 | c4 | c5 => simp only [wz, wd, ws, Nat.reduceAdd, Nat.reduceSub, Nat.reduceMul, Nat.reduceLeDiff, Nat.reduceEqDiff, Nat.reduceLT, Nat.reduceBEq, reduceIte, reduceCtorEq, Int.reduceToNat, Nat.reduceShiftRight, Nat.reduceAnd, Nat.reduceBneDiff, Nat.reduceBNe, wi, er_nil, e_api_Ledger, e_api_Disk, e_api_Write]
  refine RwD.walk ?_
  simp only [wz, wd, ws, Nat.reduceAdd, Nat.reduceSub, Nat.reduceMul, Nat.reduceLeDiff, Nat.reduceEqDiff, Nat.reduceLT, Nat.reduceBEq, reduceIte, reduceCtorEq, Int.reduceToNat, Nat.reduceShiftRight, Nat.reduceAnd, Nat.reduceBneDiff, Nat.reduceBNe, c4r6, semI.eq_10, semI.eq_11, semI.eq_3, semI.eq_5, semI.eq_7, e_api_Ledger, e_api_Disk, e_api_Write, frz.eq_1, er_back]
  obtain ⟨g8, h⟩ := gd_iff.1 h
  repeat (refine And.intro ?_ ?_; · first | omega | (simp only [List.length_append, List.length_cons, List.length_nil] at *; omega) | (intro q; simp only [wz, wd, ws, Nat.reduceAdd, Nat.reduceSub, Nat.reduceMul, Nat.reduceLeDiff, Nat.reduceEqDiff, Nat.reduceLT, Nat.reduceBEq, reduceIte, reduceCtorEq, Int.reduceToNat, Nat.reduceShiftRight, Nat.reduceAnd, Nat.reduceBneDiff, Nat.reduceBNe, q]; done))
  refine GoD1.of (sem_slc (p := 0) (q := atv2) eS_len (by rfl) (by rfl) (by rfl)) ?_
  simp only [wz, wd, ws, Nat.reduceAdd, Nat.reduceSub, Nat.reduceMul, Nat.reduceLeDiff, Nat.reduceEqDiff, Nat.reduceLT, Nat.reduceBEq, reduceIte, reduceCtorEq, Int.reduceToNat, Nat.reduceShiftRight, Nat.reduceAnd, Nat.reduceBneDiff, Nat.reduceBNe, c4r6, semI.eq_10, semI.eq_11, semI.eq_3, semI.eq_5, semI.eq_7, e_api_Ledger, e_api_Disk, e_api_Write, frz.eq_1, er_back]
  repeat (refine And.intro ?_ ?_; · first | omega | (simp only [List.length_append, List.length_cons, List.length_nil] at *; omega) | (intro q; simp only [wz, wd, ws, Nat.reduceAdd, Nat.reduceSub, Nat.reduceMul, Nat.reduceLeDiff, Nat.reduceEqDiff, Nat.reduceLT, Nat.reduceBEq, reduceIte, reduceCtorEq, Int.reduceToNat, Nat.reduceShiftRight, Nat.reduceAnd, Nat.reduceBneDiff, Nat.reduceBNe, q]; done))
  obtain ⟨t4, e9, h⟩ := Option.bind_eq_some_iff.1 h
  refine call_fun [] true ⟨trivial, trivial, trivial, trivial⟩ rfl ?_ (f_ledger_Add_ok _ _ _ e9) (fun h => by cases h) (fun i hi => by cases hi) ?_
  · simp only [wz, wd, ws, Nat.reduceAdd, Nat.reduceSub, Nat.reduceMul, Nat.reduceLeDiff, Nat.reduceEqDiff, Nat.reduceLT, Nat.reduceBEq, reduceIte, reduceCtorEq, Int.reduceToNat, Nat.reduceShiftRight, Nat.reduceAnd, Nat.reduceBneDiff, Nat.reduceBNe, e_api_Ledger, e_api_Disk, e_api_Write, frz.eq_1, er_back]
  simp only [wz, wd, ws, Nat.reduceAdd, Nat.reduceSub, Nat.reduceMul, Nat.reduceLeDiff, Nat.reduceEqDiff, Nat.reduceLT, Nat.reduceBEq, reduceIte, reduceCtorEq, Int.reduceToNat, Nat.reduceShiftRight, Nat.reduceAnd, Nat.reduceBneDiff, Nat.reduceBNe, c4r6, semI.eq_10, semI.eq_11, semI.eq_3, semI.eq_5, semI.eq_7, e_api_Ledger, e_api_Disk, e_api_Write, frz.eq_1, er_back]
  refine .seq ?_
  refine .seq ?_
  refine Rw.walk ?_
  simp only [wz, wd, ws, Nat.reduceAdd, Nat.reduceSub, Nat.reduceMul, Nat.reduceLeDiff, Nat.reduceEqDiff, Nat.reduceLT, Nat.reduceBEq, reduceIte, reduceCtorEq, Int.reduceToNat, Nat.reduceShiftRight, Nat.reduceAnd, Nat.reduceBneDiff, Nat.reduceBNe, c4r7, semI.eq_10, semI.eq_11, semI.eq_3, semI.eq_5, semI.eq_7, e_api_Ledger, e_api_Disk, e_api_Write, frz.eq_1, er_back]
  obtain ⟨t5, e10, h⟩ := Option.bind_eq_some_iff.1 h
  refine call_funG [] rfl (by simp only [wz, wd, ws, Nat.reduceAdd, Nat.reduceSub, Nat.reduceMul, Nat.reduceLeDiff, Nat.reduceEqDiff, Nat.reduceLT, Nat.reduceBEq, reduceIte, reduceCtorEq, Int.reduceToNat, Nat.reduceShiftRight, Nat.reduceAnd, Nat.reduceBneDiff, Nat.reduceBNe]) rfl ?_ (fun q => (f_law10_alive_ok _ (gx_iff e10 (by simpa using q)))) rfl (fun i hi => by cases hi) ?_
  · simp only [wz, wd, ws, Nat.reduceAdd, Nat.reduceSub, Nat.reduceMul, Nat.reduceLeDiff, Nat.reduceEqDiff, Nat.reduceLT, Nat.reduceBEq, reduceIte, reduceCtorEq, Int.reduceToNat, Nat.reduceShiftRight, Nat.reduceAnd, Nat.reduceBneDiff, Nat.reduceBNe, e_api_Ledger, e_api_Disk, e_api_Write, frz.eq_1, er_back]
  simp only [wz, wd, ws, Nat.reduceAdd, Nat.reduceSub, Nat.reduceMul, Nat.reduceLeDiff, Nat.reduceEqDiff, Nat.reduceLT, Nat.reduceBEq, reduceIte, reduceCtorEq, Int.reduceToNat, Nat.reduceShiftRight, Nat.reduceAnd, Nat.reduceBneDiff, Nat.reduceBNe, c4r7, semI.eq_10, semI.eq_11, semI.eq_3, semI.eq_5, semI.eq_7, e_api_Ledger, e_api_Disk, e_api_Write, frz.eq_1, er_back]
  repeat (refine And.intro ?_ ?_; · first | omega | (simp only [List.length_append, List.length_cons, List.length_nil] at *; omega) | (intro q; simp only [wz, wd, ws, Nat.reduceAdd, Nat.reduceSub, Nat.reduceMul, Nat.reduceLeDiff, Nat.reduceEqDiff, Nat.reduceLT, Nat.reduceBEq, reduceIte, reduceCtorEq, Int.reduceToNat, Nat.reduceShiftRight, Nat.reduceAnd, Nat.reduceBneDiff, Nat.reduceBNe, q]; done))
  refine .cond (p := ((t2.2 != 0) || (!t5))) (by first | rfl | simp only [wz, wd, ws, Nat.reduceAdd, Nat.reduceSub, Nat.reduceMul, Nat.reduceLeDiff, Nat.reduceEqDiff, Nat.reduceLT, Nat.reduceBEq, reduceIte, reduceCtorEq, Int.reduceToNat, Nat.reduceShiftRight, Nat.reduceAnd, Nat.reduceBneDiff, Nat.reduceBNe]) (fun h1 => ?_) (fun h1 => ?_)
  · rw [ite_t h1] at h
    refine .seq ?_
    refine Rw.walk ?_
    simp only [wz, wd, ws, Nat.reduceAdd, Nat.reduceSub, Nat.reduceMul, Nat.reduceLeDiff, Nat.reduceEqDiff, Nat.reduceLT, Nat.reduceBEq, reduceIte, reduceCtorEq, Int.reduceToNat, Nat.reduceShiftRight, Nat.reduceAnd, Nat.reduceBneDiff, Nat.reduceBNe, c4r8, semI.eq_10, semI.eq_11, semI.eq_3, semI.eq_5, semI.eq_7, e_api_Ledger, e_api_Disk, e_api_Write, frz.eq_1, er_back]
    obtain rfl := Option.some.inj h
    refine .ret ?_
    rw [← hR]
    simp only [wz, wd, ws, Nat.reduceAdd, Nat.reduceSub, Nat.reduceMul, Nat.reduceLeDiff, Nat.reduceEqDiff, Nat.reduceLT, Nat.reduceBEq, reduceIte, reduceCtorEq, Int.reduceToNat, Nat.reduceShiftRight, Nat.reduceAnd, Nat.reduceBneDiff, Nat.reduceBNe, rv4, e_api_Ledger, e_api_Disk, e_api_Write, frz.eq_1, er_back]
  · rw [ite_f h1] at h
    refine .skip ?_
    refine .seq ?_
    refine .seq ?_
    refine Rw.walk ?_
    simp only [wz, wd, ws, Nat.reduceAdd, Nat.reduceSub, Nat.reduceMul, Nat.reduceLeDiff, Nat.reduceEqDiff, Nat.reduceLT, Nat.reduceBEq, reduceIte, reduceCtorEq, Int.reduceToNat, Nat.reduceShiftRight, Nat.reduceAnd, Nat.reduceBneDiff, Nat.reduceBNe, c4r9, semI.eq_10, semI.eq_11, semI.eq_3, semI.eq_5, semI.eq_7, e_api_Ledger, e_api_Disk, e_api_Write, frz.eq_1, er_back]
    repeat (refine And.intro ?_ ?_; · first | omega | (simp only [List.length_append, List.length_cons, List.length_nil] at *; omega) | (intro q; simp only [wz, wd, ws, Nat.reduceAdd, Nat.reduceSub, Nat.reduceMul, Nat.reduceLeDiff, Nat.reduceEqDiff, Nat.reduceLT, Nat.reduceBEq, reduceIte, reduceCtorEq, Int.reduceToNat, Nat.reduceShiftRight, Nat.reduceAnd, Nat.reduceBneDiff, Nat.reduceBNe, q]; done))
    refine .cond (p := ((t3.2 != 0) || (t4.2 != 0))) (by first | rfl | simp only [wz, wd, ws, Nat.reduceAdd, Nat.reduceSub, Nat.reduceMul, Nat.reduceLeDiff, Nat.reduceEqDiff, Nat.reduceLT, Nat.reduceBEq, reduceIte, reduceCtorEq, Int.reduceToNat, Nat.reduceShiftRight, Nat.reduceAnd, Nat.reduceBneDiff, Nat.reduceBNe]) (fun h1 => ?_) (fun h1 => ?_)
    · rw [ite_t h1] at h
      refine .seq ?_
      refine Rw.walk ?_
      simp only [wz, wd, ws, Nat.reduceAdd, Nat.reduceSub, Nat.reduceMul, Nat.reduceLeDiff, Nat.reduceEqDiff, Nat.reduceLT, Nat.reduceBEq, reduceIte, reduceCtorEq, Int.reduceToNat, Nat.reduceShiftRight, Nat.reduceAnd, Nat.reduceBneDiff, Nat.reduceBNe, c4r10, semI.eq_10, semI.eq_11, semI.eq_3, semI.eq_5, semI.eq_7, e_api_Ledger, e_api_Disk, e_api_Write, frz.eq_1, er_back]
      repeat (refine And.intro ?_ ?_; · first | omega | (simp only [List.length_append, List.length_cons, List.length_nil] at *; omega) | (intro q; simp only [wz, wd, ws, Nat.reduceAdd, Nat.reduceSub, Nat.reduceMul, Nat.reduceLeDiff, Nat.reduceEqDiff, Nat.reduceLT, Nat.reduceBEq, reduceIte, reduceCtorEq, Int.reduceToNat, Nat.reduceShiftRight, Nat.reduceAnd, Nat.reduceBneDiff, Nat.reduceBNe, q]; done))
      obtain rfl := Option.some.inj h
      refine .ret ?_
      rw [← hR]
      simp only [wz, wd, ws, Nat.reduceAdd, Nat.reduceSub, Nat.reduceMul, Nat.reduceLeDiff, Nat.reduceEqDiff, Nat.reduceLT, Nat.reduceBEq, reduceIte, reduceCtorEq, Int.reduceToNat, Nat.reduceShiftRight, Nat.reduceAnd, Nat.reduceBneDiff, Nat.reduceBNe, rv4, e_api_Ledger, e_api_Disk, e_api_Write, frz.eq_1, er_back]
    · rw [ite_f h1] at h
      refine .skip ?_
      refine .seq ?_
      refine RwD.walk ?_
      simp only [wz, wd, ws, Nat.reduceAdd, Nat.reduceSub, Nat.reduceMul, Nat.reduceLeDiff, Nat.reduceEqDiff, Nat.reduceLT, Nat.reduceBEq, reduceIte, reduceCtorEq, Int.reduceToNat, Nat.reduceShiftRight, Nat.reduceAnd, Nat.reduceBneDiff, Nat.reduceBNe, c4r11, semI.eq_10, semI.eq_11, semI.eq_3, semI.eq_5, semI.eq_7, e_api_Ledger, e_api_Disk, e_api_Write, frz.eq_1, er_back]
      obtain ⟨g11, h⟩ := gd_iff.1 h
      repeat (refine And.intro ?_ ?_; · first | omega | (simp only [List.length_append, List.length_cons, List.length_nil] at *; omega) | (intro q; simp only [wz, wd, ws, Nat.reduceAdd, Nat.reduceSub, Nat.reduceMul, Nat.reduceLeDiff, Nat.reduceEqDiff, Nat.reduceLT, Nat.reduceBEq, reduceIte, reduceCtorEq, Int.reduceToNat, Nat.reduceShiftRight, Nat.reduceAnd, Nat.reduceBneDiff, Nat.reduceBNe, q]; done))
      refine GoD1.of (sem_slc (p := atv2) (q := (t.length : Int)) eS_len (by rfl) (by rfl) (by rfl)) ?_
      simp only [wz, wd, ws, Nat.reduceAdd, Nat.reduceSub, Nat.reduceMul, Nat.reduceLeDiff, Nat.reduceEqDiff, Nat.reduceLT, Nat.reduceBEq, reduceIte, reduceCtorEq, Int.reduceToNat, Nat.reduceShiftRight, Nat.reduceAnd, Nat.reduceBneDiff, Nat.reduceBNe, c4r11, semI.eq_10, semI.eq_11, semI.eq_3, semI.eq_5, semI.eq_7, e_api_Ledger, e_api_Disk, e_api_Write, frz.eq_1, er_back]
      repeat (refine And.intro ?_ ?_; · first | omega | (simp only [List.length_append, List.length_cons, List.length_nil] at *; omega) | (intro q; simp only [wz, wd, ws, Nat.reduceAdd, Nat.reduceSub, Nat.reduceMul, Nat.reduceLeDiff, Nat.reduceEqDiff, Nat.reduceLT, Nat.reduceBEq, reduceIte, reduceCtorEq, Int.reduceToNat, Nat.reduceShiftRight, Nat.reduceAnd, Nat.reduceBneDiff, Nat.reduceBNe, q]; done))
      obtain ⟨t6, e12, h⟩ := Option.bind_eq_some_iff.1 h
      refine call_fun [] true ⟨trivial, trivial, trivial, trivial⟩ rfl ?_ (f_ledger_Add_ok _ _ _ e12) (fun h => by cases h) (fun i hi => by cases hi) ?_
      · simp only [wz, wd, ws, Nat.reduceAdd, Nat.reduceSub, Nat.reduceMul, Nat.reduceLeDiff, Nat.reduceEqDiff, Nat.reduceLT, Nat.reduceBEq, reduceIte, reduceCtorEq, Int.reduceToNat, Nat.reduceShiftRight, Nat.reduceAnd, Nat.reduceBneDiff, Nat.reduceBNe, e_api_Ledger, e_api_Disk, e_api_Write, frz.eq_1, er_back]
      simp only [wz, wd, ws, Nat.reduceAdd, Nat.reduceSub, Nat.reduceMul, Nat.reduceLeDiff, Nat.reduceEqDiff, Nat.reduceLT, Nat.reduceBEq, reduceIte, reduceCtorEq, Int.reduceToNat, Nat.reduceShiftRight, Nat.reduceAnd, Nat.reduceBneDiff, Nat.reduceBNe, c4r11, semI.eq_10, semI.eq_11, semI.eq_3, semI.eq_5, semI.eq_7, e_api_Ledger, e_api_Disk, e_api_Write, frz.eq_1, er_back]
      refine .seq ?_
      refine Rw.walk ?_
      simp only [wz, wd, ws, Nat.reduceAdd, Nat.reduceSub, Nat.reduceMul, Nat.reduceLeDiff, Nat.reduceEqDiff, Nat.reduceLT, Nat.reduceBEq, reduceIte, reduceCtorEq, Int.reduceToNat, Nat.reduceShiftRight, Nat.reduceAnd, Nat.reduceBneDiff, Nat.reduceBNe, c4r12, semI.eq_10, semI.eq_11, semI.eq_3, semI.eq_5, semI.eq_7, e_api_Ledger, e_api_Disk, e_api_Write, frz.eq_1, er_back]
      refine call_alt (v := .b (.s (.d (.sl (t6.1.Entries.map eS))))) rfl rfl (by simp only [wz, wd, ws, Nat.reduceAdd, Nat.reduceSub, Nat.reduceMul, Nat.reduceLeDiff, Nat.reduceEqDiff, Nat.reduceLT, Nat.reduceBEq, reduceIte, reduceCtorEq, Int.reduceToNat, Nat.reduceShiftRight, Nat.reduceAnd, Nat.reduceBneDiff, Nat.reduceBNe]) (fun q => ⟨_, by simp only [wz, wd, ws, Nat.reduceAdd, Nat.reduceSub, Nat.reduceMul, Nat.reduceLeDiff, Nat.reduceEqDiff, Nat.reduceLT, Nat.reduceBEq, reduceIte, reduceCtorEq, Int.reduceToNat, Nat.reduceShiftRight, Nat.reduceAnd, Nat.reduceBneDiff, Nat.reduceBNe, semI.eq_10, e_api_Ledger, e_api_Disk, e_api_Write, frz.eq_1, er_back], trivial⟩) ?_
      simp only [wz, wd, ws, Nat.reduceAdd, Nat.reduceSub, Nat.reduceMul, Nat.reduceLeDiff, Nat.reduceEqDiff, Nat.reduceLT, Nat.reduceBEq, reduceIte, reduceCtorEq, Int.reduceToNat, Nat.reduceShiftRight, Nat.reduceAnd, Nat.reduceBneDiff, Nat.reduceBNe, c4r12, semI.eq_10, semI.eq_11, semI.eq_3, semI.eq_5, semI.eq_7, e_api_Ledger, e_api_Disk, e_api_Write, frz.eq_1, er_back]
      refine call_alt (v := .b (.s (.d (.sl (t3.1.Entries.map eS))))) rfl rfl (by simp only [wz, wd, ws, Nat.reduceAdd, Nat.reduceSub, Nat.reduceMul, Nat.reduceLeDiff, Nat.reduceEqDiff, Nat.reduceLT, Nat.reduceBEq, reduceIte, reduceCtorEq, Int.reduceToNat, Nat.reduceShiftRight, Nat.reduceAnd, Nat.reduceBneDiff, Nat.reduceBNe]) (fun q => ⟨_, by simp only [wz, wd, ws, Nat.reduceAdd, Nat.reduceSub, Nat.reduceMul, Nat.reduceLeDiff, Nat.reduceEqDiff, Nat.reduceLT, Nat.reduceBEq, reduceIte, reduceCtorEq, Int.reduceToNat, Nat.reduceShiftRight, Nat.reduceAnd, Nat.reduceBneDiff, Nat.reduceBNe, semI.eq_10, e_api_Ledger, e_api_Disk, e_api_Write, frz.eq_1, er_back], trivial⟩) ?_
      simp only [wz, wd, ws, Nat.reduceAdd, Nat.reduceSub, Nat.reduceMul, Nat.reduceLeDiff, Nat.reduceEqDiff, Nat.reduceLT, Nat.reduceBEq, reduceIte, reduceCtorEq, Int.reduceToNat, Nat.reduceShiftRight, Nat.reduceAnd, Nat.reduceBneDiff, Nat.reduceBNe, c4r12, semI.eq_10, semI.eq_11, semI.eq_3, semI.eq_5, semI.eq_7, e_api_Ledger, e_api_Disk, e_api_Write, frz.eq_1, er_back]
      obtain ⟨t7, e13, h⟩ := Option.bind_eq_some_iff.1 h
      refine call_funG [] rfl (by simp only [wz, wd, ws, Nat.reduceAdd, Nat.reduceSub, Nat.reduceMul, Nat.reduceLeDiff, Nat.reduceEqDiff, Nat.reduceLT, Nat.reduceBEq, reduceIte, reduceCtorEq, Int.reduceToNat, Nat.reduceShiftRight, Nat.reduceAnd, Nat.reduceBneDiff, Nat.reduceBNe]) rfl ?_ (fun q => (f_ref01_Same_ok _ _ _ (gx_iff e13 (by simpa using q)))) rfl (fun i hi => by cases hi) ?_
      · simp only [wz, wd, ws, Nat.reduceAdd, Nat.reduceSub, Nat.reduceMul, Nat.reduceLeDiff, Nat.reduceEqDiff, Nat.reduceLT, Nat.reduceBEq, reduceIte, reduceCtorEq, Int.reduceToNat, Nat.reduceShiftRight, Nat.reduceAnd, Nat.reduceBneDiff, Nat.reduceBNe, e_api_Ledger, e_api_Disk, e_api_Write, frz.eq_1, er_back]
      simp only [wz, wd, ws, Nat.reduceAdd, Nat.reduceSub, Nat.reduceMul, Nat.reduceLeDiff, Nat.reduceEqDiff, Nat.reduceLT, Nat.reduceBEq, reduceIte, reduceCtorEq, Int.reduceToNat, Nat.reduceShiftRight, Nat.reduceAnd, Nat.reduceBneDiff, Nat.reduceBNe, c4r12, semI.eq_10, semI.eq_11, semI.eq_3, semI.eq_5, semI.eq_7, e_api_Ledger, e_api_Disk, e_api_Write, frz.eq_1, er_back]
      repeat (refine And.intro ?_ ?_; · first | omega | (simp only [List.length_append, List.length_cons, List.length_nil] at *; omega) | (intro q; simp only [wz, wd, ws, Nat.reduceAdd, Nat.reduceSub, Nat.reduceMul, Nat.reduceLeDiff, Nat.reduceEqDiff, Nat.reduceLT, Nat.reduceBEq, reduceIte, reduceCtorEq, Int.reduceToNat, Nat.reduceShiftRight, Nat.reduceAnd, Nat.reduceBneDiff, Nat.reduceBNe, q]; done))
      refine call_alt (v := .b (.s (.d (.int .i64 t6.1.Used)))) rfl rfl (by simp only [wz, wd, ws, Nat.reduceAdd, Nat.reduceSub, Nat.reduceMul, Nat.reduceLeDiff, Nat.reduceEqDiff, Nat.reduceLT, Nat.reduceBEq, reduceIte, reduceCtorEq, Int.reduceToNat, Nat.reduceShiftRight, Nat.reduceAnd, Nat.reduceBneDiff, Nat.reduceBNe]) (fun q => ⟨_, by simp only [wz, wd, ws, Nat.reduceAdd, Nat.reduceSub, Nat.reduceMul, Nat.reduceLeDiff, Nat.reduceEqDiff, Nat.reduceLT, Nat.reduceBEq, reduceIte, reduceCtorEq, Int.reduceToNat, Nat.reduceShiftRight, Nat.reduceAnd, Nat.reduceBneDiff, Nat.reduceBNe, semI.eq_10, e_api_Ledger, e_api_Disk, e_api_Write, frz.eq_1, er_back], trivial⟩) ?_
      simp only [wz, wd, ws, Nat.reduceAdd, Nat.reduceSub, Nat.reduceMul, Nat.reduceLeDiff, Nat.reduceEqDiff, Nat.reduceLT, Nat.reduceBEq, reduceIte, reduceCtorEq, Int.reduceToNat, Nat.reduceShiftRight, Nat.reduceAnd, Nat.reduceBneDiff, Nat.reduceBNe, c4r12, semI.eq_10, semI.eq_11, semI.eq_3, semI.eq_5, semI.eq_7, e_api_Ledger, e_api_Disk, e_api_Write, frz.eq_1, er_back]
      refine call_alt (v := .b (.s (.d (.int .i64 t3.1.Used)))) rfl rfl (by simp only [wz, wd, ws, Nat.reduceAdd, Nat.reduceSub, Nat.reduceMul, Nat.reduceLeDiff, Nat.reduceEqDiff, Nat.reduceLT, Nat.reduceBEq, reduceIte, reduceCtorEq, Int.reduceToNat, Nat.reduceShiftRight, Nat.reduceAnd, Nat.reduceBneDiff, Nat.reduceBNe]) (fun q => ⟨_, by simp only [wz, wd, ws, Nat.reduceAdd, Nat.reduceSub, Nat.reduceMul, Nat.reduceLeDiff, Nat.reduceEqDiff, Nat.reduceLT, Nat.reduceBEq, reduceIte, reduceCtorEq, Int.reduceToNat, Nat.reduceShiftRight, Nat.reduceAnd, Nat.reduceBneDiff, Nat.reduceBNe, semI.eq_10, e_api_Ledger, e_api_Disk, e_api_Write, frz.eq_1, er_back], trivial⟩) ?_
      simp only [wz, wd, ws, Nat.reduceAdd, Nat.reduceSub, Nat.reduceMul, Nat.reduceLeDiff, Nat.reduceEqDiff, Nat.reduceLT, Nat.reduceBEq, reduceIte, reduceCtorEq, Int.reduceToNat, Nat.reduceShiftRight, Nat.reduceAnd, Nat.reduceBneDiff, Nat.reduceBNe, c4r12, semI.eq_10, semI.eq_11, semI.eq_3, semI.eq_5, semI.eq_7, e_api_Ledger, e_api_Disk, e_api_Write, frz.eq_1, er_back]
      repeat (refine And.intro ?_ ?_; · first | omega | (simp only [List.length_append, List.length_cons, List.length_nil] at *; omega) | (intro q; simp only [wz, wd, ws, Nat.reduceAdd, Nat.reduceSub, Nat.reduceMul, Nat.reduceLeDiff, Nat.reduceEqDiff, Nat.reduceLT, Nat.reduceBEq, reduceIte, reduceCtorEq, Int.reduceToNat, Nat.reduceShiftRight, Nat.reduceAnd, Nat.reduceBneDiff, Nat.reduceBNe, q]; done))
      refine call_alt (v := .b (.agg [(.d (.sl (t6.1.Disk.Sectors.map eS))), (.d (.sl (t6.1.Disk.Dirty.map e_api_Write)))])) rfl rfl (by simp only [wz, wd, ws, Nat.reduceAdd, Nat.reduceSub, Nat.reduceMul, Nat.reduceLeDiff, Nat.reduceEqDiff, Nat.reduceLT, Nat.reduceBEq, reduceIte, reduceCtorEq, Int.reduceToNat, Nat.reduceShiftRight, Nat.reduceAnd, Nat.reduceBneDiff, Nat.reduceBNe]) (fun q => ⟨_, by simp only [wz, wd, ws, Nat.reduceAdd, Nat.reduceSub, Nat.reduceMul, Nat.reduceLeDiff, Nat.reduceEqDiff, Nat.reduceLT, Nat.reduceBEq, reduceIte, reduceCtorEq, Int.reduceToNat, Nat.reduceShiftRight, Nat.reduceAnd, Nat.reduceBneDiff, Nat.reduceBNe, semI.eq_10, e_api_Ledger, e_api_Disk, e_api_Write, frz.eq_1, er_back], trivial⟩) ?_
      simp only [wz, wd, ws, Nat.reduceAdd, Nat.reduceSub, Nat.reduceMul, Nat.reduceLeDiff, Nat.reduceEqDiff, Nat.reduceLT, Nat.reduceBEq, reduceIte, reduceCtorEq, Int.reduceToNat, Nat.reduceShiftRight, Nat.reduceAnd, Nat.reduceBneDiff, Nat.reduceBNe, c4r12, semI.eq_10, semI.eq_11, semI.eq_3, semI.eq_5, semI.eq_7, e_api_Ledger, e_api_Disk, e_api_Write, frz.eq_1, er_back]
      refine call_alt (v := .b (.agg [(.d (.sl (t3.1.Disk.Sectors.map eS))), (.d (.sl (t3.1.Disk.Dirty.map e_api_Write)))])) rfl rfl (by simp only [wz, wd, ws, Nat.reduceAdd, Nat.reduceSub, Nat.reduceMul, Nat.reduceLeDiff, Nat.reduceEqDiff, Nat.reduceLT, Nat.reduceBEq, reduceIte, reduceCtorEq, Int.reduceToNat, Nat.reduceShiftRight, Nat.reduceAnd, Nat.reduceBneDiff, Nat.reduceBNe]) (fun q => ⟨_, by simp only [wz, wd, ws, Nat.reduceAdd, Nat.reduceSub, Nat.reduceMul, Nat.reduceLeDiff, Nat.reduceEqDiff, Nat.reduceLT, Nat.reduceBEq, reduceIte, reduceCtorEq, Int.reduceToNat, Nat.reduceShiftRight, Nat.reduceAnd, Nat.reduceBneDiff, Nat.reduceBNe, semI.eq_10, e_api_Ledger, e_api_Disk, e_api_Write, frz.eq_1, er_back], trivial⟩) ?_
      simp only [wz, wd, ws, Nat.reduceAdd, Nat.reduceSub, Nat.reduceMul, Nat.reduceLeDiff, Nat.reduceEqDiff, Nat.reduceLT, Nat.reduceBEq, reduceIte, reduceCtorEq, Int.reduceToNat, Nat.reduceShiftRight, Nat.reduceAnd, Nat.reduceBneDiff, Nat.reduceBNe, c4r12, semI.eq_10, semI.eq_11, semI.eq_3, semI.eq_5, semI.eq_7, e_api_Ledger, e_api_Disk, e_api_Write, frz.eq_1, er_back]
      obtain ⟨t8, e14, h⟩ := Option.bind_eq_some_iff.1 h
      refine call_funG [] rfl (by simp only [wz, wd, ws, Nat.reduceAdd, Nat.reduceSub, Nat.reduceMul, Nat.reduceLeDiff, Nat.reduceEqDiff, Nat.reduceLT, Nat.reduceBEq, reduceIte, reduceCtorEq, Int.reduceToNat, Nat.reduceShiftRight, Nat.reduceAnd, Nat.reduceBneDiff, Nat.reduceBNe]) rfl ?_ (fun q => (f_ref09_Like_ok _ _ _ (gx_iff e14 (by simpa using q)))) rfl (fun i hi => by cases hi) ?_
      · simp only [wz, wd, ws, Nat.reduceAdd, Nat.reduceSub, Nat.reduceMul, Nat.reduceLeDiff, Nat.reduceEqDiff, Nat.reduceLT, Nat.reduceBEq, reduceIte, reduceCtorEq, Int.reduceToNat, Nat.reduceShiftRight, Nat.reduceAnd, Nat.reduceBneDiff, Nat.reduceBNe, e_api_Ledger, e_api_Disk, e_api_Write, frz.eq_1, er_back]
      simp only [wz, wd, ws, Nat.reduceAdd, Nat.reduceSub, Nat.reduceMul, Nat.reduceLeDiff, Nat.reduceEqDiff, Nat.reduceLT, Nat.reduceBEq, reduceIte, reduceCtorEq, Int.reduceToNat, Nat.reduceShiftRight, Nat.reduceAnd, Nat.reduceBneDiff, Nat.reduceBNe, c4r12, semI.eq_10, semI.eq_11, semI.eq_3, semI.eq_5, semI.eq_7, e_api_Ledger, e_api_Disk, e_api_Write, frz.eq_1, er_back]
      repeat (refine And.intro ?_ ?_; · first | omega | (simp only [List.length_append, List.length_cons, List.length_nil] at *; omega) | (intro q; simp only [wz, wd, ws, Nat.reduceAdd, Nat.reduceSub, Nat.reduceMul, Nat.reduceLeDiff, Nat.reduceEqDiff, Nat.reduceLT, Nat.reduceBEq, reduceIte, reduceCtorEq, Int.reduceToNat, Nat.reduceShiftRight, Nat.reduceAnd, Nat.reduceBneDiff, Nat.reduceBNe, q]; done))
      obtain rfl := Option.some.inj h
      refine .ret ?_
      rw [← hR]
      simp only [wz, wd, ws, Nat.reduceAdd, Nat.reduceSub, Nat.reduceMul, Nat.reduceLeDiff, Nat.reduceEqDiff, Nat.reduceLT, Nat.reduceBEq, reduceIte, reduceCtorEq, Int.reduceToNat, Nat.reduceShiftRight, Nat.reduceAnd, Nat.reduceBneDiff, Nat.reduceBNe, rv4, e_api_Ledger, e_api_Disk, e_api_Write, frz.eq_1, er_back]
-- 22 consignor/ledger.Renew
def c22r0 : List Opn := [
  ⟨(some 2), none, .box 6 (.t 0)⟩, 
  ⟨(some 4), none, .new [.nils, .nils, (.d (.int .i64 0)), (.d (.int .i64 0)), (.d (.int .i64 0)), .nils]⟩, 
  ⟨(some 5), none, .mv (.c (.s (.d (.int .i64 0))))⟩]
def c22r1 : List Opn := [
  ⟨(some 6), none, .load true 6 (.t 2)⟩, 
  ⟨(some 7), none, .mv (.t 1)⟩, 
  ⟨(some 8), none, .call (.fn 43) [(.t 6), (.c (.s (.d (.bool true)))), (.t 7)]⟩, 
  ⟨(some 9), none, .ext (.t 8) 0⟩, 
  ⟨(some 10), none, .ext (.t 8) 1⟩, 
  ⟨none, none, .store 6 (.t 4) (.t 9)⟩, 
  ⟨(some 5), none, .mv (.t 10)⟩]
def c22 : C := .seq (.reg c22r0 none [1, 2, 4]) (.seq (.reg c22r1 none [4, 5]) (.ret))
def k22 : List (Nat × List Nat) := [(1, [4, 5]), (0, [1, 2, 4])]
theorem cc22 : (Try.f22.body).bind (cC Try.prog 11 k22) = some c22 := by kernel_rfl
def rv22 : List RV := [.c 4 true 6, .t 5]
theorem cr22 : cRVs Try.prog Try.f22.results.toList = some rv22 := by kernel_rfl
theorem f_ledger_Renew_ok (l : api_Ledger) (news : (List Str)) (y_ : api_Ledger × Int) (h : f_ledger_Renew l news = some y_) : Fun Try.prog glP 22 [.b (.agg ((e_api_Ledger l).map Lc.d)), .b (.s (.d (.sl (news.map eS))))] (.tup [.agg ((e_api_Ledger y_.1).map Lc.d), .s (.d (.int .i64 y_.2))]) := by
  refine fun_walk [] Try.func22 Try.ntmps22 cc22 cr22 (by kernel_rfl) (by simp only [List.length_cons, List.length_nil]; decide) ?_
  generalize hR : Ret _ _ _ _ _ = R_
  simp only [wz, wd, ws, Nat.reduceAdd, Nat.reduceSub, Nat.reduceMul, Nat.reduceLeDiff, Nat.reduceEqDiff, Nat.reduceLT, Nat.reduceBEq, reduceIte, reduceCtorEq, Int.reduceToNat, Nat.reduceShiftRight, Nat.reduceAnd, Nat.reduceBneDiff, Nat.reduceBNe, e_api_Ledger, e_api_Disk, e_api_Write]
  unfold f_ledger_Renew at h; unfold c22
  refine .seq ?_
  refine Rw.walk ?_
  simp only [wz, wd, ws, Nat.reduceAdd, Nat.reduceSub, Nat.reduceMul, Nat.reduceLeDiff, Nat.reduceEqDiff, Nat.reduceLT, Nat.reduceBEq, reduceIte, reduceCtorEq, Int.reduceToNat, Nat.reduceShiftRight, Nat.reduceAnd, Nat.reduceBneDiff, Nat.reduceBNe, c22r0, semI.eq_10, semI.eq_11, semI.eq_3, semI.eq_5, semI.eq_7, e_api_Ledger, e_api_Disk, e_api_Write]
  refine .seq ?_
  refine Rw.walk ?_
  simp only [wz, wd, ws, Nat.reduceAdd, Nat.reduceSub, Nat.reduceMul, Nat.reduceLeDiff, Nat.reduceEqDiff, Nat.reduceLT, Nat.reduceBEq, reduceIte, reduceCtorEq, Int.reduceToNat, Nat.reduceShiftRight, Nat.reduceAnd, Nat.reduceBneDiff, Nat.reduceBNe, c22r1, semI.eq_10, semI.eq_11, semI.eq_3, semI.eq_5, semI.eq_7, e_api_Ledger, e_api_Disk, e_api_Write]
  obtain ⟨t, e1, h⟩ := Option.bind_eq_some_iff.1 h
  refine call_fun [] true ⟨trivial, trivial, trivial, trivial, trivial⟩ rfl ?_ (f_ledger_done_ok _ _ _ _ e1) (fun h => by cases h) (fun i hi => by cases hi) ?_
  · simp only [wz, wd, ws, Nat.reduceAdd, Nat.reduceSub, Nat.reduceMul, Nat.reduceLeDiff, Nat.reduceEqDiff, Nat.reduceLT, Nat.reduceBEq, reduceIte, reduceCtorEq, Int.reduceToNat, Nat.reduceShiftRight, Nat.reduceAnd, Nat.reduceBneDiff, Nat.reduceBNe, e_api_Ledger, e_api_Disk, e_api_Write]
  simp only [wz, wd, ws, Nat.reduceAdd, Nat.reduceSub, Nat.reduceMul, Nat.reduceLeDiff, Nat.reduceEqDiff, Nat.reduceLT, Nat.reduceBEq, reduceIte, reduceCtorEq, Int.reduceToNat, Nat.reduceShiftRight, Nat.reduceAnd, Nat.reduceBneDiff, Nat.reduceBNe, c22r1, semI.eq_10, semI.eq_11, semI.eq_3, semI.eq_5, semI.eq_7, e_api_Ledger, e_api_Disk, e_api_Write]
  obtain rfl := Option.some.inj h
  refine .ret ?_
  rw [← hR]
  simp only [wz, wd, ws, Nat.reduceAdd, Nat.reduceSub, Nat.reduceMul, Nat.reduceLeDiff, Nat.reduceEqDiff, Nat.reduceLT, Nat.reduceBEq, reduceIte, reduceCtorEq, Int.reduceToNat, Nat.reduceShiftRight, Nat.reduceAnd, Nat.reduceBneDiff, Nat.reduceBNe, rv22, semI.eq_10, e_api_Ledger, e_api_Disk, e_api_Write]
end Go.Proofs.Ytjhelpeglgigbaa.V
end
