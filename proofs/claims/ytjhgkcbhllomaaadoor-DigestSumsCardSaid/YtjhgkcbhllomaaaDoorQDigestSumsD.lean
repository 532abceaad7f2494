/- Go functions compute what Lean functions do. -/
import Derived.Test.YtjhgkcbhllomaaaDoorProg
import Derived.Test.YtjhgkcbhllomaaaDoorQDigestSumsB
import Derived.Test.YtjhgkcbhllomaaaDoorQDigestSumsC
import Derived.KernelRfl
section
/- Go functions compute what Lean functions do. -/
namespace Go.Proofs.YtjhgkcbhllomaaaDoor.V
open Go Go.RowKit
set_option linter.unusedVariables false
set_option linter.unusedSimpArgs false
set_option maxHeartbeats 1000000
-- 17 consignor/consignorref02.Keys
def c17r0 : List Opn := [
  ⟨(some 0), none, .mv (.c (.s .nils))⟩]
def c17r1 : List Opn := [
  ⟨(some 1), none, .bsl 1 [(.c (.s (.d (.int .u32 1116352408)))), (.c (.s (.d (.int .u32 1899447441)))), (.c (.s (.d (.int .u32 3049323471)))), (.c (.s (.d (.int .u32 3921009573)))), (.c (.s (.d (.int .u32 961987163)))), (.c (.s (.d (.int .u32 1508970993)))), (.c (.s (.d (.int .u32 2453635748)))), (.c (.s (.d (.int .u32 2870763221)))), (.c (.s (.d (.int .u32 3624381080)))), (.c (.s (.d (.int .u32 310598401)))), (.c (.s (.d (.int .u32 607225278)))), (.c (.s (.d (.int .u32 1426881987)))), (.c (.s (.d (.int .u32 1925078388)))), (.c (.s (.d (.int .u32 2162078206)))), (.c (.s (.d (.int .u32 2614888103)))), (.c (.s (.d (.int .u32 3248222580)))), (.c (.s (.d (.int .u32 3835390401)))), (.c (.s (.d (.int .u32 4022224774)))), (.c (.s (.d (.int .u32 264347078)))), (.c (.s (.d (.int .u32 604807628)))), (.c (.s (.d (.int .u32 770255983)))), (.c (.s (.d (.int .u32 1249150122)))), (.c (.s (.d (.int .u32 1555081692)))), (.c (.s (.d (.int .u32 1996064986)))), (.c (.s (.d (.int .u32 2554220882)))), (.c (.s (.d (.int .u32 2821834349)))), (.c (.s (.d (.int .u32 2952996808)))), (.c (.s (.d (.int .u32 3210313671)))), (.c (.s (.d (.int .u32 3336571891)))), (.c (.s (.d (.int .u32 3584528711)))), (.c (.s (.d (.int .u32 113926993)))), (.c (.s (.d (.int .u32 338241895)))), (.c (.s (.d (.int .u32 666307205)))), (.c (.s (.d (.int .u32 773529912)))), (.c (.s (.d (.int .u32 1294757372)))), (.c (.s (.d (.int .u32 1396182291)))), (.c (.s (.d (.int .u32 1695183700)))), (.c (.s (.d (.int .u32 1986661051)))), (.c (.s (.d (.int .u32 2177026350)))), (.c (.s (.d (.int .u32 2456956037)))), (.c (.s (.d (.int .u32 2730485921)))), (.c (.s (.d (.int .u32 2820302411)))), (.c (.s (.d (.int .u32 3259730800)))), (.c (.s (.d (.int .u32 3345764771)))), (.c (.s (.d (.int .u32 3516065817)))), (.c (.s (.d (.int .u32 3600352804)))), (.c (.s (.d (.int .u32 4094571909)))), (.c (.s (.d (.int .u32 275423344)))), (.c (.s (.d (.int .u32 430227734)))), (.c (.s (.d (.int .u32 506948616)))), (.c (.s (.d (.int .u32 659060556)))), (.c (.s (.d (.int .u32 883997877)))), (.c (.s (.d (.int .u32 958139571)))), (.c (.s (.d (.int .u32 1322822218)))), (.c (.s (.d (.int .u32 1537002063)))), (.c (.s (.d (.int .u32 1747873779)))), (.c (.s (.d (.int .u32 1955562222)))), (.c (.s (.d (.int .u32 2024104815)))), (.c (.s (.d (.int .u32 2227730452)))), (.c (.s (.d (.int .u32 2361852424)))), (.c (.s (.d (.int .u32 2428436474)))), (.c (.s (.d (.int .u32 2756734187)))), (.c (.s (.d (.int .u32 3204031479)))), (.c (.s (.d (.int .u32 3329325298))))]⟩, 
  ⟨(some 0), none, .mv (.t 1)⟩]
def c17 : C := .seq (.reg c17r0 none []) (.seq (.reg c17r1 none [0]) (.ret))
def k17 : List (Nat × List Nat) := [(1, [0]), (0, [])]
theorem cc17 : (Tryd.f17.body).bind (cC Tryd.prog 2 k17) = some c17 := by kernel_rfl
def rv17 : List RV := [.t 0]
theorem cr17 : cRVs Tryd.prog Tryd.f17.results.toList = some rv17 := by kernel_rfl
theorem f_ref02_Keys_ok (y_ : (List Int)) (h : f_ref02_Keys = some y_) : FunO Tryd.prog glP 17 [] 1 (y_.map (eI .u32)) := by
  refine funO_walk Tryd.func17 Tryd.ntmps17 cc17 cr17 (by kernel_rfl) (by simp only [List.length_cons, List.length_nil]; decide) ?_
  generalize hR : RetO _ _ _ _ _ = R_
  simp only [wz, wd, ws, Nat.reduceAdd, Nat.reduceSub, Nat.reduceMul, Nat.reduceLeDiff, Nat.reduceEqDiff, Nat.reduceLT, Nat.reduceBEq, reduceIte, reduceCtorEq, Int.reduceToNat, Nat.reduceShiftRight, Nat.reduceAnd, Nat.reduceBneDiff, Nat.reduceBNe]
  unfold f_ref02_Keys at h; unfold c17
  refine .seq ?_
  refine Rw.walk ?_
  simp only [wz, wd, ws, Nat.reduceAdd, Nat.reduceSub, Nat.reduceMul, Nat.reduceLeDiff, Nat.reduceEqDiff, Nat.reduceLT, Nat.reduceBEq, reduceIte, reduceCtorEq, Int.reduceToNat, Nat.reduceShiftRight, Nat.reduceAnd, Nat.reduceBneDiff, Nat.reduceBNe, c17r0, semI.eq_10, semI.eq_11, semI.eq_3, semI.eq_5, semI.eq_7]
  refine .seq ?_
  refine Rw.walk ?_
  simp only [wz, wd, ws, Nat.reduceAdd, Nat.reduceSub, Nat.reduceMul, Nat.reduceLeDiff, Nat.reduceEqDiff, Nat.reduceLT, Nat.reduceBEq, reduceIte, reduceCtorEq, Int.reduceToNat, Nat.reduceShiftRight, Nat.reduceAnd, Nat.reduceBneDiff, Nat.reduceBNe, c17r1, semI.eq_10, semI.eq_11, semI.eq_3, semI.eq_5, semI.eq_7]
  refine Go1.of (sem_bsl (enc := (eI .u32)) (m := ([1116352408, 1899447441, 3049323471, 3921009573, 961987163, 1508970993, 2453635748, 2870763221, 3624381080, 310598401, 607225278, 1426881987, 1925078388, 2162078206, 2614888103, 3248222580, 3835390401, 4022224774, 264347078, 604807628, 770255983, 1249150122, 1555081692, 1996064986, 2554220882, 2821834349, 2952996808, 3210313671, 3336571891, 3584528711, 113926993, 338241895, 666307205, 773529912, 1294757372, 1396182291, 1695183700, 1986661051, 2177026350, 2456956037, 2730485921, 2820302411, 3259730800, 3345764771, 3516065817, 3600352804, 4094571909, 275423344, 430227734, 506948616, 659060556, 883997877, 958139571, 1322822218, 1537002063, 1747873779, 1955562222, 2024104815, 2227730452, 2361852424, 2428436474, 2756734187, 3204031479, 3329325298] : List Int)) (eI_len _) (by rfl) (by rfl) (by rfl) ⟨trivial, trivial, trivial, trivial, trivial, trivial, trivial, trivial, trivial, trivial, trivial, trivial, trivial, trivial, trivial, trivial, trivial, trivial, trivial, trivial, trivial, trivial, trivial, trivial, trivial, trivial, trivial, trivial, trivial, trivial, trivial, trivial, trivial, trivial, trivial, trivial, trivial, trivial, trivial, trivial, trivial, trivial, trivial, trivial, trivial, trivial, trivial, trivial, trivial, trivial, trivial, trivial, trivial, trivial, trivial, trivial, trivial, trivial, trivial, trivial, trivial, trivial, trivial, trivial, trivial⟩) ?_
  simp only [wz, wd, ws, Nat.reduceAdd, Nat.reduceSub, Nat.reduceMul, Nat.reduceLeDiff, Nat.reduceEqDiff, Nat.reduceLT, Nat.reduceBEq, reduceIte, reduceCtorEq, Int.reduceToNat, Nat.reduceShiftRight, Nat.reduceAnd, Nat.reduceBneDiff, Nat.reduceBNe, c17r1, semI.eq_10, semI.eq_11, semI.eq_3, semI.eq_5, semI.eq_7]
  obtain rfl := Option.some.inj h
  refine .ret ?_
  rw [← hR]
  refine ⟨1, ?_, ?_⟩ <;> simp only [wz, wd, ws, Nat.reduceAdd, Nat.reduceSub, Nat.reduceMul, Nat.reduceLeDiff, Nat.reduceEqDiff, Nat.reduceLT, Nat.reduceBEq, reduceIte, reduceCtorEq, Int.reduceToNat, Nat.reduceShiftRight, Nat.reduceAnd, Nat.reduceBneDiff, Nat.reduceBNe, er, List.length_map]
-- 56 consignor/consignorref02.turn
def c56r0 : List Opn := [
  ⟨(some 4), none, .mv (.c (.s (.d (.int .u32 0))))⟩]
def c56r1 : List Opn := [
  ⟨(some 5), none, .mv (.c (.s (.d (.int .u32 1))))⟩]
def c56r2 : List Opn := [
  ⟨(some 6), none, .mv (.c (.s (.d (.int .i64 0))))⟩]
def c56r3 : List Opn := [
  ⟨(some 9), none, .mv (.t 6)⟩, 
  ⟨(some 10), none, .mv (.t 1)⟩, 
  ⟨(some 11), none, .bin .lss (.t 9) (.t 10)⟩]
def c56r5 : List Opn := [
  ⟨(some 14), none, .mv (.t 5)⟩, 
  ⟨(some 15), none, .bin .mul (.c (.s (.d (.int .u32 2)))) (.t 14)⟩, 
  ⟨(some 5), none, .mv (.t 15)⟩]
def c56r4 : List Opn := [
  ⟨(some 12), none, .mv (.t 6)⟩, 
  ⟨(some 13), none, .bin .add (.t 12) (.c (.s (.d (.int .i64 1))))⟩, 
  ⟨(some 6), none, .mv (.t 13)⟩]
def c56l6 : C := .seq (.seq (.reg c56r3 none [0, 1, 5, 6, 11]) (.cond (.t 11) (.skip) (.exit 0))) (.seq (.blk 1 (.reg c56r5 none [0, 1, 5, 6])) (.reg c56r4 none [0, 1, 5, 6]))
def c56r6 : List Opn := [
  ⟨(some 7), none, .mv (.c (.s (.d (.int .u32 1))))⟩]
def c56r7 : List Opn := [
  ⟨(some 16), none, .mv (.t 1)⟩, 
  ⟨(some 8), none, .mv (.t 16)⟩]
def c56r8 : List Opn := [
  ⟨(some 17), none, .mv (.t 8)⟩, 
  ⟨(some 18), none, .bin .lss (.t 17) (.c (.s (.d (.int .i64 32))))⟩]
def c56r10 : List Opn := [
  ⟨(some 21), none, .mv (.t 7)⟩, 
  ⟨(some 22), none, .bin .mul (.c (.s (.d (.int .u32 2)))) (.t 21)⟩, 
  ⟨(some 7), none, .mv (.t 22)⟩]
def c56r9 : List Opn := [
  ⟨(some 19), none, .mv (.t 8)⟩, 
  ⟨(some 20), none, .bin .add (.t 19) (.c (.s (.d (.int .i64 1))))⟩, 
  ⟨(some 8), none, .mv (.t 20)⟩]
def c56l12 : C := .seq (.seq (.reg c56r8 none [0, 5, 7, 8, 18]) (.cond (.t 18) (.skip) (.exit 2))) (.seq (.blk 3 (.reg c56r10 none [0, 5, 7, 8])) (.reg c56r9 none [0, 5, 7, 8]))
def c56r11 : List Opn := [
  ⟨(some 23), none, .mv (.t 0)⟩, 
  ⟨(some 24), none, .mv (.t 5)⟩, 
  ⟨(some 25), none, .bin .quo (.t 23) (.t 24)⟩, 
  ⟨(some 26), none, .mv (.t 0)⟩, 
  ⟨(some 27), none, .mv (.t 5)⟩, 
  ⟨(some 28), none, .bin .rem (.t 26) (.t 27)⟩, 
  ⟨(some 29), none, .mv (.t 7)⟩, 
  ⟨(some 30), none, .bin .mul (.t 28) (.t 29)⟩, 
  ⟨(some 31), none, .bin .add (.t 25) (.t 30)⟩, 
  ⟨(some 4), none, .mv (.t 31)⟩]
def c56 : C := .seq (.reg c56r0 none [0, 1]) (.seq (.reg c56r1 none [0, 1, 5]) (.seq (.seq (.reg c56r2 none [0, 1, 5, 6]) (.blk 0 (.loop c56l6))) (.seq (.reg c56r6 none [0, 1, 5, 7]) (.seq (.seq (.reg c56r7 none [0, 5, 7, 8]) (.blk 2 (.loop c56l12))) (.seq (.reg c56r11 (some [0, 0, 3, 0, 0, 24, 0, 120, 255, 511]) [4]) (.ret))))))
def k56 : List (Nat × List Nat) := [(11, [4]), (9, [0, 5, 7, 8]), (10, [0, 5, 7, 8]), (8, [0, 5, 7, 8, 18]), (7, [0, 5, 7, 8]), (6, [0, 1, 5, 7]), (4, [0, 1, 5, 6]), (5, [0, 1, 5, 6]), (3, [0, 1, 5, 6, 11]), (2, [0, 1, 5, 6]), (1, [0, 1, 5]), (0, [0, 1])]
theorem cc56 : (Tryd.f56.body).bind (cC Tryd.prog 32 k56) = some c56 := by kernel_rfl
def rv56 : List RV := [.t 4]
theorem cr56 : cRVs Tryd.prog Tryd.f56.results.toList = some rv56 := by kernel_rfl
theorem f_ref02_turn_l6_ok (x : Int) (n : Int) (y_ : Int) (R_ : St → Prop) (hR : (Ret Tryd.prog glP [] rv56 (.b (.s (.d (.int .u32 y_))))) = R_) : ∀ (m_ : Nat) (p : Int) (i : Int) (res_ : Int × Int) (h : f_ref02_turn_l6 x n m_ p i = some res_) (k_ : List It) (hx : ∀ s_ : Int × Int, res_ = s_ → W Tryd.prog glP 32 k_ ⟨lkT [(0, .b (.s (.d (.int .u32 x)))), (1, .b (.s (.d (.int .i64 n)))), (5, .b (.s (.d (.int .u32 s_.1)))), (6, .b (.s (.d (.int .i64 s_.2))))], lkG []⟩ R_), W Tryd.prog glP 32 (.c c56l6 :: .lp c56l6 :: .blk 0 :: k_) ⟨lkT [(0, .b (.s (.d (.int .u32 x)))), (1, .b (.s (.d (.int .i64 n)))), (5, .b (.s (.d (.int .u32 p)))), (6, .b (.s (.d (.int .i64 i))))], lkG []⟩ R_ := by
  intro m_; induction m_ with
  | zero => intro p i res_ h; rw [f_ref02_turn_l6.eq_1] at h; cases h
  | succ m_ ih =>
    intro p i res_ h k_ hx; rw [f_ref02_turn_l6.eq_2] at h; refine W.cdef c56l6.eq_1 ?_
    refine .seq ?_
    refine .seq ?_
    refine Rw.walk ?_
    simp only [wz, wd, ws, Nat.reduceAdd, Nat.reduceSub, Nat.reduceMul, Nat.reduceLeDiff, Nat.reduceEqDiff, Nat.reduceLT, Nat.reduceBEq, reduceIte, reduceCtorEq, Int.reduceToNat, Nat.reduceShiftRight, Nat.reduceAnd, Nat.reduceBneDiff, Nat.reduceBNe, c56r3, semI.eq_10, semI.eq_11, semI.eq_3, semI.eq_5, semI.eq_7]
    refine .cond (p := (decide (i < n))) (by first | rfl | simp only [wz, wd, ws, Nat.reduceAdd, Nat.reduceSub, Nat.reduceMul, Nat.reduceLeDiff, Nat.reduceEqDiff, Nat.reduceLT, Nat.reduceBEq, reduceIte, reduceCtorEq, Int.reduceToNat, Nat.reduceShiftRight, Nat.reduceAnd, Nat.reduceBneDiff, Nat.reduceBNe]) (fun h1 => ?_) (fun h1 => ?_)
    · rw [ite_t h1] at h
      refine .skip ?_
      refine .seq ?_
      refine .blk ?_
      refine Rw.walk ?_
      simp only [wz, wd, ws, Nat.reduceAdd, Nat.reduceSub, Nat.reduceMul, Nat.reduceLeDiff, Nat.reduceEqDiff, Nat.reduceLT, Nat.reduceBEq, reduceIte, reduceCtorEq, Int.reduceToNat, Nat.reduceShiftRight, Nat.reduceAnd, Nat.reduceBneDiff, Nat.reduceBNe, c56r5, semI.eq_10, semI.eq_11, semI.eq_3, semI.eq_5, semI.eq_7]
      refine .eblk ?_
      refine Rw.walk ?_
      simp only [wz, wd, ws, Nat.reduceAdd, Nat.reduceSub, Nat.reduceMul, Nat.reduceLeDiff, Nat.reduceEqDiff, Nat.reduceLT, Nat.reduceBEq, reduceIte, reduceCtorEq, Int.reduceToNat, Nat.reduceShiftRight, Nat.reduceAnd, Nat.reduceBneDiff, Nat.reduceBNe, c56r4, semI.eq_10, semI.eq_11, semI.eq_3, semI.eq_5, semI.eq_7]
      refine .lp ?_
      refine .weak (Imp.co [] _ _ ?_ ?_ ?_ ?_ ?_) (ih (IntKind.u32.wrap (2 * p)) (IntKind.i64.wrap (i + 1)) _ h k_ hx) <;> simp only [wz, wd, ws, Nat.reduceAdd, Nat.reduceSub, Nat.reduceMul, Nat.reduceLeDiff, Nat.reduceEqDiff, Nat.reduceLT, Nat.reduceBEq, reduceIte, reduceCtorEq, Int.reduceToNat, Nat.reduceShiftRight, Nat.reduceAnd, Nat.reduceBneDiff, Nat.reduceBNe, wi, er_nil]
    · rw [ite_f h1] at h
      refine .exit rfl ?_
      obtain rfl := Option.some.inj h
      refine .weak (Imp.co [] _ _ ?_ ?_ ?_ ?_ ?_) (hx _ rfl) <;> simp only [wz, wd, ws, Nat.reduceAdd, Nat.reduceSub, Nat.reduceMul, Nat.reduceLeDiff, Nat.reduceEqDiff, Nat.reduceLT, Nat.reduceBEq, reduceIte, reduceCtorEq, Int.reduceToNat, Nat.reduceShiftRight, Nat.reduceAnd, Nat.reduceBneDiff, Nat.reduceBNe, wi, er_nil]
theorem f_ref02_turn_l12_ok (x : Int) (s : Int × Int) (y_ : Int) (R_ : St → Prop) (hR : (Ret Tryd.prog glP [] rv56 (.b (.s (.d (.int .u32 y_))))) = R_) : ∀ (m_ : Nat) (q : Int) (i : Int) (res_ : Int × Int) (h : f_ref02_turn_l12 x s m_ q i = some res_) (k_ : List It) (hx : ∀ s_ : Int × Int, res_ = s_ → W Tryd.prog glP 32 k_ ⟨lkT [(0, .b (.s (.d (.int .u32 x)))), (5, .b (.s (.d (.int .u32 s.1)))), (7, .b (.s (.d (.int .u32 s_.1)))), (8, .b (.s (.d (.int .i64 s_.2))))], lkG []⟩ R_), W Tryd.prog glP 32 (.c c56l12 :: .lp c56l12 :: .blk 2 :: k_) ⟨lkT [(0, .b (.s (.d (.int .u32 x)))), (5, .b (.s (.d (.int .u32 s.1)))), (7, .b (.s (.d (.int .u32 q)))), (8, .b (.s (.d (.int .i64 i))))], lkG []⟩ R_ := by
  intro m_; induction m_ with
  | zero => intro q i res_ h; rw [f_ref02_turn_l12.eq_1] at h; cases h
  | succ m_ ih =>
    intro q i res_ h k_ hx; rw [f_ref02_turn_l12.eq_2] at h; refine W.cdef c56l12.eq_1 ?_
    refine .seq ?_
    refine .seq ?_
    refine Rw.walk ?_
    simp only [wz, wd, ws, Nat.reduceAdd, Nat.reduceSub, Nat.reduceMul, Nat.reduceLeDiff, Nat.reduceEqDiff, Nat.reduceLT, Nat.reduceBEq, reduceIte, reduceCtorEq, Int.reduceToNat, Nat.reduceShiftRight, Nat.reduceAnd, Nat.reduceBneDiff, Nat.reduceBNe, c56r8, semI.eq_10, semI.eq_11, semI.eq_3, semI.eq_5, semI.eq_7]
    refine .cond (p := (decide (i < 32))) (by first | rfl | simp only [wz, wd, ws, Nat.reduceAdd, Nat.reduceSub, Nat.reduceMul, Nat.reduceLeDiff, Nat.reduceEqDiff, Nat.reduceLT, Nat.reduceBEq, reduceIte, reduceCtorEq, Int.reduceToNat, Nat.reduceShiftRight, Nat.reduceAnd, Nat.reduceBneDiff, Nat.reduceBNe]) (fun h1 => ?_) (fun h1 => ?_)
    · rw [ite_t h1] at h
      refine .skip ?_
      refine .seq ?_
      refine .blk ?_
      refine Rw.walk ?_
      simp only [wz, wd, ws, Nat.reduceAdd, Nat.reduceSub, Nat.reduceMul, Nat.reduceLeDiff, Nat.reduceEqDiff, Nat.reduceLT, Nat.reduceBEq, reduceIte, reduceCtorEq, Int.reduceToNat, Nat.reduceShiftRight, Nat.reduceAnd, Nat.reduceBneDiff, Nat.reduceBNe, c56r10, semI.eq_10, semI.eq_11, semI.eq_3, semI.eq_5, semI.eq_7]
      refine .eblk ?_
      refine Rw.walk ?_
      simp only [wz, wd, ws, Nat.reduceAdd, Nat.reduceSub, Nat.reduceMul, Nat.reduceLeDiff, Nat.reduceEqDiff, Nat.reduceLT, Nat.reduceBEq, reduceIte, reduceCtorEq, Int.reduceToNat, Nat.reduceShiftRight, Nat.reduceAnd, Nat.reduceBneDiff, Nat.reduceBNe, c56r9, semI.eq_10, semI.eq_11, semI.eq_3, semI.eq_5, semI.eq_7]
      refine .lp ?_
      refine .weak (Imp.co [] _ _ ?_ ?_ ?_ ?_ ?_) (ih (IntKind.u32.wrap (2 * q)) (IntKind.i64.wrap (i + 1)) _ h k_ hx) <;> simp only [wz, wd, ws, Nat.reduceAdd, Nat.reduceSub, Nat.reduceMul, Nat.reduceLeDiff, Nat.reduceEqDiff, Nat.reduceLT, Nat.reduceBEq, reduceIte, reduceCtorEq, Int.reduceToNat, Nat.reduceShiftRight, Nat.reduceAnd, Nat.reduceBneDiff, Nat.reduceBNe, wi, er_nil]
    · rw [ite_f h1] at h
      refine .exit rfl ?_
      obtain rfl := Option.some.inj h
      refine .weak (Imp.co [] _ _ ?_ ?_ ?_ ?_ ?_) (hx _ rfl) <;> simp only [wz, wd, ws, Nat.reduceAdd, Nat.reduceSub, Nat.reduceMul, Nat.reduceLeDiff, Nat.reduceEqDiff, Nat.reduceLT, Nat.reduceBEq, reduceIte, reduceCtorEq, Int.reduceToNat, Nat.reduceShiftRight, Nat.reduceAnd, Nat.reduceBneDiff, Nat.reduceBNe, wi, er_nil]
theorem f_ref02_turn_ok (x : Int) (n : Int) (y_ : Int) (h : f_ref02_turn x n = some y_) : Fun Tryd.prog glP 56 [.b (.s (.d (.int .u32 x))), .b (.s (.d (.int .i64 n)))] (.b (.s (.d (.int .u32 y_)))) := by
  refine fun_walk [] Tryd.func56 Tryd.ntmps56 cc56 cr56 (by kernel_rfl) (by simp only [List.length_cons, List.length_nil]; decide) ?_
  generalize hR : Ret _ _ _ _ _ = R_
  simp only [wz, wd, ws, Nat.reduceAdd, Nat.reduceSub, Nat.reduceMul, Nat.reduceLeDiff, Nat.reduceEqDiff, Nat.reduceLT, Nat.reduceBEq, reduceIte, reduceCtorEq, Int.reduceToNat, Nat.reduceShiftRight, Nat.reduceAnd, Nat.reduceBneDiff, Nat.reduceBNe]
  unfold f_ref02_turn at h; unfold c56
  refine .seq ?_
  refine Rw.walk ?_
  simp only [wz, wd, ws, Nat.reduceAdd, Nat.reduceSub, Nat.reduceMul, Nat.reduceLeDiff, Nat.reduceEqDiff, Nat.reduceLT, Nat.reduceBEq, reduceIte, reduceCtorEq, Int.reduceToNat, Nat.reduceShiftRight, Nat.reduceAnd, Nat.reduceBneDiff, Nat.reduceBNe, c56r0, semI.eq_10, semI.eq_11, semI.eq_3, semI.eq_5, semI.eq_7]
  refine .seq ?_
  refine Rw.walk ?_
  simp only [wz, wd, ws, Nat.reduceAdd, Nat.reduceSub, Nat.reduceMul, Nat.reduceLeDiff, Nat.reduceEqDiff, Nat.reduceLT, Nat.reduceBEq, reduceIte, reduceCtorEq, Int.reduceToNat, Nat.reduceShiftRight, Nat.reduceAnd, Nat.reduceBneDiff, Nat.reduceBNe, c56r1, semI.eq_10, semI.eq_11, semI.eq_3, semI.eq_5, semI.eq_7]
  refine .seq ?_
  refine .seq ?_
  refine Rw.walk ?_
  simp only [wz, wd, ws, Nat.reduceAdd, Nat.reduceSub, Nat.reduceMul, Nat.reduceLeDiff, Nat.reduceEqDiff, Nat.reduceLT, Nat.reduceBEq, reduceIte, reduceCtorEq, Int.reduceToNat, Nat.reduceShiftRight, Nat.reduceAnd, Nat.reduceBneDiff, Nat.reduceBNe, c56r2, semI.eq_10, semI.eq_11, semI.eq_3, semI.eq_5, semI.eq_7]
  refine .blk ?_
  obtain ⟨s, hf, h⟩ := Option.bind_eq_some_iff.1 h
  refine .loop (.weak (Imp.co [] _ _ ?c1 ?c2 ?c3 ?c4 ?c5) (f_ref02_turn_l6_ok x n _ _ hR _ _ _ _ hf _ ?_))
  case c1 | c2 | c3 | c4 | c5 => simp only [wz, wd, ws, Nat.reduceAdd, Nat.reduceSub, Nat.reduceMul, Nat.reduceLeDiff, Nat.reduceEqDiff, Nat.reduceLT, Nat.reduceBEq, reduceIte, reduceCtorEq, Int.reduceToNat, Nat.reduceShiftRight, Nat.reduceAnd, Nat.reduceBneDiff, Nat.reduceBNe, wi, er_nil]
  · intro s_ hs; subst hs
    refine .seq ?_
    refine Rw.walk ?_
    simp only [wz, wd, ws, Nat.reduceAdd, Nat.reduceSub, Nat.reduceMul, Nat.reduceLeDiff, Nat.reduceEqDiff, Nat.reduceLT, Nat.reduceBEq, reduceIte, reduceCtorEq, Int.reduceToNat, Nat.reduceShiftRight, Nat.reduceAnd, Nat.reduceBneDiff, Nat.reduceBNe, c56r6, semI.eq_10, semI.eq_11, semI.eq_3, semI.eq_5, semI.eq_7]
    refine .seq ?_
    refine .seq ?_
    refine Rw.walk ?_
    simp only [wz, wd, ws, Nat.reduceAdd, Nat.reduceSub, Nat.reduceMul, Nat.reduceLeDiff, Nat.reduceEqDiff, Nat.reduceLT, Nat.reduceBEq, reduceIte, reduceCtorEq, Int.reduceToNat, Nat.reduceShiftRight, Nat.reduceAnd, Nat.reduceBneDiff, Nat.reduceBNe, c56r7, semI.eq_10, semI.eq_11, semI.eq_3, semI.eq_5, semI.eq_7]
    refine .blk ?_
    obtain ⟨s2, hf, h⟩ := Option.bind_eq_some_iff.1 h
    refine .loop (.weak (Imp.co [] _ _ ?c1 ?c2 ?c3 ?c4 ?c5) (f_ref02_turn_l12_ok x s _ _ hR _ _ _ _ hf _ ?_))
    case c1 | c2 | c3 | c4 | c5 => simp only [wz, wd, ws, Nat.reduceAdd, Nat.reduceSub, Nat.reduceMul, Nat.reduceLeDiff, Nat.reduceEqDiff, Nat.reduceLT, Nat.reduceBEq, reduceIte, reduceCtorEq, Int.reduceToNat, Nat.reduceShiftRight, Nat.reduceAnd, Nat.reduceBneDiff, Nat.reduceBNe, wi, er_nil]
    · intro s2_ hs; subst hs
      refine .seq ?_
      refine RwD.walk ?_
      obtain ⟨g1, h⟩ := gd_iff.1 h
      obtain ⟨g2, h⟩ := gd_iff.1 h
      simp only [wz, wd, ws, Nat.reduceAdd, Nat.reduceSub, Nat.reduceMul, Nat.reduceLeDiff, Nat.reduceEqDiff, Nat.reduceLT, Nat.reduceBEq, reduceIte, reduceCtorEq, Int.reduceToNat, Nat.reduceShiftRight, Nat.reduceAnd, Nat.reduceBneDiff, Nat.reduceBNe, c56r11, semI.eq_10, semI.eq_11, semI.eq_3, semI.eq_5, semI.eq_7]
      repeat (refine And.intro ?_ ?_; · first | omega | (intro q; simp only [wz, wd, ws, Nat.reduceAdd, Nat.reduceSub, Nat.reduceMul, Nat.reduceLeDiff, Nat.reduceEqDiff, Nat.reduceLT, Nat.reduceBEq, reduceIte, reduceCtorEq, Int.reduceToNat, Nat.reduceShiftRight, Nat.reduceAnd, Nat.reduceBneDiff, Nat.reduceBNe, q]; done))
      obtain rfl := Option.some.inj h
      refine .ret ?_
      rw [← hR]
      simp only [wz, wd, ws, Nat.reduceAdd, Nat.reduceSub, Nat.reduceMul, Nat.reduceLeDiff, Nat.reduceEqDiff, Nat.reduceLT, Nat.reduceBEq, reduceIte, reduceCtorEq, Int.reduceToNat, Nat.reduceShiftRight, Nat.reduceAnd, Nat.reduceBneDiff, Nat.reduceBNe, rv56]
-- 57 consignor/consignorref02.step
def c57r0 : List Opn := [
  ⟨(some 6), none, .mv (.c (.s .nils))⟩]
def c57r1 : List Opn := [
  ⟨(some 14), none, .mv (.t 0)⟩, 
  ⟨(some 15), none, .iadr (.sl 1) (.t 14) (.c (.s (.d (.int .i64 4))))⟩, 
  ⟨(some 16), none, .load false 1 (.t 15)⟩, 
  ⟨(some 7), none, .mv (.t 16)⟩]
def c57r2 : List Opn := [
  ⟨(some 17), none, .mv (.t 0)⟩, 
  ⟨(some 18), none, .iadr (.sl 1) (.t 17) (.c (.s (.d (.int .i64 0))))⟩, 
  ⟨(some 19), none, .load false 1 (.t 18)⟩, 
  ⟨(some 8), none, .mv (.t 19)⟩]
def c57r3 : List Opn := [
  ⟨(some 20), none, .mv (.t 7)⟩, 
  ⟨(some 21), none, .call (.fn 56) [(.t 20), (.c (.s (.d (.int .i64 6))))]⟩, 
  ⟨(some 22), none, .mv (.t 7)⟩, 
  ⟨(some 23), none, .call (.fn 56) [(.t 22), (.c (.s (.d (.int .i64 11))))]⟩, 
  ⟨(some 24), none, .bin .xor (.t 21) (.t 23)⟩, 
  ⟨(some 25), none, .mv (.t 7)⟩, 
  ⟨(some 26), none, .call (.fn 56) [(.t 25), (.c (.s (.d (.int .i64 25))))]⟩, 
  ⟨(some 27), none, .bin .xor (.t 24) (.t 26)⟩, 
  ⟨(some 9), none, .mv (.t 27)⟩]
def c57r4 : List Opn := [
  ⟨(some 28), none, .mv (.t 7)⟩, 
  ⟨(some 29), none, .mv (.t 0)⟩, 
  ⟨(some 30), none, .iadr (.sl 1) (.t 29) (.c (.s (.d (.int .i64 5))))⟩, 
  ⟨(some 31), none, .load false 1 (.t 30)⟩, 
  ⟨(some 32), none, .bin .and (.t 28) (.t 31)⟩, 
  ⟨(some 33), none, .mv (.t 7)⟩, 
  ⟨(some 34), none, .bin .sub (.c (.s (.d (.int .u32 4294967295)))) (.t 33)⟩, 
  ⟨(some 35), none, .mv (.t 0)⟩, 
  ⟨(some 36), none, .iadr (.sl 1) (.t 35) (.c (.s (.d (.int .i64 6))))⟩, 
  ⟨(some 37), none, .load false 1 (.t 36)⟩, 
  ⟨(some 38), none, .bin .and (.t 34) (.t 37)⟩, 
  ⟨(some 39), none, .bin .xor (.t 32) (.t 38)⟩, 
  ⟨(some 10), none, .mv (.t 39)⟩]
def c57r5 : List Opn := [
  ⟨(some 40), none, .mv (.t 0)⟩, 
  ⟨(some 41), none, .iadr (.sl 1) (.t 40) (.c (.s (.d (.int .i64 7))))⟩, 
  ⟨(some 42), none, .load false 1 (.t 41)⟩, 
  ⟨(some 43), none, .mv (.t 9)⟩, 
  ⟨(some 44), none, .bin .add (.t 42) (.t 43)⟩, 
  ⟨(some 45), none, .mv (.t 10)⟩, 
  ⟨(some 46), none, .bin .add (.t 44) (.t 45)⟩, 
  ⟨(some 47), none, .mv (.t 1)⟩, 
  ⟨(some 48), none, .bin .add (.t 46) (.t 47)⟩, 
  ⟨(some 49), none, .mv (.t 2)⟩, 
  ⟨(some 50), none, .bin .add (.t 48) (.t 49)⟩, 
  ⟨(some 11), none, .mv (.t 50)⟩]
def c57r6 : List Opn := [
  ⟨(some 51), none, .mv (.t 8)⟩, 
  ⟨(some 52), none, .call (.fn 56) [(.t 51), (.c (.s (.d (.int .i64 2))))]⟩, 
  ⟨(some 53), none, .mv (.t 8)⟩, 
  ⟨(some 54), none, .call (.fn 56) [(.t 53), (.c (.s (.d (.int .i64 13))))]⟩, 
  ⟨(some 55), none, .bin .xor (.t 52) (.t 54)⟩, 
  ⟨(some 56), none, .mv (.t 8)⟩, 
  ⟨(some 57), none, .call (.fn 56) [(.t 56), (.c (.s (.d (.int .i64 22))))]⟩, 
  ⟨(some 58), none, .bin .xor (.t 55) (.t 57)⟩, 
  ⟨(some 12), none, .mv (.t 58)⟩]
def c57r7 : List Opn := [
  ⟨(some 59), none, .mv (.t 8)⟩, 
  ⟨(some 60), none, .mv (.t 0)⟩, 
  ⟨(some 61), none, .iadr (.sl 1) (.t 60) (.c (.s (.d (.int .i64 1))))⟩, 
  ⟨(some 62), none, .load false 1 (.t 61)⟩, 
  ⟨(some 63), none, .bin .and (.t 59) (.t 62)⟩, 
  ⟨(some 64), none, .mv (.t 8)⟩, 
  ⟨(some 65), none, .mv (.t 0)⟩, 
  ⟨(some 66), none, .iadr (.sl 1) (.t 65) (.c (.s (.d (.int .i64 2))))⟩, 
  ⟨(some 67), none, .load false 1 (.t 66)⟩, 
  ⟨(some 68), none, .bin .and (.t 64) (.t 67)⟩, 
  ⟨(some 69), none, .bin .xor (.t 63) (.t 68)⟩, 
  ⟨(some 70), none, .mv (.t 0)⟩, 
  ⟨(some 71), none, .iadr (.sl 1) (.t 70) (.c (.s (.d (.int .i64 1))))⟩, 
  ⟨(some 72), none, .load false 1 (.t 71)⟩, 
  ⟨(some 73), none, .mv (.t 0)⟩, 
  ⟨(some 74), none, .iadr (.sl 1) (.t 73) (.c (.s (.d (.int .i64 2))))⟩, 
  ⟨(some 75), none, .load false 1 (.t 74)⟩, 
  ⟨(some 76), none, .bin .and (.t 72) (.t 75)⟩, 
  ⟨(some 77), none, .bin .xor (.t 69) (.t 76)⟩, 
  ⟨(some 13), none, .mv (.t 77)⟩]
def c57r8 : List Opn := [
  ⟨(some 78), none, .mv (.t 11)⟩, 
  ⟨(some 79), none, .mv (.t 12)⟩, 
  ⟨(some 80), none, .bin .add (.t 78) (.t 79)⟩, 
  ⟨(some 81), none, .mv (.t 13)⟩, 
  ⟨(some 82), none, .bin .add (.t 80) (.t 81)⟩, 
  ⟨(some 83), none, .mv (.t 8)⟩, 
  ⟨(some 84), none, .mv (.t 0)⟩, 
  ⟨(some 85), none, .iadr (.sl 1) (.t 84) (.c (.s (.d (.int .i64 1))))⟩, 
  ⟨(some 86), none, .load false 1 (.t 85)⟩, 
  ⟨(some 87), none, .mv (.t 0)⟩, 
  ⟨(some 88), none, .iadr (.sl 1) (.t 87) (.c (.s (.d (.int .i64 2))))⟩, 
  ⟨(some 89), none, .load false 1 (.t 88)⟩, 
  ⟨(some 90), none, .mv (.t 0)⟩, 
  ⟨(some 91), none, .iadr (.sl 1) (.t 90) (.c (.s (.d (.int .i64 3))))⟩, 
  ⟨(some 92), none, .load false 1 (.t 91)⟩, 
  ⟨(some 93), none, .mv (.t 11)⟩, 
  ⟨(some 94), none, .bin .add (.t 92) (.t 93)⟩, 
  ⟨(some 95), none, .mv (.t 7)⟩, 
  ⟨(some 96), none, .mv (.t 0)⟩, 
  ⟨(some 97), none, .iadr (.sl 1) (.t 96) (.c (.s (.d (.int .i64 5))))⟩, 
  ⟨(some 98), none, .load false 1 (.t 97)⟩, 
  ⟨(some 99), none, .mv (.t 0)⟩, 
  ⟨(some 100), none, .iadr (.sl 1) (.t 99) (.c (.s (.d (.int .i64 6))))⟩, 
  ⟨(some 101), none, .load false 1 (.t 100)⟩, 
  ⟨(some 102), none, .bsl 1 [(.t 82), (.t 83), (.t 86), (.t 89), (.t 94), (.t 95), (.t 98), (.t 101)]⟩, 
  ⟨(some 6), none, .mv (.t 102)⟩]
def c57 : C := .seq (.reg c57r0 none [0, 1, 2]) (.seq (.reg c57r1 none [0, 1, 2, 7]) (.seq (.reg c57r2 none [0, 1, 2, 7, 8]) (.seq (.reg c57r3 none [0, 1, 2, 7, 8, 9]) (.seq (.reg c57r4 (some [0, 0, 2, 6, 15, 0, 32, 0, 128, 384, 992, 2047, 4095]) [0, 1, 2, 7, 8, 9, 10]) (.seq (.reg c57r5 none [0, 7, 8, 11]) (.seq (.reg c57r6 none [0, 7, 8, 11, 12]) (.seq (.reg c57r7 (some [0, 0, 2, 6, 15, 0, 0, 64, 192, 480, 1023, 0, 2048, 6144, 0, 16384, 49152, 129024, 262143, 524287]) [0, 7, 8, 11, 12, 13]) (.seq (.reg c57r8 (some [0, 0, 3, 0, 15, 0, 0, 64, 192, 0, 512, 1536, 0, 4096, 12288, 0, 61440, 0, 0, 262144, 786432, 0, 2097152, 6291456, 16777215, 33554431]) [6]) (.ret)))))))))
def k57 : List (Nat × List Nat) := [(8, [6]), (7, [0, 7, 8, 11, 12, 13]), (6, [0, 7, 8, 11, 12]), (5, [0, 7, 8, 11]), (4, [0, 1, 2, 7, 8, 9, 10]), (3, [0, 1, 2, 7, 8, 9]), (2, [0, 1, 2, 7, 8]), (1, [0, 1, 2, 7]), (0, [0, 1, 2])]
theorem cc57 : (Tryd.f57.body).bind (cC Tryd.prog 103 k57) = some c57 := by kernel_rfl
def rv57 : List RV := [.t 6]
theorem cr57 : cRVs Tryd.prog Tryd.f57.results.toList = some rv57 := by kernel_rfl
theorem f_ref02_step_ok (v : (List Int)) (kv : Int) (w : Int) (y_ : (List Int)) (h : f_ref02_step v kv w = some y_) : FunO Tryd.prog glP 57 [.b (.s (.d (.sl (v.map (eI .u32))))), .b (.s (.d (.int .u32 kv))), .b (.s (.d (.int .u32 w)))] 1 (y_.map (eI .u32)) := by
  refine funO_walk Tryd.func57 Tryd.ntmps57 cc57 cr57 (by kernel_rfl) (by simp only [List.length_cons, List.length_nil]; decide) ?_
  generalize hR : RetO _ _ _ _ _ = R_
  simp only [wz, wd, ws, Nat.reduceAdd, Nat.reduceSub, Nat.reduceMul, Nat.reduceLeDiff, Nat.reduceEqDiff, Nat.reduceLT, Nat.reduceBEq, reduceIte, reduceCtorEq, Int.reduceToNat, Nat.reduceShiftRight, Nat.reduceAnd, Nat.reduceBneDiff, Nat.reduceBNe]
  unfold f_ref02_step at h; unfold c57
  refine .seq ?_
  refine Rw.walk ?_
  simp only [wz, wd, ws, Nat.reduceAdd, Nat.reduceSub, Nat.reduceMul, Nat.reduceLeDiff, Nat.reduceEqDiff, Nat.reduceLT, Nat.reduceBEq, reduceIte, reduceCtorEq, Int.reduceToNat, Nat.reduceShiftRight, Nat.reduceAnd, Nat.reduceBneDiff, Nat.reduceBNe, c57r0, semI.eq_10, semI.eq_11, semI.eq_3, semI.eq_5, semI.eq_7]
  refine .seq ?_
  refine Rw.walk ?_
  simp only [wz, wd, ws, Nat.reduceAdd, Nat.reduceSub, Nat.reduceMul, Nat.reduceLeDiff, Nat.reduceEqDiff, Nat.reduceLT, Nat.reduceBEq, reduceIte, reduceCtorEq, Int.reduceToNat, Nat.reduceShiftRight, Nat.reduceAnd, Nat.reduceBneDiff, Nat.reduceBNe, c57r1, semI.eq_10, semI.eq_11, semI.eq_3, semI.eq_5, semI.eq_7]
  obtain ⟨x, e1, h⟩ := Option.bind_eq_some_iff.1 h
  refine Go1.of (sem_iadr (eI_len _) e1 (by rfl) (by rfl)) ?_
  simp only [wz, wd, ws, Nat.reduceAdd, Nat.reduceSub, Nat.reduceMul, Nat.reduceLeDiff, Nat.reduceEqDiff, Nat.reduceLT, Nat.reduceBEq, reduceIte, reduceCtorEq, Int.reduceToNat, Nat.reduceShiftRight, Nat.reduceAnd, Nat.reduceBneDiff, Nat.reduceBNe, c57r1, semI.eq_10, semI.eq_11, semI.eq_3, semI.eq_5, semI.eq_7]
  refine .seq ?_
  refine Rw.walk ?_
  simp only [wz, wd, ws, Nat.reduceAdd, Nat.reduceSub, Nat.reduceMul, Nat.reduceLeDiff, Nat.reduceEqDiff, Nat.reduceLT, Nat.reduceBEq, reduceIte, reduceCtorEq, Int.reduceToNat, Nat.reduceShiftRight, Nat.reduceAnd, Nat.reduceBneDiff, Nat.reduceBNe, c57r2, semI.eq_10, semI.eq_11, semI.eq_3, semI.eq_5, semI.eq_7]
  obtain ⟨x2, e2, h⟩ := Option.bind_eq_some_iff.1 h
  refine Go1.of (sem_iadr (eI_len _) e2 (by rfl) (by rfl)) ?_
  simp only [wz, wd, ws, Nat.reduceAdd, Nat.reduceSub, Nat.reduceMul, Nat.reduceLeDiff, Nat.reduceEqDiff, Nat.reduceLT, Nat.reduceBEq, reduceIte, reduceCtorEq, Int.reduceToNat, Nat.reduceShiftRight, Nat.reduceAnd, Nat.reduceBneDiff, Nat.reduceBNe, c57r2, semI.eq_10, semI.eq_11, semI.eq_3, semI.eq_5, semI.eq_7]
  refine .seq ?_
  refine Rw.walk ?_
  simp only [wz, wd, ws, Nat.reduceAdd, Nat.reduceSub, Nat.reduceMul, Nat.reduceLeDiff, Nat.reduceEqDiff, Nat.reduceLT, Nat.reduceBEq, reduceIte, reduceCtorEq, Int.reduceToNat, Nat.reduceShiftRight, Nat.reduceAnd, Nat.reduceBneDiff, Nat.reduceBNe, c57r3, semI.eq_10, semI.eq_11, semI.eq_3, semI.eq_5, semI.eq_7]
  obtain ⟨t, e3, h⟩ := Option.bind_eq_some_iff.1 h
  refine call_fun [] false ⟨trivial, trivial, trivial, trivial⟩ rfl ?_ (f_ref02_turn_ok _ _ _ e3) (fun _ => rfl) (fun i hi => by cases hi) ?_
  · simp only [wz, wd, ws, Nat.reduceAdd, Nat.reduceSub, Nat.reduceMul, Nat.reduceLeDiff, Nat.reduceEqDiff, Nat.reduceLT, Nat.reduceBEq, reduceIte, reduceCtorEq, Int.reduceToNat, Nat.reduceShiftRight, Nat.reduceAnd, Nat.reduceBneDiff, Nat.reduceBNe]
  simp only [wz, wd, ws, Nat.reduceAdd, Nat.reduceSub, Nat.reduceMul, Nat.reduceLeDiff, Nat.reduceEqDiff, Nat.reduceLT, Nat.reduceBEq, reduceIte, reduceCtorEq, Int.reduceToNat, Nat.reduceShiftRight, Nat.reduceAnd, Nat.reduceBneDiff, Nat.reduceBNe, c57r3, semI.eq_10, semI.eq_11, semI.eq_3, semI.eq_5, semI.eq_7]
  obtain ⟨t2, e4, h⟩ := Option.bind_eq_some_iff.1 h
  refine call_fun [] false ⟨trivial, trivial, trivial, trivial⟩ rfl ?_ (f_ref02_turn_ok _ _ _ e4) (fun _ => rfl) (fun i hi => by cases hi) ?_
  · simp only [wz, wd, ws, Nat.reduceAdd, Nat.reduceSub, Nat.reduceMul, Nat.reduceLeDiff, Nat.reduceEqDiff, Nat.reduceLT, Nat.reduceBEq, reduceIte, reduceCtorEq, Int.reduceToNat, Nat.reduceShiftRight, Nat.reduceAnd, Nat.reduceBneDiff, Nat.reduceBNe]
  simp only [wz, wd, ws, Nat.reduceAdd, Nat.reduceSub, Nat.reduceMul, Nat.reduceLeDiff, Nat.reduceEqDiff, Nat.reduceLT, Nat.reduceBEq, reduceIte, reduceCtorEq, Int.reduceToNat, Nat.reduceShiftRight, Nat.reduceAnd, Nat.reduceBneDiff, Nat.reduceBNe, c57r3, semI.eq_10, semI.eq_11, semI.eq_3, semI.eq_5, semI.eq_7]
  obtain ⟨t3, e5, h⟩ := Option.bind_eq_some_iff.1 h
  refine call_fun [] false ⟨trivial, trivial, trivial, trivial⟩ rfl ?_ (f_ref02_turn_ok _ _ _ e5) (fun _ => rfl) (fun i hi => by cases hi) ?_
  · simp only [wz, wd, ws, Nat.reduceAdd, Nat.reduceSub, Nat.reduceMul, Nat.reduceLeDiff, Nat.reduceEqDiff, Nat.reduceLT, Nat.reduceBEq, reduceIte, reduceCtorEq, Int.reduceToNat, Nat.reduceShiftRight, Nat.reduceAnd, Nat.reduceBneDiff, Nat.reduceBNe]
  simp only [wz, wd, ws, Nat.reduceAdd, Nat.reduceSub, Nat.reduceMul, Nat.reduceLeDiff, Nat.reduceEqDiff, Nat.reduceLT, Nat.reduceBEq, reduceIte, reduceCtorEq, Int.reduceToNat, Nat.reduceShiftRight, Nat.reduceAnd, Nat.reduceBneDiff, Nat.reduceBNe, c57r3, semI.eq_10, semI.eq_11, semI.eq_3, semI.eq_5, semI.eq_7]
  obtain ⟨s1, e6, h⟩ := Option.bind_eq_some_iff.1 h
  replace e6 := Option.some.inj e6
  first | simp only [e6] | (simp only [wz, wd, ws, Nat.reduceAdd, Nat.reduceSub, Nat.reduceMul, Nat.reduceLeDiff, Nat.reduceEqDiff, Nat.reduceLT, Nat.reduceBEq, reduceIte, reduceCtorEq, Int.reduceToNat, Nat.reduceShiftRight, Nat.reduceAnd, Nat.reduceBneDiff, Nat.reduceBNe] at e6; simp only [e6])
  refine .seq ?_
  refine RwD.walk ?_
  simp only [wz, wd, ws, Nat.reduceAdd, Nat.reduceSub, Nat.reduceMul, Nat.reduceLeDiff, Nat.reduceEqDiff, Nat.reduceLT, Nat.reduceBEq, reduceIte, reduceCtorEq, Int.reduceToNat, Nat.reduceShiftRight, Nat.reduceAnd, Nat.reduceBneDiff, Nat.reduceBNe, c57r4, semI.eq_10, semI.eq_11, semI.eq_3, semI.eq_5, semI.eq_7]
  obtain ⟨x3, e7, h⟩ := Option.bind_eq_some_iff.1 h
  refine GoD1.of (sem_iadr (eI_len _) e7 (by rfl) (by rfl)) ?_
  simp only [wz, wd, ws, Nat.reduceAdd, Nat.reduceSub, Nat.reduceMul, Nat.reduceLeDiff, Nat.reduceEqDiff, Nat.reduceLT, Nat.reduceBEq, reduceIte, reduceCtorEq, Int.reduceToNat, Nat.reduceShiftRight, Nat.reduceAnd, Nat.reduceBneDiff, Nat.reduceBNe, c57r4, semI.eq_10, semI.eq_11, semI.eq_3, semI.eq_5, semI.eq_7]
  obtain ⟨x4, e8, h⟩ := Option.bind_eq_some_iff.1 h
  refine GoD1.of (sem_iadr (eI_len _) e8 (by rfl) (by rfl)) ?_
  simp only [wz, wd, ws, Nat.reduceAdd, Nat.reduceSub, Nat.reduceMul, Nat.reduceLeDiff, Nat.reduceEqDiff, Nat.reduceLT, Nat.reduceBEq, reduceIte, reduceCtorEq, Int.reduceToNat, Nat.reduceShiftRight, Nat.reduceAnd, Nat.reduceBneDiff, Nat.reduceBNe, c57r4, semI.eq_10, semI.eq_11, semI.eq_3, semI.eq_5, semI.eq_7]
  obtain ⟨ch, e9, h⟩ := Option.bind_eq_some_iff.1 h
  replace e9 := Option.some.inj e9
  first | simp only [e9] | (simp only [wz, wd, ws, Nat.reduceAdd, Nat.reduceSub, Nat.reduceMul, Nat.reduceLeDiff, Nat.reduceEqDiff, Nat.reduceLT, Nat.reduceBEq, reduceIte, reduceCtorEq, Int.reduceToNat, Nat.reduceShiftRight, Nat.reduceAnd, Nat.reduceBneDiff, Nat.reduceBNe] at e9; simp only [e9])
  refine .seq ?_
  refine Rw.walk ?_
  simp only [wz, wd, ws, Nat.reduceAdd, Nat.reduceSub, Nat.reduceMul, Nat.reduceLeDiff, Nat.reduceEqDiff, Nat.reduceLT, Nat.reduceBEq, reduceIte, reduceCtorEq, Int.reduceToNat, Nat.reduceShiftRight, Nat.reduceAnd, Nat.reduceBneDiff, Nat.reduceBNe, c57r5, semI.eq_10, semI.eq_11, semI.eq_3, semI.eq_5, semI.eq_7]
  obtain ⟨x5, e10, h⟩ := Option.bind_eq_some_iff.1 h
  refine Go1.of (sem_iadr (eI_len _) e10 (by rfl) (by rfl)) ?_
  simp only [wz, wd, ws, Nat.reduceAdd, Nat.reduceSub, Nat.reduceMul, Nat.reduceLeDiff, Nat.reduceEqDiff, Nat.reduceLT, Nat.reduceBEq, reduceIte, reduceCtorEq, Int.reduceToNat, Nat.reduceShiftRight, Nat.reduceAnd, Nat.reduceBneDiff, Nat.reduceBNe, c57r5, semI.eq_10, semI.eq_11, semI.eq_3, semI.eq_5, semI.eq_7]
  obtain ⟨t1, e11, h⟩ := Option.bind_eq_some_iff.1 h
  replace e11 := Option.some.inj e11
  first | simp only [e11] | (simp only [wz, wd, ws, Nat.reduceAdd, Nat.reduceSub, Nat.reduceMul, Nat.reduceLeDiff, Nat.reduceEqDiff, Nat.reduceLT, Nat.reduceBEq, reduceIte, reduceCtorEq, Int.reduceToNat, Nat.reduceShiftRight, Nat.reduceAnd, Nat.reduceBneDiff, Nat.reduceBNe] at e11; simp only [e11])
  refine .seq ?_
  refine Rw.walk ?_
  simp only [wz, wd, ws, Nat.reduceAdd, Nat.reduceSub, Nat.reduceMul, Nat.reduceLeDiff, Nat.reduceEqDiff, Nat.reduceLT, Nat.reduceBEq, reduceIte, reduceCtorEq, Int.reduceToNat, Nat.reduceShiftRight, Nat.reduceAnd, Nat.reduceBneDiff, Nat.reduceBNe, c57r6, semI.eq_10, semI.eq_11, semI.eq_3, semI.eq_5, semI.eq_7]
  obtain ⟨t4, e12, h⟩ := Option.bind_eq_some_iff.1 h
  refine call_fun [] false ⟨trivial, trivial, trivial, trivial⟩ rfl ?_ (f_ref02_turn_ok _ _ _ e12) (fun _ => rfl) (fun i hi => by cases hi) ?_
  · simp only [wz, wd, ws, Nat.reduceAdd, Nat.reduceSub, Nat.reduceMul, Nat.reduceLeDiff, Nat.reduceEqDiff, Nat.reduceLT, Nat.reduceBEq, reduceIte, reduceCtorEq, Int.reduceToNat, Nat.reduceShiftRight, Nat.reduceAnd, Nat.reduceBneDiff, Nat.reduceBNe]
  simp only [wz, wd, ws, Nat.reduceAdd, Nat.reduceSub, Nat.reduceMul, Nat.reduceLeDiff, Nat.reduceEqDiff, Nat.reduceLT, Nat.reduceBEq, reduceIte, reduceCtorEq, Int.reduceToNat, Nat.reduceShiftRight, Nat.reduceAnd, Nat.reduceBneDiff, Nat.reduceBNe, c57r6, semI.eq_10, semI.eq_11, semI.eq_3, semI.eq_5, semI.eq_7]
  obtain ⟨t5, e13, h⟩ := Option.bind_eq_some_iff.1 h
  refine call_fun [] false ⟨trivial, trivial, trivial, trivial⟩ rfl ?_ (f_ref02_turn_ok _ _ _ e13) (fun _ => rfl) (fun i hi => by cases hi) ?_
  · simp only [wz, wd, ws, Nat.reduceAdd, Nat.reduceSub, Nat.reduceMul, Nat.reduceLeDiff, Nat.reduceEqDiff, Nat.reduceLT, Nat.reduceBEq, reduceIte, reduceCtorEq, Int.reduceToNat, Nat.reduceShiftRight, Nat.reduceAnd, Nat.reduceBneDiff, Nat.reduceBNe]
  simp only [wz, wd, ws, Nat.reduceAdd, Nat.reduceSub, Nat.reduceMul, Nat.reduceLeDiff, Nat.reduceEqDiff, Nat.reduceLT, Nat.reduceBEq, reduceIte, reduceCtorEq, Int.reduceToNat, Nat.reduceShiftRight, Nat.reduceAnd, Nat.reduceBneDiff, Nat.reduceBNe, c57r6, semI.eq_10, semI.eq_11, semI.eq_3, semI.eq_5, semI.eq_7]
  obtain ⟨t6, e14, h⟩ := Option.bind_eq_some_iff.1 h
  refine call_fun [] false ⟨trivial, trivial, trivial, trivial⟩ rfl ?_ (f_ref02_turn_ok _ _ _ e14) (fun _ => rfl) (fun i hi => by cases hi) ?_
  · simp only [wz, wd, ws, Nat.reduceAdd, Nat.reduceSub, Nat.reduceMul, Nat.reduceLeDiff, Nat.reduceEqDiff, Nat.reduceLT, Nat.reduceBEq, reduceIte, reduceCtorEq, Int.reduceToNat, Nat.reduceShiftRight, Nat.reduceAnd, Nat.reduceBneDiff, Nat.reduceBNe]
  simp only [wz, wd, ws, Nat.reduceAdd, Nat.reduceSub, Nat.reduceMul, Nat.reduceLeDiff, Nat.reduceEqDiff, Nat.reduceLT, Nat.reduceBEq, reduceIte, reduceCtorEq, Int.reduceToNat, Nat.reduceShiftRight, Nat.reduceAnd, Nat.reduceBneDiff, Nat.reduceBNe, c57r6, semI.eq_10, semI.eq_11, semI.eq_3, semI.eq_5, semI.eq_7]
  obtain ⟨s0, e15, h⟩ := Option.bind_eq_some_iff.1 h
  replace e15 := Option.some.inj e15
  first | simp only [e15] | (simp only [wz, wd, ws, Nat.reduceAdd, Nat.reduceSub, Nat.reduceMul, Nat.reduceLeDiff, Nat.reduceEqDiff, Nat.reduceLT, Nat.reduceBEq, reduceIte, reduceCtorEq, Int.reduceToNat, Nat.reduceShiftRight, Nat.reduceAnd, Nat.reduceBneDiff, Nat.reduceBNe] at e15; simp only [e15])
  refine .seq ?_
  refine RwD.walk ?_
  simp only [wz, wd, ws, Nat.reduceAdd, Nat.reduceSub, Nat.reduceMul, Nat.reduceLeDiff, Nat.reduceEqDiff, Nat.reduceLT, Nat.reduceBEq, reduceIte, reduceCtorEq, Int.reduceToNat, Nat.reduceShiftRight, Nat.reduceAnd, Nat.reduceBneDiff, Nat.reduceBNe, c57r7, semI.eq_10, semI.eq_11, semI.eq_3, semI.eq_5, semI.eq_7]
  obtain ⟨x6, e16, h⟩ := Option.bind_eq_some_iff.1 h
  refine GoD1.of (sem_iadr (eI_len _) e16 (by rfl) (by rfl)) ?_
  simp only [wz, wd, ws, Nat.reduceAdd, Nat.reduceSub, Nat.reduceMul, Nat.reduceLeDiff, Nat.reduceEqDiff, Nat.reduceLT, Nat.reduceBEq, reduceIte, reduceCtorEq, Int.reduceToNat, Nat.reduceShiftRight, Nat.reduceAnd, Nat.reduceBneDiff, Nat.reduceBNe, c57r7, semI.eq_10, semI.eq_11, semI.eq_3, semI.eq_5, semI.eq_7]
  obtain ⟨x7, e17, h⟩ := Option.bind_eq_some_iff.1 h
  refine GoD1.of (sem_iadr (eI_len _) e17 (by rfl) (by rfl)) ?_
  simp only [wz, wd, ws, Nat.reduceAdd, Nat.reduceSub, Nat.reduceMul, Nat.reduceLeDiff, Nat.reduceEqDiff, Nat.reduceLT, Nat.reduceBEq, reduceIte, reduceCtorEq, Int.reduceToNat, Nat.reduceShiftRight, Nat.reduceAnd, Nat.reduceBneDiff, Nat.reduceBNe, c57r7, semI.eq_10, semI.eq_11, semI.eq_3, semI.eq_5, semI.eq_7]
  obtain ⟨x8, e18, h⟩ := Option.bind_eq_some_iff.1 h
  refine GoD1.of (sem_iadr (eI_len _) e18 (by rfl) (by rfl)) ?_
  simp only [wz, wd, ws, Nat.reduceAdd, Nat.reduceSub, Nat.reduceMul, Nat.reduceLeDiff, Nat.reduceEqDiff, Nat.reduceLT, Nat.reduceBEq, reduceIte, reduceCtorEq, Int.reduceToNat, Nat.reduceShiftRight, Nat.reduceAnd, Nat.reduceBneDiff, Nat.reduceBNe, c57r7, semI.eq_10, semI.eq_11, semI.eq_3, semI.eq_5, semI.eq_7]
  obtain ⟨x9, e19, h⟩ := Option.bind_eq_some_iff.1 h
  refine GoD1.of (sem_iadr (eI_len _) e19 (by rfl) (by rfl)) ?_
  simp only [wz, wd, ws, Nat.reduceAdd, Nat.reduceSub, Nat.reduceMul, Nat.reduceLeDiff, Nat.reduceEqDiff, Nat.reduceLT, Nat.reduceBEq, reduceIte, reduceCtorEq, Int.reduceToNat, Nat.reduceShiftRight, Nat.reduceAnd, Nat.reduceBneDiff, Nat.reduceBNe, c57r7, semI.eq_10, semI.eq_11, semI.eq_3, semI.eq_5, semI.eq_7]
  obtain ⟨maj, e20, h⟩ := Option.bind_eq_some_iff.1 h
  replace e20 := Option.some.inj e20
  first | simp only [e20] | (simp only [wz, wd, ws, Nat.reduceAdd, Nat.reduceSub, Nat.reduceMul, Nat.reduceLeDiff, Nat.reduceEqDiff, Nat.reduceLT, Nat.reduceBEq, reduceIte, reduceCtorEq, Int.reduceToNat, Nat.reduceShiftRight, Nat.reduceAnd, Nat.reduceBneDiff, Nat.reduceBNe] at e20; simp only [e20])
  refine .seq ?_
  refine RwD.walk ?_
  simp only [wz, wd, ws, Nat.reduceAdd, Nat.reduceSub, Nat.reduceMul, Nat.reduceLeDiff, Nat.reduceEqDiff, Nat.reduceLT, Nat.reduceBEq, reduceIte, reduceCtorEq, Int.reduceToNat, Nat.reduceShiftRight, Nat.reduceAnd, Nat.reduceBneDiff, Nat.reduceBNe, c57r8, semI.eq_10, semI.eq_11, semI.eq_3, semI.eq_5, semI.eq_7]
  obtain ⟨x10, e21, h⟩ := Option.bind_eq_some_iff.1 h
  refine GoD1.of (sem_iadr (eI_len _) e21 (by rfl) (by rfl)) ?_
  simp only [wz, wd, ws, Nat.reduceAdd, Nat.reduceSub, Nat.reduceMul, Nat.reduceLeDiff, Nat.reduceEqDiff, Nat.reduceLT, Nat.reduceBEq, reduceIte, reduceCtorEq, Int.reduceToNat, Nat.reduceShiftRight, Nat.reduceAnd, Nat.reduceBneDiff, Nat.reduceBNe, c57r8, semI.eq_10, semI.eq_11, semI.eq_3, semI.eq_5, semI.eq_7]
  obtain ⟨x11, e22, h⟩ := Option.bind_eq_some_iff.1 h
  refine GoD1.of (sem_iadr (eI_len _) e22 (by rfl) (by rfl)) ?_
  simp only [wz, wd, ws, Nat.reduceAdd, Nat.reduceSub, Nat.reduceMul, Nat.reduceLeDiff, Nat.reduceEqDiff, Nat.reduceLT, Nat.reduceBEq, reduceIte, reduceCtorEq, Int.reduceToNat, Nat.reduceShiftRight, Nat.reduceAnd, Nat.reduceBneDiff, Nat.reduceBNe, c57r8, semI.eq_10, semI.eq_11, semI.eq_3, semI.eq_5, semI.eq_7]
  obtain ⟨x12, e23, h⟩ := Option.bind_eq_some_iff.1 h
  refine GoD1.of (sem_iadr (eI_len _) e23 (by rfl) (by rfl)) ?_
  simp only [wz, wd, ws, Nat.reduceAdd, Nat.reduceSub, Nat.reduceMul, Nat.reduceLeDiff, Nat.reduceEqDiff, Nat.reduceLT, Nat.reduceBEq, reduceIte, reduceCtorEq, Int.reduceToNat, Nat.reduceShiftRight, Nat.reduceAnd, Nat.reduceBneDiff, Nat.reduceBNe, c57r8, semI.eq_10, semI.eq_11, semI.eq_3, semI.eq_5, semI.eq_7]
  obtain ⟨x13, e24, h⟩ := Option.bind_eq_some_iff.1 h
  refine GoD1.of (sem_iadr (eI_len _) e24 (by rfl) (by rfl)) ?_
  simp only [wz, wd, ws, Nat.reduceAdd, Nat.reduceSub, Nat.reduceMul, Nat.reduceLeDiff, Nat.reduceEqDiff, Nat.reduceLT, Nat.reduceBEq, reduceIte, reduceCtorEq, Int.reduceToNat, Nat.reduceShiftRight, Nat.reduceAnd, Nat.reduceBneDiff, Nat.reduceBNe, c57r8, semI.eq_10, semI.eq_11, semI.eq_3, semI.eq_5, semI.eq_7]
  obtain ⟨x14, e25, h⟩ := Option.bind_eq_some_iff.1 h
  refine GoD1.of (sem_iadr (eI_len _) e25 (by rfl) (by rfl)) ?_
  simp only [wz, wd, ws, Nat.reduceAdd, Nat.reduceSub, Nat.reduceMul, Nat.reduceLeDiff, Nat.reduceEqDiff, Nat.reduceLT, Nat.reduceBEq, reduceIte, reduceCtorEq, Int.reduceToNat, Nat.reduceShiftRight, Nat.reduceAnd, Nat.reduceBneDiff, Nat.reduceBNe, c57r8, semI.eq_10, semI.eq_11, semI.eq_3, semI.eq_5, semI.eq_7]
  refine GoD1.of (sem_bsl (enc := (eI .u32)) (m := ([(IntKind.u32.wrap ((IntKind.u32.wrap (t1 + s0)) + maj)), x2, x10, x11, (IntKind.u32.wrap (x12 + t1)), x, x13, x14] : List Int)) (eI_len _) (by rfl) (by rfl) (by rfl) ⟨trivial, trivial, trivial, trivial, trivial, trivial, trivial, trivial, trivial⟩) ?_
  simp only [wz, wd, ws, Nat.reduceAdd, Nat.reduceSub, Nat.reduceMul, Nat.reduceLeDiff, Nat.reduceEqDiff, Nat.reduceLT, Nat.reduceBEq, reduceIte, reduceCtorEq, Int.reduceToNat, Nat.reduceShiftRight, Nat.reduceAnd, Nat.reduceBneDiff, Nat.reduceBNe, c57r8, semI.eq_10, semI.eq_11, semI.eq_3, semI.eq_5, semI.eq_7]
  obtain rfl := Option.some.inj h
  refine .ret ?_
  rw [← hR]
  refine ⟨102, ?_, ?_⟩ <;> simp only [wz, wd, ws, Nat.reduceAdd, Nat.reduceSub, Nat.reduceMul, Nat.reduceLeDiff, Nat.reduceEqDiff, Nat.reduceLT, Nat.reduceBEq, reduceIte, reduceCtorEq, Int.reduceToNat, Nat.reduceShiftRight, Nat.reduceAnd, Nat.reduceBneDiff, Nat.reduceBNe, er, List.length_map]
-- 39 consignor/consignorref02.Block
def c39r0 : List Opn := [
  ⟨(some 6), none, .mv (.c (.s .nils))⟩]
def c39r1 : List Opn := [
  ⟨(some 20), none, .bsl 1 []⟩, 
  ⟨(some 7), none, .mv (.t 20)⟩]
def c39r2 : List Opn := [
  ⟨(some 8), none, .mv (.c (.s (.d (.int .i64 0))))⟩]
def c39r3 : List Opn := [
  ⟨(some 21), none, .mv (.t 8)⟩, 
  ⟨(some 22), none, .bin .lss (.t 21) (.c (.s (.d (.int .i64 16))))⟩]
def c39r5 : List Opn := [
  ⟨(some 9), none, .mv (.c (.s (.d (.int .u32 0))))⟩]
def c39r6 : List Opn := [
  ⟨(some 10), none, .mv (.c (.s (.d (.int .i64 0))))⟩]
def c39r7 : List Opn := [
  ⟨(some 25), none, .mv (.t 10)⟩, 
  ⟨(some 26), none, .bin .lss (.t 25) (.c (.s (.d (.int .i64 4))))⟩]
def c39r9 : List Opn := [
  ⟨(some 29), none, .mv (.t 9)⟩, 
  ⟨(some 30), none, .bin .mul (.c (.s (.d (.int .u32 256)))) (.t 29)⟩, 
  ⟨(some 31), none, .mv (.t 2)⟩, 
  ⟨(some 32), none, .mv (.t 8)⟩, 
  ⟨(some 33), none, .bin .mul (.c (.s (.d (.int .i64 4)))) (.t 32)⟩, 
  ⟨(some 34), none, .mv (.t 10)⟩, 
  ⟨(some 35), none, .bin .add (.t 33) (.t 34)⟩, 
  ⟨(some 36), none, .idx .str (.t 31) (.t 35)⟩, 
  ⟨(some 37), none, .cv (.toInt .u32) (.t 36)⟩, 
  ⟨(some 38), none, .bin .add (.t 30) (.t 37)⟩, 
  ⟨(some 9), none, .mv (.t 38)⟩]
def c39r8 : List Opn := [
  ⟨(some 27), none, .mv (.t 10)⟩, 
  ⟨(some 28), none, .bin .add (.t 27) (.c (.s (.d (.int .i64 1))))⟩, 
  ⟨(some 10), none, .mv (.t 28)⟩]
def c39l9 : C := .seq (.seq (.reg c39r7 none [0, 1, 2, 7, 8, 9, 10, 26]) (.cond (.t 26) (.skip) (.exit 2))) (.seq (.blk 3 (.reg c39r9 none [0, 1, 2, 7, 8, 9, 10])) (.reg c39r8 none [0, 1, 2, 7, 8, 9, 10]))
def c39r10 : List Opn := [
  ⟨(some 39), none, .mv (.t 7)⟩, 
  ⟨(some 40), none, .mv (.t 9)⟩, 
  ⟨(some 41), none, .bsl 1 [(.t 40)]⟩, 
  ⟨(some 42), none, .app 1 4 false (.t 39) (.t 41)⟩, 
  ⟨(some 7), none, .mv (.t 42)⟩]
def c39r4 : List Opn := [
  ⟨(some 23), none, .mv (.t 8)⟩, 
  ⟨(some 24), none, .bin .add (.t 23) (.c (.s (.d (.int .i64 1))))⟩, 
  ⟨(some 8), none, .mv (.t 24)⟩]
def c39l12 : C := .seq (.seq (.reg c39r3 none [0, 1, 2, 7, 8, 22]) (.cond (.t 22) (.skip) (.exit 0))) (.seq (.blk 1 (.seq (.reg c39r5 none [0, 1, 2, 7, 8, 9]) (.seq (.seq (.reg c39r6 none [0, 1, 2, 7, 8, 9, 10]) (.blk 2 (.loop c39l9))) (.reg c39r10 none [0, 1, 2, 7, 8])))) (.reg c39r4 none [0, 1, 2, 7, 8]))
def c39r11 : List Opn := [
  ⟨(some 11), none, .mv (.c (.s (.d (.int .i64 16))))⟩]
def c39r12 : List Opn := [
  ⟨(some 43), none, .mv (.t 11)⟩, 
  ⟨(some 44), none, .bin .lss (.t 43) (.c (.s (.d (.int .i64 64))))⟩]
def c39r14 : List Opn := [
  ⟨(some 47), none, .mv (.t 7)⟩, 
  ⟨(some 48), none, .mv (.t 11)⟩, 
  ⟨(some 49), none, .bin .sub (.t 48) (.c (.s (.d (.int .i64 15))))⟩, 
  ⟨(some 50), none, .iadr (.sl 1) (.t 47) (.t 49)⟩, 
  ⟨(some 51), none, .load false 1 (.t 50)⟩, 
  ⟨(some 12), none, .mv (.t 51)⟩]
def c39r15 : List Opn := [
  ⟨(some 52), none, .mv (.t 7)⟩, 
  ⟨(some 53), none, .mv (.t 11)⟩, 
  ⟨(some 54), none, .bin .sub (.t 53) (.c (.s (.d (.int .i64 2))))⟩, 
  ⟨(some 55), none, .iadr (.sl 1) (.t 52) (.t 54)⟩, 
  ⟨(some 56), none, .load false 1 (.t 55)⟩, 
  ⟨(some 13), none, .mv (.t 56)⟩]
def c39r16 : List Opn := [
  ⟨(some 57), none, .mv (.t 12)⟩, 
  ⟨(some 58), none, .call (.fn 56) [(.t 57), (.c (.s (.d (.int .i64 7))))]⟩, 
  ⟨(some 59), none, .mv (.t 12)⟩, 
  ⟨(some 60), none, .call (.fn 56) [(.t 59), (.c (.s (.d (.int .i64 18))))]⟩, 
  ⟨(some 61), none, .bin .xor (.t 58) (.t 60)⟩, 
  ⟨(some 62), none, .mv (.t 12)⟩, 
  ⟨(some 63), none, .bin .quo (.t 62) (.c (.s (.d (.int .u32 8))))⟩, 
  ⟨(some 64), none, .bin .xor (.t 61) (.t 63)⟩, 
  ⟨(some 14), none, .mv (.t 64)⟩]
def c39r17 : List Opn := [
  ⟨(some 65), none, .mv (.t 13)⟩, 
  ⟨(some 66), none, .call (.fn 56) [(.t 65), (.c (.s (.d (.int .i64 17))))]⟩, 
  ⟨(some 67), none, .mv (.t 13)⟩, 
  ⟨(some 68), none, .call (.fn 56) [(.t 67), (.c (.s (.d (.int .i64 19))))]⟩, 
  ⟨(some 69), none, .bin .xor (.t 66) (.t 68)⟩, 
  ⟨(some 70), none, .mv (.t 13)⟩, 
  ⟨(some 71), none, .bin .quo (.t 70) (.c (.s (.d (.int .u32 1024))))⟩, 
  ⟨(some 72), none, .bin .xor (.t 69) (.t 71)⟩, 
  ⟨(some 15), none, .mv (.t 72)⟩]
def c39r18 : List Opn := [
  ⟨(some 73), none, .mv (.t 7)⟩, 
  ⟨(some 74), none, .mv (.t 15)⟩, 
  ⟨(some 75), none, .mv (.t 7)⟩, 
  ⟨(some 76), none, .mv (.t 11)⟩, 
  ⟨(some 77), none, .bin .sub (.t 76) (.c (.s (.d (.int .i64 7))))⟩, 
  ⟨(some 78), none, .iadr (.sl 1) (.t 75) (.t 77)⟩, 
  ⟨(some 79), none, .load false 1 (.t 78)⟩, 
  ⟨(some 80), none, .bin .add (.t 74) (.t 79)⟩, 
  ⟨(some 81), none, .mv (.t 14)⟩, 
  ⟨(some 82), none, .bin .add (.t 80) (.t 81)⟩, 
  ⟨(some 83), none, .mv (.t 7)⟩, 
  ⟨(some 84), none, .mv (.t 11)⟩, 
  ⟨(some 85), none, .bin .sub (.t 84) (.c (.s (.d (.int .i64 16))))⟩, 
  ⟨(some 86), none, .iadr (.sl 1) (.t 83) (.t 85)⟩, 
  ⟨(some 87), none, .load false 1 (.t 86)⟩, 
  ⟨(some 88), none, .bin .add (.t 82) (.t 87)⟩, 
  ⟨(some 89), none, .bsl 1 [(.t 88)]⟩, 
  ⟨(some 90), none, .app 1 4 false (.t 73) (.t 89)⟩, 
  ⟨(some 7), none, .mv (.t 90)⟩]
def c39r13 : List Opn := [
  ⟨(some 45), none, .mv (.t 11)⟩, 
  ⟨(some 46), none, .bin .add (.t 45) (.c (.s (.d (.int .i64 1))))⟩, 
  ⟨(some 11), none, .mv (.t 46)⟩]
def c39l21 : C := .seq (.seq (.reg c39r12 none [0, 1, 7, 11, 44]) (.cond (.t 44) (.skip) (.exit 4))) (.seq (.blk 5 (.seq (.reg c39r14 none [0, 1, 7, 11, 12]) (.seq (.reg c39r15 none [0, 1, 7, 11, 12, 13]) (.seq (.reg c39r16 none [0, 1, 7, 11, 13, 14]) (.seq (.reg c39r17 none [0, 1, 7, 11, 14, 15]) (.reg c39r18 (some [0, 0, 0, 0, 8, 28, 60, 126, 0, 510, 0, 0, 2048, 7168, 15360, 32766, 65534, 131071, 262143]) [0, 1, 7, 11])))))) (.reg c39r13 none [0, 1, 7, 11]))
def c39r19 : List Opn := [
  ⟨(some 91), none, .mv (.t 0)⟩, 
  ⟨(some 16), none, .mv (.t 91)⟩]
def c39r20 : List Opn := [
  ⟨(some 17), none, .mv (.c (.s (.d (.int .i64 0))))⟩]
def c39r21 : List Opn := [
  ⟨(some 92), none, .mv (.t 17)⟩, 
  ⟨(some 93), none, .bin .lss (.t 92) (.c (.s (.d (.int .i64 64))))⟩]
def c39r23 : List Opn := [
  ⟨(some 96), none, .mv (.t 16)⟩, 
  ⟨(some 97), none, .mv (.t 1)⟩, 
  ⟨(some 98), none, .mv (.t 17)⟩, 
  ⟨(some 99), none, .iadr (.sl 1) (.t 97) (.t 98)⟩, 
  ⟨(some 100), none, .load false 1 (.t 99)⟩, 
  ⟨(some 101), none, .mv (.t 7)⟩, 
  ⟨(some 102), none, .mv (.t 17)⟩, 
  ⟨(some 103), none, .iadr (.sl 1) (.t 101) (.t 102)⟩, 
  ⟨(some 104), none, .load false 1 (.t 103)⟩, 
  ⟨(some 105), none, .call (.fn 57) [(.t 96), (.t 100), (.t 104)]⟩, 
  ⟨(some 16), none, .mv (.t 105)⟩]
def c39r22 : List Opn := [
  ⟨(some 94), none, .mv (.t 17)⟩, 
  ⟨(some 95), none, .bin .add (.t 94) (.c (.s (.d (.int .i64 1))))⟩, 
  ⟨(some 17), none, .mv (.t 95)⟩]
def c39l27 : C := .seq (.seq (.reg c39r21 none [0, 1, 7, 16, 17, 93]) (.cond (.t 93) (.skip) (.exit 6))) (.seq (.blk 7 (.reg c39r23 (some [0, 0, 0, 6, 14, 0, 0, 96, 224, 511, 1023]) [0, 1, 7, 16, 17])) (.reg c39r22 none [0, 1, 7, 16, 17]))
def c39r24 : List Opn := [
  ⟨(some 106), none, .bsl 1 []⟩, 
  ⟨(some 18), none, .mv (.t 106)⟩]
def c39r25 : List Opn := [
  ⟨(some 19), none, .mv (.c (.s (.d (.int .i64 0))))⟩]
def c39r26 : List Opn := [
  ⟨(some 107), none, .mv (.t 19)⟩, 
  ⟨(some 108), none, .bin .lss (.t 107) (.c (.s (.d (.int .i64 8))))⟩]
def c39r28 : List Opn := [
  ⟨(some 111), none, .mv (.t 18)⟩, 
  ⟨(some 112), none, .mv (.t 0)⟩, 
  ⟨(some 113), none, .mv (.t 19)⟩, 
  ⟨(some 114), none, .iadr (.sl 1) (.t 112) (.t 113)⟩, 
  ⟨(some 115), none, .load false 1 (.t 114)⟩, 
  ⟨(some 116), none, .mv (.t 16)⟩, 
  ⟨(some 117), none, .mv (.t 19)⟩, 
  ⟨(some 118), none, .iadr (.sl 1) (.t 116) (.t 117)⟩, 
  ⟨(some 119), none, .load false 1 (.t 118)⟩, 
  ⟨(some 120), none, .bin .add (.t 115) (.t 119)⟩, 
  ⟨(some 121), none, .bsl 1 [(.t 120)]⟩, 
  ⟨(some 122), none, .app 1 4 false (.t 111) (.t 121)⟩, 
  ⟨(some 18), none, .mv (.t 122)⟩]
def c39r27 : List Opn := [
  ⟨(some 109), none, .mv (.t 19)⟩, 
  ⟨(some 110), none, .bin .add (.t 109) (.c (.s (.d (.int .i64 1))))⟩, 
  ⟨(some 19), none, .mv (.t 110)⟩]
def c39l33 : C := .seq (.seq (.reg c39r26 none [0, 16, 18, 19, 108]) (.cond (.t 108) (.skip) (.exit 8))) (.seq (.blk 9 (.reg c39r28 (some [0, 0, 0, 6, 14, 0, 0, 96, 224, 510, 1022, 2047, 4095]) [0, 16, 18, 19])) (.reg c39r27 none [0, 16, 18, 19]))
def c39r29 : List Opn := [
  ⟨(some 123), none, .mv (.t 18)⟩, 
  ⟨(some 6), none, .mv (.t 123)⟩]
def c39 : C := .seq (.reg c39r0 none [0, 1, 2]) (.seq (.reg c39r1 none [0, 1, 2, 7]) (.seq (.seq (.reg c39r2 none [0, 1, 2, 7, 8]) (.blk 0 (.loop c39l12))) (.seq (.seq (.reg c39r11 none [0, 1, 7, 11]) (.blk 4 (.loop c39l21))) (.seq (.reg c39r19 none [0, 1, 7, 16]) (.seq (.seq (.reg c39r20 none [0, 1, 7, 16, 17]) (.blk 6 (.loop c39l27))) (.seq (.reg c39r24 none [0, 16, 18]) (.seq (.seq (.reg c39r25 none [0, 16, 18, 19]) (.blk 8 (.loop c39l33))) (.seq (.reg c39r29 none [6]) (.ret)))))))))
def k39 : List (Nat × List Nat) := [(29, [6]), (27, [0, 16, 18, 19]), (28, [0, 16, 18, 19]), (26, [0, 16, 18, 19, 108]), (25, [0, 16, 18, 19]), (24, [0, 16, 18]), (22, [0, 1, 7, 16, 17]), (23, [0, 1, 7, 16, 17]), (21, [0, 1, 7, 16, 17, 93]), (20, [0, 1, 7, 16, 17]), (19, [0, 1, 7, 16]), (13, [0, 1, 7, 11]), (18, [0, 1, 7, 11]), (17, [0, 1, 7, 11, 14, 15]), (16, [0, 1, 7, 11, 13, 14]), (15, [0, 1, 7, 11, 12, 13]), (14, [0, 1, 7, 11, 12]), (12, [0, 1, 7, 11, 44]), (11, [0, 1, 7, 11]), (4, [0, 1, 2, 7, 8]), (10, [0, 1, 2, 7, 8]), (8, [0, 1, 2, 7, 8, 9, 10]), (9, [0, 1, 2, 7, 8, 9, 10]), (7, [0, 1, 2, 7, 8, 9, 10, 26]), (6, [0, 1, 2, 7, 8, 9, 10]), (5, [0, 1, 2, 7, 8, 9]), (3, [0, 1, 2, 7, 8, 22]), (2, [0, 1, 2, 7, 8]), (1, [0, 1, 2, 7]), (0, [0, 1, 2])]
theorem cc39 : (Tryd.f39.body).bind (cC Tryd.prog 124 k39) = some c39 := by kernel_rfl
def rv39 : List RV := [.t 6]
theorem cr39 : cRVs Tryd.prog Tryd.f39.results.toList = some rv39 := by kernel_rfl
theorem f_ref02_Block_l9_ok (hv : (List Int)) (keys : (List Int)) (s : Str) (t : Int) (w : (List Int)) (y_ : (List Int)) (R_ : St → Prop) (hR : (RetO Tryd.prog glP 6 1 (y_.map (eI .u32))) = R_) : ∀ (m_ : Nat) (x : Int) (i : Int) (res_ : Int × Int) (h : f_ref02_Block_l9 hv keys s t w m_ x i = some res_) (k_ : List It) (hx : ∀ s_ : Int × Int, res_ = s_ → W Tryd.prog glP 124 k_ ⟨lkT [(0, .b (.s (.d (.sl (hv.map (eI .u32)))))), (1, .b (.s (.d (.sl (keys.map (eI .u32)))))), (2, .b (.s (.d (.str s)))), (7, .b (.s (.own 20 w.length))), (8, .b (.s (.d (.int .i64 t)))), (9, .b (.s (.d (.int .u32 s_.1)))), (10, .b (.s (.d (.int .i64 s_.2))))], lkG [(20, ⟨1, er (eI .u32) w, false⟩)]⟩ R_), W Tryd.prog glP 124 (.c c39l9 :: .lp c39l9 :: .blk 2 :: k_) ⟨lkT [(0, .b (.s (.d (.sl (hv.map (eI .u32)))))), (1, .b (.s (.d (.sl (keys.map (eI .u32)))))), (2, .b (.s (.d (.str s)))), (7, .b (.s (.own 20 w.length))), (8, .b (.s (.d (.int .i64 t)))), (9, .b (.s (.d (.int .u32 x)))), (10, .b (.s (.d (.int .i64 i))))], lkG [(20, ⟨1, er (eI .u32) w, false⟩)]⟩ R_ := by
  intro m_; induction m_ with
  | zero => intro x i res_ h; rw [f_ref02_Block_l9.eq_1] at h; cases h
  | succ m_ ih =>
    intro x i res_ h k_ hx; rw [f_ref02_Block_l9.eq_2] at h; refine W.cdef c39l9.eq_1 ?_
    refine .seq ?_
    refine .seq ?_
    refine Rw.walk ?_
    simp only [wz, wd, ws, Nat.reduceAdd, Nat.reduceSub, Nat.reduceMul, Nat.reduceLeDiff, Nat.reduceEqDiff, Nat.reduceLT, Nat.reduceBEq, reduceIte, reduceCtorEq, Int.reduceToNat, Nat.reduceShiftRight, Nat.reduceAnd, Nat.reduceBneDiff, Nat.reduceBNe, c39r7, semI.eq_10, semI.eq_11, semI.eq_3, semI.eq_5, semI.eq_7]
    refine .cond (p := (decide (i < 4))) (by first | rfl | simp only [wz, wd, ws, Nat.reduceAdd, Nat.reduceSub, Nat.reduceMul, Nat.reduceLeDiff, Nat.reduceEqDiff, Nat.reduceLT, Nat.reduceBEq, reduceIte, reduceCtorEq, Int.reduceToNat, Nat.reduceShiftRight, Nat.reduceAnd, Nat.reduceBneDiff, Nat.reduceBNe]) (fun h1 => ?_) (fun h1 => ?_)
    · rw [ite_t h1] at h
      refine .skip ?_
      refine .seq ?_
      refine .blk ?_
      refine Rw.walk ?_
      simp only [wz, wd, ws, Nat.reduceAdd, Nat.reduceSub, Nat.reduceMul, Nat.reduceLeDiff, Nat.reduceEqDiff, Nat.reduceLT, Nat.reduceBEq, reduceIte, reduceCtorEq, Int.reduceToNat, Nat.reduceShiftRight, Nat.reduceAnd, Nat.reduceBneDiff, Nat.reduceBNe, c39r9, semI.eq_10, semI.eq_11, semI.eq_3, semI.eq_5, semI.eq_7]
      obtain ⟨c, e1, h⟩ := Option.bind_eq_some_iff.1 h
      refine Go1.of (sem_idx e1 (by rfl) (by rfl)) ?_
      simp only [wz, wd, ws, Nat.reduceAdd, Nat.reduceSub, Nat.reduceMul, Nat.reduceLeDiff, Nat.reduceEqDiff, Nat.reduceLT, Nat.reduceBEq, reduceIte, reduceCtorEq, Int.reduceToNat, Nat.reduceShiftRight, Nat.reduceAnd, Nat.reduceBneDiff, Nat.reduceBNe, c39r9, semI.eq_10, semI.eq_11, semI.eq_3, semI.eq_5, semI.eq_7]
      refine .eblk ?_
      refine Rw.walk ?_
      simp only [wz, wd, ws, Nat.reduceAdd, Nat.reduceSub, Nat.reduceMul, Nat.reduceLeDiff, Nat.reduceEqDiff, Nat.reduceLT, Nat.reduceBEq, reduceIte, reduceCtorEq, Int.reduceToNat, Nat.reduceShiftRight, Nat.reduceAnd, Nat.reduceBneDiff, Nat.reduceBNe, c39r8, semI.eq_10, semI.eq_11, semI.eq_3, semI.eq_5, semI.eq_7]
      refine .lp ?_
      refine .weak (Imp.co [] _ _ ?_ ?_ ?_ ?_ ?_) (ih (IntKind.u32.wrap ((IntKind.u32.wrap (256 * x)) + (IntKind.u32.wrap (bn c)))) (IntKind.i64.wrap (i + 1)) _ h k_ hx) <;> simp only [wz, wd, ws, Nat.reduceAdd, Nat.reduceSub, Nat.reduceMul, Nat.reduceLeDiff, Nat.reduceEqDiff, Nat.reduceLT, Nat.reduceBEq, reduceIte, reduceCtorEq, Int.reduceToNat, Nat.reduceShiftRight, Nat.reduceAnd, Nat.reduceBneDiff, Nat.reduceBNe, wi, er_nil]
    · rw [ite_f h1] at h
      refine .exit rfl ?_
      obtain rfl := Option.some.inj h
      refine .weak (Imp.co [] _ _ ?_ ?_ ?_ ?_ ?_) (hx _ rfl) <;> simp only [wz, wd, ws, Nat.reduceAdd, Nat.reduceSub, Nat.reduceMul, Nat.reduceLeDiff, Nat.reduceEqDiff, Nat.reduceLT, Nat.reduceBEq, reduceIte, reduceCtorEq, Int.reduceToNat, Nat.reduceShiftRight, Nat.reduceAnd, Nat.reduceBneDiff, Nat.reduceBNe, wi, er_nil]
theorem f_ref02_Block_l12_ok (hv : (List Int)) (keys : (List Int)) (s : Str) (y_ : (List Int)) (R_ : St → Prop) (hR : (RetO Tryd.prog glP 6 1 (y_.map (eI .u32))) = R_) : ∀ (m_ : Nat) (t : Int) (w : (List Int)) (res_ : Int × (List Int)) (h : f_ref02_Block_l12 hv keys s m_ t w = some res_) (k_ : List It) (hx : ∀ s_ : Int × (List Int), res_ = s_ → W Tryd.prog glP 124 k_ ⟨lkT [(0, .b (.s (.d (.sl (hv.map (eI .u32)))))), (1, .b (.s (.d (.sl (keys.map (eI .u32)))))), (2, .b (.s (.d (.str s)))), (7, .b (.s (.own 20 s_.2.length))), (8, .b (.s (.d (.int .i64 s_.1))))], lkG [(20, ⟨1, er (eI .u32) s_.2, false⟩)]⟩ R_), W Tryd.prog glP 124 (.c c39l12 :: .lp c39l12 :: .blk 0 :: k_) ⟨lkT [(0, .b (.s (.d (.sl (hv.map (eI .u32)))))), (1, .b (.s (.d (.sl (keys.map (eI .u32)))))), (2, .b (.s (.d (.str s)))), (7, .b (.s (.own 20 w.length))), (8, .b (.s (.d (.int .i64 t))))], lkG [(20, ⟨1, er (eI .u32) w, false⟩)]⟩ R_ := by
  intro m_; induction m_ with
  | zero => intro t w res_ h; rw [f_ref02_Block_l12.eq_1] at h; cases h
  | succ m_ ih =>
    intro t w res_ h k_ hx; rw [f_ref02_Block_l12.eq_2] at h; refine W.cdef c39l12.eq_1 ?_
    refine .seq ?_
    refine .seq ?_
    refine Rw.walk ?_
    simp only [wz, wd, ws, Nat.reduceAdd, Nat.reduceSub, Nat.reduceMul, Nat.reduceLeDiff, Nat.reduceEqDiff, Nat.reduceLT, Nat.reduceBEq, reduceIte, reduceCtorEq, Int.reduceToNat, Nat.reduceShiftRight, Nat.reduceAnd, Nat.reduceBneDiff, Nat.reduceBNe, c39r3, semI.eq_10, semI.eq_11, semI.eq_3, semI.eq_5, semI.eq_7]
    refine .cond (p := (decide (t < 16))) (by first | rfl | simp only [wz, wd, ws, Nat.reduceAdd, Nat.reduceSub, Nat.reduceMul, Nat.reduceLeDiff, Nat.reduceEqDiff, Nat.reduceLT, Nat.reduceBEq, reduceIte, reduceCtorEq, Int.reduceToNat, Nat.reduceShiftRight, Nat.reduceAnd, Nat.reduceBneDiff, Nat.reduceBNe]) (fun h1 => ?_) (fun h1 => ?_)
    · rw [ite_t h1] at h
      refine .skip ?_
      refine .seq ?_
      refine .blk ?_
      refine .seq ?_
      refine Rw.walk ?_
      simp only [wz, wd, ws, Nat.reduceAdd, Nat.reduceSub, Nat.reduceMul, Nat.reduceLeDiff, Nat.reduceEqDiff, Nat.reduceLT, Nat.reduceBEq, reduceIte, reduceCtorEq, Int.reduceToNat, Nat.reduceShiftRight, Nat.reduceAnd, Nat.reduceBneDiff, Nat.reduceBNe, c39r5, semI.eq_10, semI.eq_11, semI.eq_3, semI.eq_5, semI.eq_7]
      refine .seq ?_
      refine .seq ?_
      refine Rw.walk ?_
      simp only [wz, wd, ws, Nat.reduceAdd, Nat.reduceSub, Nat.reduceMul, Nat.reduceLeDiff, Nat.reduceEqDiff, Nat.reduceLT, Nat.reduceBEq, reduceIte, reduceCtorEq, Int.reduceToNat, Nat.reduceShiftRight, Nat.reduceAnd, Nat.reduceBneDiff, Nat.reduceBNe, c39r6, semI.eq_10, semI.eq_11, semI.eq_3, semI.eq_5, semI.eq_7]
      refine .blk ?_
      obtain ⟨s2, hf, h⟩ := Option.bind_eq_some_iff.1 h
      refine .loop (.weak (Imp.co [] _ _ ?c1 ?c2 ?c3 ?c4 ?c5) (f_ref02_Block_l9_ok hv keys s t w _ _ hR _ _ _ _ hf _ ?_))
      case c1 | c2 | c3 | c4 | c5 => simp only [wz, wd, ws, Nat.reduceAdd, Nat.reduceSub, Nat.reduceMul, Nat.reduceLeDiff, Nat.reduceEqDiff, Nat.reduceLT, Nat.reduceBEq, reduceIte, reduceCtorEq, Int.reduceToNat, Nat.reduceShiftRight, Nat.reduceAnd, Nat.reduceBneDiff, Nat.reduceBNe, wi, er_nil]
      · intro s2_ hs; subst hs
        refine Rw.walk ?_
        simp only [wz, wd, ws, Nat.reduceAdd, Nat.reduceSub, Nat.reduceMul, Nat.reduceLeDiff, Nat.reduceEqDiff, Nat.reduceLT, Nat.reduceBEq, reduceIte, reduceCtorEq, Int.reduceToNat, Nat.reduceShiftRight, Nat.reduceAnd, Nat.reduceBneDiff, Nat.reduceBNe, c39r10, semI.eq_10, semI.eq_11, semI.eq_3, semI.eq_5, semI.eq_7]
        refine Go1.of (sem_bsl (enc := (eI .u32)) (m := ([s2.1] : List Int)) (eI_len _) (by rfl) (by rfl) (by rfl) ⟨trivial, trivial⟩) ?_
        simp only [wz, wd, ws, Nat.reduceAdd, Nat.reduceSub, Nat.reduceMul, Nat.reduceLeDiff, Nat.reduceEqDiff, Nat.reduceLT, Nat.reduceBEq, reduceIte, reduceCtorEq, Int.reduceToNat, Nat.reduceShiftRight, Nat.reduceAnd, Nat.reduceBneDiff, Nat.reduceBNe, c39r10, semI.eq_10, semI.eq_11, semI.eq_3, semI.eq_5, semI.eq_7]
        obtain ⟨g2, h⟩ := gd_iff.1 h
        refine Go1.of (sem_app (enc := (eI .u32)) (l := w) (m := ([s2.1] : List Int)) (eI_len _) (by rfl) (by rfl) (newV_own (m := ([s2.1] : List Int)) (by rfl) (by rfl))) ?_
        simp only [wz, wd, ws, Nat.reduceAdd, Nat.reduceSub, Nat.reduceMul, Nat.reduceLeDiff, Nat.reduceEqDiff, Nat.reduceLT, Nat.reduceBEq, reduceIte, reduceCtorEq, Int.reduceToNat, Nat.reduceShiftRight, Nat.reduceAnd, Nat.reduceBneDiff, Nat.reduceBNe, c39r10, semI.eq_10, semI.eq_11, semI.eq_3, semI.eq_5, semI.eq_7]
        repeat (refine And.intro ?_ ?_; · first | omega | (intro q; simp only [wz, wd, ws, Nat.reduceAdd, Nat.reduceSub, Nat.reduceMul, Nat.reduceLeDiff, Nat.reduceEqDiff, Nat.reduceLT, Nat.reduceBEq, reduceIte, reduceCtorEq, Int.reduceToNat, Nat.reduceShiftRight, Nat.reduceAnd, Nat.reduceBneDiff, Nat.reduceBNe, q]; done))
        refine .eblk ?_
        refine Rw.walk ?_
        simp only [wz, wd, ws, Nat.reduceAdd, Nat.reduceSub, Nat.reduceMul, Nat.reduceLeDiff, Nat.reduceEqDiff, Nat.reduceLT, Nat.reduceBEq, reduceIte, reduceCtorEq, Int.reduceToNat, Nat.reduceShiftRight, Nat.reduceAnd, Nat.reduceBneDiff, Nat.reduceBNe, c39r4, semI.eq_10, semI.eq_11, semI.eq_3, semI.eq_5, semI.eq_7]
        refine .lp ?_
        refine .weak (Imp.co [] _ _ ?_ ?_ ?_ ?_ ?_) (ih (IntKind.i64.wrap (t + 1)) (w ++ ([s2.1] : List Int)) _ h k_ hx) <;> simp only [wz, wd, ws, Nat.reduceAdd, Nat.reduceSub, Nat.reduceMul, Nat.reduceLeDiff, Nat.reduceEqDiff, Nat.reduceLT, Nat.reduceBEq, reduceIte, reduceCtorEq, Int.reduceToNat, Nat.reduceShiftRight, Nat.reduceAnd, Nat.reduceBneDiff, Nat.reduceBNe, wi, er_nil]
    · rw [ite_f h1] at h
      refine .exit rfl ?_
      obtain rfl := Option.some.inj h
      refine .weak (Imp.co [] _ _ ?_ ?_ ?_ ?_ ?_) (hx _ rfl) <;> simp only [wz, wd, ws, Nat.reduceAdd, Nat.reduceSub, Nat.reduceMul, Nat.reduceLeDiff, Nat.reduceEqDiff, Nat.reduceLT, Nat.reduceBEq, reduceIte, reduceCtorEq, Int.reduceToNat, Nat.reduceShiftRight, Nat.reduceAnd, Nat.reduceBneDiff, Nat.reduceBNe, wi, er_nil]
theorem f_ref02_Block_l21_ok (hv : (List Int)) (keys : (List Int)) (s : Str) (y_ : (List Int)) (R_ : St → Prop) (hR : (RetO Tryd.prog glP 6 1 (y_.map (eI .u32))) = R_) : ∀ (m_ : Nat) (t : Int) (w : (List Int)) (res_ : Int × (List Int)) (h : f_ref02_Block_l21 hv keys s m_ t w = some res_) (k_ : List It) (hx : ∀ s_ : Int × (List Int), res_ = s_ → W Tryd.prog glP 124 k_ ⟨lkT [(0, .b (.s (.d (.sl (hv.map (eI .u32)))))), (1, .b (.s (.d (.sl (keys.map (eI .u32)))))), (7, .b (.s (.own 20 s_.2.length))), (11, .b (.s (.d (.int .i64 s_.1))))], lkG [(20, ⟨1, er (eI .u32) s_.2, false⟩)]⟩ R_), W Tryd.prog glP 124 (.c c39l21 :: .lp c39l21 :: .blk 4 :: k_) ⟨lkT [(0, .b (.s (.d (.sl (hv.map (eI .u32)))))), (1, .b (.s (.d (.sl (keys.map (eI .u32)))))), (7, .b (.s (.own 20 w.length))), (11, .b (.s (.d (.int .i64 t))))], lkG [(20, ⟨1, er (eI .u32) w, false⟩)]⟩ R_ := by
  intro m_; induction m_ with
  | zero => intro t w res_ h; rw [f_ref02_Block_l21.eq_1] at h; cases h
  | succ m_ ih =>
    intro t w res_ h k_ hx; rw [f_ref02_Block_l21.eq_2] at h; refine W.cdef c39l21.eq_1 ?_
    refine .seq ?_
    refine .seq ?_
    refine Rw.walk ?_
    simp only [wz, wd, ws, Nat.reduceAdd, Nat.reduceSub, Nat.reduceMul, Nat.reduceLeDiff, Nat.reduceEqDiff, Nat.reduceLT, Nat.reduceBEq, reduceIte, reduceCtorEq, Int.reduceToNat, Nat.reduceShiftRight, Nat.reduceAnd, Nat.reduceBneDiff, Nat.reduceBNe, c39r12, semI.eq_10, semI.eq_11, semI.eq_3, semI.eq_5, semI.eq_7]
    refine .cond (p := (decide (t < 64))) (by first | rfl | simp only [wz, wd, ws, Nat.reduceAdd, Nat.reduceSub, Nat.reduceMul, Nat.reduceLeDiff, Nat.reduceEqDiff, Nat.reduceLT, Nat.reduceBEq, reduceIte, reduceCtorEq, Int.reduceToNat, Nat.reduceShiftRight, Nat.reduceAnd, Nat.reduceBneDiff, Nat.reduceBNe]) (fun h1 => ?_) (fun h1 => ?_)
    · rw [ite_t h1] at h
      refine .skip ?_
      refine .seq ?_
      refine .blk ?_
      refine .seq ?_
      refine Rw.walk ?_
      simp only [wz, wd, ws, Nat.reduceAdd, Nat.reduceSub, Nat.reduceMul, Nat.reduceLeDiff, Nat.reduceEqDiff, Nat.reduceLT, Nat.reduceBEq, reduceIte, reduceCtorEq, Int.reduceToNat, Nat.reduceShiftRight, Nat.reduceAnd, Nat.reduceBneDiff, Nat.reduceBNe, c39r14, semI.eq_10, semI.eq_11, semI.eq_3, semI.eq_5, semI.eq_7]
      obtain ⟨x, e3, h⟩ := Option.bind_eq_some_iff.1 h
      refine Go1.of (sem_iadrO (l := w) e3 (by rfl) (by rfl) (by rfl)) ?_
      simp only [wz, wd, ws, Nat.reduceAdd, Nat.reduceSub, Nat.reduceMul, Nat.reduceLeDiff, Nat.reduceEqDiff, Nat.reduceLT, Nat.reduceBEq, reduceIte, reduceCtorEq, Int.reduceToNat, Nat.reduceShiftRight, Nat.reduceAnd, Nat.reduceBneDiff, Nat.reduceBNe, c39r14, semI.eq_10, semI.eq_11, semI.eq_3, semI.eq_5, semI.eq_7, er_get e3]
      refine .seq ?_
      refine Rw.walk ?_
      simp only [wz, wd, ws, Nat.reduceAdd, Nat.reduceSub, Nat.reduceMul, Nat.reduceLeDiff, Nat.reduceEqDiff, Nat.reduceLT, Nat.reduceBEq, reduceIte, reduceCtorEq, Int.reduceToNat, Nat.reduceShiftRight, Nat.reduceAnd, Nat.reduceBneDiff, Nat.reduceBNe, c39r15, semI.eq_10, semI.eq_11, semI.eq_3, semI.eq_5, semI.eq_7, er_get e3]
      obtain ⟨x2, e4, h⟩ := Option.bind_eq_some_iff.1 h
      refine Go1.of (sem_iadrO (l := w) e4 (by rfl) (by rfl) (by rfl)) ?_
      simp only [wz, wd, ws, Nat.reduceAdd, Nat.reduceSub, Nat.reduceMul, Nat.reduceLeDiff, Nat.reduceEqDiff, Nat.reduceLT, Nat.reduceBEq, reduceIte, reduceCtorEq, Int.reduceToNat, Nat.reduceShiftRight, Nat.reduceAnd, Nat.reduceBneDiff, Nat.reduceBNe, c39r15, semI.eq_10, semI.eq_11, semI.eq_3, semI.eq_5, semI.eq_7, er_get e3, er_get e4]
      refine .seq ?_
      refine Rw.walk ?_
      simp only [wz, wd, ws, Nat.reduceAdd, Nat.reduceSub, Nat.reduceMul, Nat.reduceLeDiff, Nat.reduceEqDiff, Nat.reduceLT, Nat.reduceBEq, reduceIte, reduceCtorEq, Int.reduceToNat, Nat.reduceShiftRight, Nat.reduceAnd, Nat.reduceBneDiff, Nat.reduceBNe, c39r16, semI.eq_10, semI.eq_11, semI.eq_3, semI.eq_5, semI.eq_7, er_get e3, er_get e4]
      obtain ⟨t2, e5, h⟩ := Option.bind_eq_some_iff.1 h
      refine call_fun [] false ⟨trivial, trivial, trivial, trivial⟩ rfl ?_ (f_ref02_turn_ok _ _ _ e5) (fun _ => rfl) (fun i hi => by cases hi) ?_
      · simp only [wz, wd, ws, Nat.reduceAdd, Nat.reduceSub, Nat.reduceMul, Nat.reduceLeDiff, Nat.reduceEqDiff, Nat.reduceLT, Nat.reduceBEq, reduceIte, reduceCtorEq, Int.reduceToNat, Nat.reduceShiftRight, Nat.reduceAnd, Nat.reduceBneDiff, Nat.reduceBNe, er_get e3, er_get e4]
      simp only [wz, wd, ws, Nat.reduceAdd, Nat.reduceSub, Nat.reduceMul, Nat.reduceLeDiff, Nat.reduceEqDiff, Nat.reduceLT, Nat.reduceBEq, reduceIte, reduceCtorEq, Int.reduceToNat, Nat.reduceShiftRight, Nat.reduceAnd, Nat.reduceBneDiff, Nat.reduceBNe, c39r16, semI.eq_10, semI.eq_11, semI.eq_3, semI.eq_5, semI.eq_7, er_get e3, er_get e4]
      obtain ⟨t3, e6, h⟩ := Option.bind_eq_some_iff.1 h
      refine call_fun [] false ⟨trivial, trivial, trivial, trivial⟩ rfl ?_ (f_ref02_turn_ok _ _ _ e6) (fun _ => rfl) (fun i hi => by cases hi) ?_
      · simp only [wz, wd, ws, Nat.reduceAdd, Nat.reduceSub, Nat.reduceMul, Nat.reduceLeDiff, Nat.reduceEqDiff, Nat.reduceLT, Nat.reduceBEq, reduceIte, reduceCtorEq, Int.reduceToNat, Nat.reduceShiftRight, Nat.reduceAnd, Nat.reduceBneDiff, Nat.reduceBNe, er_get e3, er_get e4]
      simp only [wz, wd, ws, Nat.reduceAdd, Nat.reduceSub, Nat.reduceMul, Nat.reduceLeDiff, Nat.reduceEqDiff, Nat.reduceLT, Nat.reduceBEq, reduceIte, reduceCtorEq, Int.reduceToNat, Nat.reduceShiftRight, Nat.reduceAnd, Nat.reduceBneDiff, Nat.reduceBNe, c39r16, semI.eq_10, semI.eq_11, semI.eq_3, semI.eq_5, semI.eq_7, er_get e3, er_get e4]
      repeat (refine And.intro ?_ ?_; · first | omega | (intro q; simp only [wz, wd, ws, Nat.reduceAdd, Nat.reduceSub, Nat.reduceMul, Nat.reduceLeDiff, Nat.reduceEqDiff, Nat.reduceLT, Nat.reduceBEq, reduceIte, reduceCtorEq, Int.reduceToNat, Nat.reduceShiftRight, Nat.reduceAnd, Nat.reduceBneDiff, Nat.reduceBNe, q]; done))
      obtain ⟨s0, e7, h⟩ := Option.bind_eq_some_iff.1 h
      replace e7 := Option.some.inj e7
      first | simp only [e7] | (simp only [wz, wd, ws, Nat.reduceAdd, Nat.reduceSub, Nat.reduceMul, Nat.reduceLeDiff, Nat.reduceEqDiff, Nat.reduceLT, Nat.reduceBEq, reduceIte, reduceCtorEq, Int.reduceToNat, Nat.reduceShiftRight, Nat.reduceAnd, Nat.reduceBneDiff, Nat.reduceBNe] at e7; simp only [e7])
      refine .seq ?_
      refine Rw.walk ?_
      simp only [wz, wd, ws, Nat.reduceAdd, Nat.reduceSub, Nat.reduceMul, Nat.reduceLeDiff, Nat.reduceEqDiff, Nat.reduceLT, Nat.reduceBEq, reduceIte, reduceCtorEq, Int.reduceToNat, Nat.reduceShiftRight, Nat.reduceAnd, Nat.reduceBneDiff, Nat.reduceBNe, c39r17, semI.eq_10, semI.eq_11, semI.eq_3, semI.eq_5, semI.eq_7, er_get e3, er_get e4]
      obtain ⟨t4, e8, h⟩ := Option.bind_eq_some_iff.1 h
      refine call_fun [] false ⟨trivial, trivial, trivial, trivial⟩ rfl ?_ (f_ref02_turn_ok _ _ _ e8) (fun _ => rfl) (fun i hi => by cases hi) ?_
      · simp only [wz, wd, ws, Nat.reduceAdd, Nat.reduceSub, Nat.reduceMul, Nat.reduceLeDiff, Nat.reduceEqDiff, Nat.reduceLT, Nat.reduceBEq, reduceIte, reduceCtorEq, Int.reduceToNat, Nat.reduceShiftRight, Nat.reduceAnd, Nat.reduceBneDiff, Nat.reduceBNe, er_get e3, er_get e4]
      simp only [wz, wd, ws, Nat.reduceAdd, Nat.reduceSub, Nat.reduceMul, Nat.reduceLeDiff, Nat.reduceEqDiff, Nat.reduceLT, Nat.reduceBEq, reduceIte, reduceCtorEq, Int.reduceToNat, Nat.reduceShiftRight, Nat.reduceAnd, Nat.reduceBneDiff, Nat.reduceBNe, c39r17, semI.eq_10, semI.eq_11, semI.eq_3, semI.eq_5, semI.eq_7, er_get e3, er_get e4]
      obtain ⟨t5, e9, h⟩ := Option.bind_eq_some_iff.1 h
      refine call_fun [] false ⟨trivial, trivial, trivial, trivial⟩ rfl ?_ (f_ref02_turn_ok _ _ _ e9) (fun _ => rfl) (fun i hi => by cases hi) ?_
      · simp only [wz, wd, ws, Nat.reduceAdd, Nat.reduceSub, Nat.reduceMul, Nat.reduceLeDiff, Nat.reduceEqDiff, Nat.reduceLT, Nat.reduceBEq, reduceIte, reduceCtorEq, Int.reduceToNat, Nat.reduceShiftRight, Nat.reduceAnd, Nat.reduceBneDiff, Nat.reduceBNe, er_get e3, er_get e4]
      simp only [wz, wd, ws, Nat.reduceAdd, Nat.reduceSub, Nat.reduceMul, Nat.reduceLeDiff, Nat.reduceEqDiff, Nat.reduceLT, Nat.reduceBEq, reduceIte, reduceCtorEq, Int.reduceToNat, Nat.reduceShiftRight, Nat.reduceAnd, Nat.reduceBneDiff, Nat.reduceBNe, c39r17, semI.eq_10, semI.eq_11, semI.eq_3, semI.eq_5, semI.eq_7, er_get e3, er_get e4]
      repeat (refine And.intro ?_ ?_; · first | omega | (intro q; simp only [wz, wd, ws, Nat.reduceAdd, Nat.reduceSub, Nat.reduceMul, Nat.reduceLeDiff, Nat.reduceEqDiff, Nat.reduceLT, Nat.reduceBEq, reduceIte, reduceCtorEq, Int.reduceToNat, Nat.reduceShiftRight, Nat.reduceAnd, Nat.reduceBneDiff, Nat.reduceBNe, q]; done))
      obtain ⟨s1, e10, h⟩ := Option.bind_eq_some_iff.1 h
      replace e10 := Option.some.inj e10
      first | simp only [e10] | (simp only [wz, wd, ws, Nat.reduceAdd, Nat.reduceSub, Nat.reduceMul, Nat.reduceLeDiff, Nat.reduceEqDiff, Nat.reduceLT, Nat.reduceBEq, reduceIte, reduceCtorEq, Int.reduceToNat, Nat.reduceShiftRight, Nat.reduceAnd, Nat.reduceBneDiff, Nat.reduceBNe] at e10; simp only [e10])
      refine RwD.walk ?_
      simp only [wz, wd, ws, Nat.reduceAdd, Nat.reduceSub, Nat.reduceMul, Nat.reduceLeDiff, Nat.reduceEqDiff, Nat.reduceLT, Nat.reduceBEq, reduceIte, reduceCtorEq, Int.reduceToNat, Nat.reduceShiftRight, Nat.reduceAnd, Nat.reduceBneDiff, Nat.reduceBNe, c39r18, semI.eq_10, semI.eq_11, semI.eq_3, semI.eq_5, semI.eq_7, er_get e3, er_get e4]
      obtain ⟨x3, e11, h⟩ := Option.bind_eq_some_iff.1 h
      refine GoD1.of (sem_iadrO (l := w) e11 (by rfl) (by rfl) (by rfl)) ?_
      simp only [wz, wd, ws, Nat.reduceAdd, Nat.reduceSub, Nat.reduceMul, Nat.reduceLeDiff, Nat.reduceEqDiff, Nat.reduceLT, Nat.reduceBEq, reduceIte, reduceCtorEq, Int.reduceToNat, Nat.reduceShiftRight, Nat.reduceAnd, Nat.reduceBneDiff, Nat.reduceBNe, c39r18, semI.eq_10, semI.eq_11, semI.eq_3, semI.eq_5, semI.eq_7, er_get e3, er_get e4, er_get e11]
      obtain ⟨x4, e12, h⟩ := Option.bind_eq_some_iff.1 h
      refine GoD1.of (sem_iadrO (l := w) e12 (by rfl) (by rfl) (by rfl)) ?_
      simp only [wz, wd, ws, Nat.reduceAdd, Nat.reduceSub, Nat.reduceMul, Nat.reduceLeDiff, Nat.reduceEqDiff, Nat.reduceLT, Nat.reduceBEq, reduceIte, reduceCtorEq, Int.reduceToNat, Nat.reduceShiftRight, Nat.reduceAnd, Nat.reduceBneDiff, Nat.reduceBNe, c39r18, semI.eq_10, semI.eq_11, semI.eq_3, semI.eq_5, semI.eq_7, er_get e3, er_get e4, er_get e11, er_get e12]
      refine GoD1.of (sem_bsl (enc := (eI .u32)) (m := ([(IntKind.u32.wrap ((IntKind.u32.wrap ((IntKind.u32.wrap (s1 + x3)) + s0)) + x4))] : List Int)) (eI_len _) (by rfl) (by rfl) (by rfl) ⟨trivial, trivial⟩) ?_
      simp only [wz, wd, ws, Nat.reduceAdd, Nat.reduceSub, Nat.reduceMul, Nat.reduceLeDiff, Nat.reduceEqDiff, Nat.reduceLT, Nat.reduceBEq, reduceIte, reduceCtorEq, Int.reduceToNat, Nat.reduceShiftRight, Nat.reduceAnd, Nat.reduceBneDiff, Nat.reduceBNe, c39r18, semI.eq_10, semI.eq_11, semI.eq_3, semI.eq_5, semI.eq_7, er_get e3, er_get e4, er_get e11, er_get e12]
      obtain ⟨g13, h⟩ := gd_iff.1 h
      refine GoD1.of (sem_app (enc := (eI .u32)) (l := w) (m := ([(IntKind.u32.wrap ((IntKind.u32.wrap ((IntKind.u32.wrap (s1 + x3)) + s0)) + x4))] : List Int)) (eI_len _) (by rfl) (by rfl) (newV_own (m := ([(IntKind.u32.wrap ((IntKind.u32.wrap ((IntKind.u32.wrap (s1 + x3)) + s0)) + x4))] : List Int)) (by rfl) (by rfl))) ?_
      simp only [wz, wd, ws, Nat.reduceAdd, Nat.reduceSub, Nat.reduceMul, Nat.reduceLeDiff, Nat.reduceEqDiff, Nat.reduceLT, Nat.reduceBEq, reduceIte, reduceCtorEq, Int.reduceToNat, Nat.reduceShiftRight, Nat.reduceAnd, Nat.reduceBneDiff, Nat.reduceBNe, c39r18, semI.eq_10, semI.eq_11, semI.eq_3, semI.eq_5, semI.eq_7, er_get e3, er_get e4, er_get e11, er_get e12]
      repeat (refine And.intro ?_ ?_; · first | omega | (intro q; simp only [wz, wd, ws, Nat.reduceAdd, Nat.reduceSub, Nat.reduceMul, Nat.reduceLeDiff, Nat.reduceEqDiff, Nat.reduceLT, Nat.reduceBEq, reduceIte, reduceCtorEq, Int.reduceToNat, Nat.reduceShiftRight, Nat.reduceAnd, Nat.reduceBneDiff, Nat.reduceBNe, q]; done))
      refine .eblk ?_
      refine Rw.walk ?_
      simp only [wz, wd, ws, Nat.reduceAdd, Nat.reduceSub, Nat.reduceMul, Nat.reduceLeDiff, Nat.reduceEqDiff, Nat.reduceLT, Nat.reduceBEq, reduceIte, reduceCtorEq, Int.reduceToNat, Nat.reduceShiftRight, Nat.reduceAnd, Nat.reduceBneDiff, Nat.reduceBNe, c39r13, semI.eq_10, semI.eq_11, semI.eq_3, semI.eq_5, semI.eq_7, er_get e3, er_get e4, er_get e11, er_get e12]
      refine .lp ?_
      refine .weak (Imp.co [] _ _ ?_ ?_ ?_ ?_ ?_) (ih (IntKind.i64.wrap (t + 1)) (w ++ ([(IntKind.u32.wrap ((IntKind.u32.wrap ((IntKind.u32.wrap (s1 + x3)) + s0)) + x4))] : List Int)) _ h k_ hx) <;> simp only [wz, wd, ws, Nat.reduceAdd, Nat.reduceSub, Nat.reduceMul, Nat.reduceLeDiff, Nat.reduceEqDiff, Nat.reduceLT, Nat.reduceBEq, reduceIte, reduceCtorEq, Int.reduceToNat, Nat.reduceShiftRight, Nat.reduceAnd, Nat.reduceBneDiff, Nat.reduceBNe, wi, er_nil]
    · rw [ite_f h1] at h
      refine .exit rfl ?_
      obtain rfl := Option.some.inj h
      refine .weak (Imp.co [] _ _ ?_ ?_ ?_ ?_ ?_) (hx _ rfl) <;> simp only [wz, wd, ws, Nat.reduceAdd, Nat.reduceSub, Nat.reduceMul, Nat.reduceLeDiff, Nat.reduceEqDiff, Nat.reduceLT, Nat.reduceBEq, reduceIte, reduceCtorEq, Int.reduceToNat, Nat.reduceShiftRight, Nat.reduceAnd, Nat.reduceBneDiff, Nat.reduceBNe, wi, er_nil]
theorem f_ref02_Block_l27_ok (hv : (List Int)) (keys : (List Int)) (s : Str) (s3 : Int × (List Int)) (y_ : (List Int)) (R_ : St → Prop) (hR : (RetO Tryd.prog glP 6 1 (y_.map (eI .u32))) = R_) : ∀ (m_ : Nat) (v : (List Int)) (t : Int) (res_ : (List Int) × Int) (h : f_ref02_Block_l27 hv keys s s3 m_ v t = some res_) (k_ : List It) (hx : ∀ s_ : (List Int) × Int, res_ = s_ → W Tryd.prog glP 124 k_ ⟨lkT [(0, .b (.s (.d (.sl (hv.map (eI .u32)))))), (1, .b (.s (.d (.sl (keys.map (eI .u32)))))), (7, .b (.s (.own 20 s3.2.length))), (16, .b (.s (.d (.sl (s_.1.map (eI .u32)))))), (17, .b (.s (.d (.int .i64 s_.2))))], lkG [(20, ⟨1, er (eI .u32) s3.2, false⟩)]⟩ R_), W Tryd.prog glP 124 (.c c39l27 :: .lp c39l27 :: .blk 6 :: k_) ⟨lkT [(0, .b (.s (.d (.sl (hv.map (eI .u32)))))), (1, .b (.s (.d (.sl (keys.map (eI .u32)))))), (7, .b (.s (.own 20 s3.2.length))), (16, .b (.s (.d (.sl (v.map (eI .u32)))))), (17, .b (.s (.d (.int .i64 t))))], lkG [(20, ⟨1, er (eI .u32) s3.2, false⟩)]⟩ R_ := by
  intro m_; induction m_ with
  | zero => intro v t res_ h; rw [f_ref02_Block_l27.eq_1] at h; cases h
  | succ m_ ih =>
    intro v t res_ h k_ hx; rw [f_ref02_Block_l27.eq_2] at h; refine W.cdef c39l27.eq_1 ?_
    refine .seq ?_
    refine .seq ?_
    refine Rw.walk ?_
    simp only [wz, wd, ws, Nat.reduceAdd, Nat.reduceSub, Nat.reduceMul, Nat.reduceLeDiff, Nat.reduceEqDiff, Nat.reduceLT, Nat.reduceBEq, reduceIte, reduceCtorEq, Int.reduceToNat, Nat.reduceShiftRight, Nat.reduceAnd, Nat.reduceBneDiff, Nat.reduceBNe, c39r21, semI.eq_10, semI.eq_11, semI.eq_3, semI.eq_5, semI.eq_7]
    refine .cond (p := (decide (t < 64))) (by first | rfl | simp only [wz, wd, ws, Nat.reduceAdd, Nat.reduceSub, Nat.reduceMul, Nat.reduceLeDiff, Nat.reduceEqDiff, Nat.reduceLT, Nat.reduceBEq, reduceIte, reduceCtorEq, Int.reduceToNat, Nat.reduceShiftRight, Nat.reduceAnd, Nat.reduceBneDiff, Nat.reduceBNe]) (fun h1 => ?_) (fun h1 => ?_)
    · rw [ite_t h1] at h
      refine .skip ?_
      refine .seq ?_
      refine .blk ?_
      refine RwD.walk ?_
      simp only [wz, wd, ws, Nat.reduceAdd, Nat.reduceSub, Nat.reduceMul, Nat.reduceLeDiff, Nat.reduceEqDiff, Nat.reduceLT, Nat.reduceBEq, reduceIte, reduceCtorEq, Int.reduceToNat, Nat.reduceShiftRight, Nat.reduceAnd, Nat.reduceBneDiff, Nat.reduceBNe, c39r23, semI.eq_10, semI.eq_11, semI.eq_3, semI.eq_5, semI.eq_7]
      obtain ⟨x, e14, h⟩ := Option.bind_eq_some_iff.1 h
      refine GoD1.of (sem_iadr (eI_len _) e14 (by rfl) (by rfl)) ?_
      simp only [wz, wd, ws, Nat.reduceAdd, Nat.reduceSub, Nat.reduceMul, Nat.reduceLeDiff, Nat.reduceEqDiff, Nat.reduceLT, Nat.reduceBEq, reduceIte, reduceCtorEq, Int.reduceToNat, Nat.reduceShiftRight, Nat.reduceAnd, Nat.reduceBneDiff, Nat.reduceBNe, c39r23, semI.eq_10, semI.eq_11, semI.eq_3, semI.eq_5, semI.eq_7]
      obtain ⟨x2, e15, h⟩ := Option.bind_eq_some_iff.1 h
      refine GoD1.of (sem_iadrO (l := s3.2) e15 (by rfl) (by rfl) (by rfl)) ?_
      simp only [wz, wd, ws, Nat.reduceAdd, Nat.reduceSub, Nat.reduceMul, Nat.reduceLeDiff, Nat.reduceEqDiff, Nat.reduceLT, Nat.reduceBEq, reduceIte, reduceCtorEq, Int.reduceToNat, Nat.reduceShiftRight, Nat.reduceAnd, Nat.reduceBneDiff, Nat.reduceBNe, c39r23, semI.eq_10, semI.eq_11, semI.eq_3, semI.eq_5, semI.eq_7, er_get e15]
      obtain ⟨t2, e16, h⟩ := Option.bind_eq_some_iff.1 h
      refine call_funO' [] ⟨trivial, trivial, trivial, trivial, trivial⟩ rfl ?_ (f_ref02_step_ok _ _ _ _ e16) rfl (.inl rfl) ?_
      · simp only [wz, wd, ws, Nat.reduceAdd, Nat.reduceSub, Nat.reduceMul, Nat.reduceLeDiff, Nat.reduceEqDiff, Nat.reduceLT, Nat.reduceBEq, reduceIte, reduceCtorEq, Int.reduceToNat, Nat.reduceShiftRight, Nat.reduceAnd, Nat.reduceBneDiff, Nat.reduceBNe, er_get e15]
      simp only [wz, wd, ws, Nat.reduceAdd, Nat.reduceSub, Nat.reduceMul, Nat.reduceLeDiff, Nat.reduceEqDiff, Nat.reduceLT, Nat.reduceBEq, reduceIte, reduceCtorEq, Int.reduceToNat, Nat.reduceShiftRight, Nat.reduceAnd, Nat.reduceBneDiff, Nat.reduceBNe, c39r23, semI.eq_10, semI.eq_11, semI.eq_3, semI.eq_5, semI.eq_7, er_get e15]
      refine .eblk ?_
      refine Rw.walk ?_
      simp only [wz, wd, ws, Nat.reduceAdd, Nat.reduceSub, Nat.reduceMul, Nat.reduceLeDiff, Nat.reduceEqDiff, Nat.reduceLT, Nat.reduceBEq, reduceIte, reduceCtorEq, Int.reduceToNat, Nat.reduceShiftRight, Nat.reduceAnd, Nat.reduceBneDiff, Nat.reduceBNe, c39r22, semI.eq_10, semI.eq_11, semI.eq_3, semI.eq_5, semI.eq_7, er_get e15]
      refine .lp ?_
      refine .weak (Imp.co [105] _ _ ?_ ?_ ?_ ?_ ?_) (ih t2 (IntKind.i64.wrap (t + 1)) _ h k_ hx) <;> simp only [wz, wd, ws, Nat.reduceAdd, Nat.reduceSub, Nat.reduceMul, Nat.reduceLeDiff, Nat.reduceEqDiff, Nat.reduceLT, Nat.reduceBEq, reduceIte, reduceCtorEq, Int.reduceToNat, Nat.reduceShiftRight, Nat.reduceAnd, Nat.reduceBneDiff, Nat.reduceBNe, wi, er_nil]
    · rw [ite_f h1] at h
      refine .exit rfl ?_
      obtain rfl := Option.some.inj h
      refine .weak (Imp.co [] _ _ ?_ ?_ ?_ ?_ ?_) (hx _ rfl) <;> simp only [wz, wd, ws, Nat.reduceAdd, Nat.reduceSub, Nat.reduceMul, Nat.reduceLeDiff, Nat.reduceEqDiff, Nat.reduceLT, Nat.reduceBEq, reduceIte, reduceCtorEq, Int.reduceToNat, Nat.reduceShiftRight, Nat.reduceAnd, Nat.reduceBneDiff, Nat.reduceBNe, wi, er_nil]
theorem f_ref02_Block_l33_ok (hv : (List Int)) (s : Str) (s4 : (List Int) × Int) (y_ : (List Int)) (R_ : St → Prop) (hR : (RetO Tryd.prog glP 6 1 (y_.map (eI .u32))) = R_) : ∀ (m_ : Nat) (i : Int) (out : (List Int)) (res_ : Int × (List Int)) (h : f_ref02_Block_l33 hv s s4 m_ i out = some res_) (k_ : List It) (hx : ∀ s_ : Int × (List Int), res_ = s_ → W Tryd.prog glP 124 k_ ⟨lkT [(0, .b (.s (.d (.sl (hv.map (eI .u32)))))), (16, .b (.s (.d (.sl (s4.1.map (eI .u32)))))), (18, .b (.s (.own 106 s_.2.length))), (19, .b (.s (.d (.int .i64 s_.1))))], lkG [(106, ⟨1, er (eI .u32) s_.2, false⟩)]⟩ R_), W Tryd.prog glP 124 (.c c39l33 :: .lp c39l33 :: .blk 8 :: k_) ⟨lkT [(0, .b (.s (.d (.sl (hv.map (eI .u32)))))), (16, .b (.s (.d (.sl (s4.1.map (eI .u32)))))), (18, .b (.s (.own 106 out.length))), (19, .b (.s (.d (.int .i64 i))))], lkG [(106, ⟨1, er (eI .u32) out, false⟩)]⟩ R_ := by
  intro m_; induction m_ with
  | zero => intro i out res_ h; rw [f_ref02_Block_l33.eq_1] at h; cases h
  | succ m_ ih =>
    intro i out res_ h k_ hx; rw [f_ref02_Block_l33.eq_2] at h; refine W.cdef c39l33.eq_1 ?_
    refine .seq ?_
    refine .seq ?_
    refine Rw.walk ?_
    simp only [wz, wd, ws, Nat.reduceAdd, Nat.reduceSub, Nat.reduceMul, Nat.reduceLeDiff, Nat.reduceEqDiff, Nat.reduceLT, Nat.reduceBEq, reduceIte, reduceCtorEq, Int.reduceToNat, Nat.reduceShiftRight, Nat.reduceAnd, Nat.reduceBneDiff, Nat.reduceBNe, c39r26, semI.eq_10, semI.eq_11, semI.eq_3, semI.eq_5, semI.eq_7]
    refine .cond (p := (decide (i < 8))) (by first | rfl | simp only [wz, wd, ws, Nat.reduceAdd, Nat.reduceSub, Nat.reduceMul, Nat.reduceLeDiff, Nat.reduceEqDiff, Nat.reduceLT, Nat.reduceBEq, reduceIte, reduceCtorEq, Int.reduceToNat, Nat.reduceShiftRight, Nat.reduceAnd, Nat.reduceBneDiff, Nat.reduceBNe]) (fun h1 => ?_) (fun h1 => ?_)
    · rw [ite_t h1] at h
      refine .skip ?_
      refine .seq ?_
      refine .blk ?_
      refine RwD.walk ?_
      simp only [wz, wd, ws, Nat.reduceAdd, Nat.reduceSub, Nat.reduceMul, Nat.reduceLeDiff, Nat.reduceEqDiff, Nat.reduceLT, Nat.reduceBEq, reduceIte, reduceCtorEq, Int.reduceToNat, Nat.reduceShiftRight, Nat.reduceAnd, Nat.reduceBneDiff, Nat.reduceBNe, c39r28, semI.eq_10, semI.eq_11, semI.eq_3, semI.eq_5, semI.eq_7]
      obtain ⟨x, e17, h⟩ := Option.bind_eq_some_iff.1 h
      refine GoD1.of (sem_iadr (eI_len _) e17 (by rfl) (by rfl)) ?_
      simp only [wz, wd, ws, Nat.reduceAdd, Nat.reduceSub, Nat.reduceMul, Nat.reduceLeDiff, Nat.reduceEqDiff, Nat.reduceLT, Nat.reduceBEq, reduceIte, reduceCtorEq, Int.reduceToNat, Nat.reduceShiftRight, Nat.reduceAnd, Nat.reduceBneDiff, Nat.reduceBNe, c39r28, semI.eq_10, semI.eq_11, semI.eq_3, semI.eq_5, semI.eq_7]
      obtain ⟨x2, e18, h⟩ := Option.bind_eq_some_iff.1 h
      refine GoD1.of (sem_iadr (eI_len _) e18 (by rfl) (by rfl)) ?_
      simp only [wz, wd, ws, Nat.reduceAdd, Nat.reduceSub, Nat.reduceMul, Nat.reduceLeDiff, Nat.reduceEqDiff, Nat.reduceLT, Nat.reduceBEq, reduceIte, reduceCtorEq, Int.reduceToNat, Nat.reduceShiftRight, Nat.reduceAnd, Nat.reduceBneDiff, Nat.reduceBNe, c39r28, semI.eq_10, semI.eq_11, semI.eq_3, semI.eq_5, semI.eq_7]
      refine GoD1.of (sem_bsl (enc := (eI .u32)) (m := ([(IntKind.u32.wrap (x + x2))] : List Int)) (eI_len _) (by rfl) (by rfl) (by rfl) ⟨trivial, trivial⟩) ?_
      simp only [wz, wd, ws, Nat.reduceAdd, Nat.reduceSub, Nat.reduceMul, Nat.reduceLeDiff, Nat.reduceEqDiff, Nat.reduceLT, Nat.reduceBEq, reduceIte, reduceCtorEq, Int.reduceToNat, Nat.reduceShiftRight, Nat.reduceAnd, Nat.reduceBneDiff, Nat.reduceBNe, c39r28, semI.eq_10, semI.eq_11, semI.eq_3, semI.eq_5, semI.eq_7]
      obtain ⟨g19, h⟩ := gd_iff.1 h
      refine GoD1.of (sem_app (enc := (eI .u32)) (l := out) (m := ([(IntKind.u32.wrap (x + x2))] : List Int)) (eI_len _) (by rfl) (by rfl) (newV_own (m := ([(IntKind.u32.wrap (x + x2))] : List Int)) (by rfl) (by rfl))) ?_
      simp only [wz, wd, ws, Nat.reduceAdd, Nat.reduceSub, Nat.reduceMul, Nat.reduceLeDiff, Nat.reduceEqDiff, Nat.reduceLT, Nat.reduceBEq, reduceIte, reduceCtorEq, Int.reduceToNat, Nat.reduceShiftRight, Nat.reduceAnd, Nat.reduceBneDiff, Nat.reduceBNe, c39r28, semI.eq_10, semI.eq_11, semI.eq_3, semI.eq_5, semI.eq_7]
      repeat (refine And.intro ?_ ?_; · first | omega | (intro q; simp only [wz, wd, ws, Nat.reduceAdd, Nat.reduceSub, Nat.reduceMul, Nat.reduceLeDiff, Nat.reduceEqDiff, Nat.reduceLT, Nat.reduceBEq, reduceIte, reduceCtorEq, Int.reduceToNat, Nat.reduceShiftRight, Nat.reduceAnd, Nat.reduceBneDiff, Nat.reduceBNe, q]; done))
      refine .eblk ?_
      refine Rw.walk ?_
      simp only [wz, wd, ws, Nat.reduceAdd, Nat.reduceSub, Nat.reduceMul, Nat.reduceLeDiff, Nat.reduceEqDiff, Nat.reduceLT, Nat.reduceBEq, reduceIte, reduceCtorEq, Int.reduceToNat, Nat.reduceShiftRight, Nat.reduceAnd, Nat.reduceBneDiff, Nat.reduceBNe, c39r27, semI.eq_10, semI.eq_11, semI.eq_3, semI.eq_5, semI.eq_7]
      refine .lp ?_
      refine .weak (Imp.co [] _ _ ?_ ?_ ?_ ?_ ?_) (ih (IntKind.i64.wrap (i + 1)) (out ++ ([(IntKind.u32.wrap (x + x2))] : List Int)) _ h k_ hx) <;> simp only [wz, wd, ws, Nat.reduceAdd, Nat.reduceSub, Nat.reduceMul, Nat.reduceLeDiff, Nat.reduceEqDiff, Nat.reduceLT, Nat.reduceBEq, reduceIte, reduceCtorEq, Int.reduceToNat, Nat.reduceShiftRight, Nat.reduceAnd, Nat.reduceBneDiff, Nat.reduceBNe, wi, er_nil]
    · rw [ite_f h1] at h
      refine .exit rfl ?_
      obtain rfl := Option.some.inj h
      refine .weak (Imp.co [] _ _ ?_ ?_ ?_ ?_ ?_) (hx _ rfl) <;> simp only [wz, wd, ws, Nat.reduceAdd, Nat.reduceSub, Nat.reduceMul, Nat.reduceLeDiff, Nat.reduceEqDiff, Nat.reduceLT, Nat.reduceBEq, reduceIte, reduceCtorEq, Int.reduceToNat, Nat.reduceShiftRight, Nat.reduceAnd, Nat.reduceBneDiff, Nat.reduceBNe, wi, er_nil]
theorem f_ref02_Block_ok (hv : (List Int)) (keys : (List Int)) (s : Str) (y_ : (List Int)) (h : f_ref02_Block hv keys s = some y_) : FunO Tryd.prog glP 39 [.b (.s (.d (.sl (hv.map (eI .u32))))), .b (.s (.d (.sl (keys.map (eI .u32))))), .b (.s (.d (.str s)))] 1 (y_.map (eI .u32)) := by
  refine funO_walk Tryd.func39 Tryd.ntmps39 cc39 cr39 (by kernel_rfl) (by simp only [List.length_cons, List.length_nil]; decide) ?_
  generalize hR : RetO _ _ _ _ _ = R_
  simp only [wz, wd, ws, Nat.reduceAdd, Nat.reduceSub, Nat.reduceMul, Nat.reduceLeDiff, Nat.reduceEqDiff, Nat.reduceLT, Nat.reduceBEq, reduceIte, reduceCtorEq, Int.reduceToNat, Nat.reduceShiftRight, Nat.reduceAnd, Nat.reduceBneDiff, Nat.reduceBNe]
  unfold f_ref02_Block at h; unfold c39
  refine .seq ?_
  refine Rw.walk ?_
  simp only [wz, wd, ws, Nat.reduceAdd, Nat.reduceSub, Nat.reduceMul, Nat.reduceLeDiff, Nat.reduceEqDiff, Nat.reduceLT, Nat.reduceBEq, reduceIte, reduceCtorEq, Int.reduceToNat, Nat.reduceShiftRight, Nat.reduceAnd, Nat.reduceBneDiff, Nat.reduceBNe, c39r0, semI.eq_10, semI.eq_11, semI.eq_3, semI.eq_5, semI.eq_7]
  refine .seq ?_
  refine Rw.walk ?_
  simp only [wz, wd, ws, Nat.reduceAdd, Nat.reduceSub, Nat.reduceMul, Nat.reduceLeDiff, Nat.reduceEqDiff, Nat.reduceLT, Nat.reduceBEq, reduceIte, reduceCtorEq, Int.reduceToNat, Nat.reduceShiftRight, Nat.reduceAnd, Nat.reduceBneDiff, Nat.reduceBNe, c39r1, semI.eq_10, semI.eq_11, semI.eq_3, semI.eq_5, semI.eq_7]
  refine Go1.of (sem_bsl (enc := (eI .u32)) (m := ([] : List Int)) (eI_len _) (by rfl) (by rfl) (by rfl) trivial) ?_
  simp only [wz, wd, ws, Nat.reduceAdd, Nat.reduceSub, Nat.reduceMul, Nat.reduceLeDiff, Nat.reduceEqDiff, Nat.reduceLT, Nat.reduceBEq, reduceIte, reduceCtorEq, Int.reduceToNat, Nat.reduceShiftRight, Nat.reduceAnd, Nat.reduceBneDiff, Nat.reduceBNe, c39r1, semI.eq_10, semI.eq_11, semI.eq_3, semI.eq_5, semI.eq_7]
  refine .seq ?_
  refine .seq ?_
  refine Rw.walk ?_
  simp only [wz, wd, ws, Nat.reduceAdd, Nat.reduceSub, Nat.reduceMul, Nat.reduceLeDiff, Nat.reduceEqDiff, Nat.reduceLT, Nat.reduceBEq, reduceIte, reduceCtorEq, Int.reduceToNat, Nat.reduceShiftRight, Nat.reduceAnd, Nat.reduceBneDiff, Nat.reduceBNe, c39r2, semI.eq_10, semI.eq_11, semI.eq_3, semI.eq_5, semI.eq_7]
  refine .blk ?_
  obtain ⟨s2, hf, h⟩ := Option.bind_eq_some_iff.1 h
  refine .loop (.weak (Imp.co [] _ _ ?c1 ?c2 ?c3 ?c4 ?c5) (f_ref02_Block_l12_ok hv keys s _ _ hR _ _ _ _ hf _ ?_))
  case c1 | c2 | c3 | c4 | c5 => simp only [wz, wd, ws, Nat.reduceAdd, Nat.reduceSub, Nat.reduceMul, Nat.reduceLeDiff, Nat.reduceEqDiff, Nat.reduceLT, Nat.reduceBEq, reduceIte, reduceCtorEq, Int.reduceToNat, Nat.reduceShiftRight, Nat.reduceAnd, Nat.reduceBneDiff, Nat.reduceBNe, wi, er_nil]
  · intro s2_ hs; subst hs
    refine .seq ?_
    refine .seq ?_
    refine Rw.walk ?_
    simp only [wz, wd, ws, Nat.reduceAdd, Nat.reduceSub, Nat.reduceMul, Nat.reduceLeDiff, Nat.reduceEqDiff, Nat.reduceLT, Nat.reduceBEq, reduceIte, reduceCtorEq, Int.reduceToNat, Nat.reduceShiftRight, Nat.reduceAnd, Nat.reduceBneDiff, Nat.reduceBNe, c39r11, semI.eq_10, semI.eq_11, semI.eq_3, semI.eq_5, semI.eq_7]
    refine .blk ?_
    obtain ⟨s3, hf, h⟩ := Option.bind_eq_some_iff.1 h
    refine .loop (.weak (Imp.co [] _ _ ?c1 ?c2 ?c3 ?c4 ?c5) (f_ref02_Block_l21_ok hv keys s _ _ hR _ _ _ _ hf _ ?_))
    case c1 | c2 | c3 | c4 | c5 => simp only [wz, wd, ws, Nat.reduceAdd, Nat.reduceSub, Nat.reduceMul, Nat.reduceLeDiff, Nat.reduceEqDiff, Nat.reduceLT, Nat.reduceBEq, reduceIte, reduceCtorEq, Int.reduceToNat, Nat.reduceShiftRight, Nat.reduceAnd, Nat.reduceBneDiff, Nat.reduceBNe, wi, er_nil]
    · intro s3_ hs; subst hs
      refine .seq ?_
      refine Rw.walk ?_
      simp only [wz, wd, ws, Nat.reduceAdd, Nat.reduceSub, Nat.reduceMul, Nat.reduceLeDiff, Nat.reduceEqDiff, Nat.reduceLT, Nat.reduceBEq, reduceIte, reduceCtorEq, Int.reduceToNat, Nat.reduceShiftRight, Nat.reduceAnd, Nat.reduceBneDiff, Nat.reduceBNe, c39r19, semI.eq_10, semI.eq_11, semI.eq_3, semI.eq_5, semI.eq_7]
      refine .seq ?_
      refine .seq ?_
      refine Rw.walk ?_
      simp only [wz, wd, ws, Nat.reduceAdd, Nat.reduceSub, Nat.reduceMul, Nat.reduceLeDiff, Nat.reduceEqDiff, Nat.reduceLT, Nat.reduceBEq, reduceIte, reduceCtorEq, Int.reduceToNat, Nat.reduceShiftRight, Nat.reduceAnd, Nat.reduceBneDiff, Nat.reduceBNe, c39r20, semI.eq_10, semI.eq_11, semI.eq_3, semI.eq_5, semI.eq_7]
      refine .blk ?_
      obtain ⟨s4, hf, h⟩ := Option.bind_eq_some_iff.1 h
      refine .loop (.weak (Imp.co [] _ _ ?c1 ?c2 ?c3 ?c4 ?c5) (f_ref02_Block_l27_ok hv keys s s3 _ _ hR _ _ _ _ hf _ ?_))
      case c1 | c2 | c3 | c4 | c5 => simp only [wz, wd, ws, Nat.reduceAdd, Nat.reduceSub, Nat.reduceMul, Nat.reduceLeDiff, Nat.reduceEqDiff, Nat.reduceLT, Nat.reduceBEq, reduceIte, reduceCtorEq, Int.reduceToNat, Nat.reduceShiftRight, Nat.reduceAnd, Nat.reduceBneDiff, Nat.reduceBNe, wi, er_nil]
      · intro s4_ hs; subst hs
        refine .seq ?_
        refine Rw.walk ?_
        simp only [wz, wd, ws, Nat.reduceAdd, Nat.reduceSub, Nat.reduceMul, Nat.reduceLeDiff, Nat.reduceEqDiff, Nat.reduceLT, Nat.reduceBEq, reduceIte, reduceCtorEq, Int.reduceToNat, Nat.reduceShiftRight, Nat.reduceAnd, Nat.reduceBneDiff, Nat.reduceBNe, c39r24, semI.eq_10, semI.eq_11, semI.eq_3, semI.eq_5, semI.eq_7]
        refine Go1.of (sem_bsl (enc := (eI .u32)) (m := ([] : List Int)) (eI_len _) (by rfl) (by rfl) (by rfl) trivial) ?_
        simp only [wz, wd, ws, Nat.reduceAdd, Nat.reduceSub, Nat.reduceMul, Nat.reduceLeDiff, Nat.reduceEqDiff, Nat.reduceLT, Nat.reduceBEq, reduceIte, reduceCtorEq, Int.reduceToNat, Nat.reduceShiftRight, Nat.reduceAnd, Nat.reduceBneDiff, Nat.reduceBNe, c39r24, semI.eq_10, semI.eq_11, semI.eq_3, semI.eq_5, semI.eq_7]
        refine .seq ?_
        refine .seq ?_
        refine Rw.walk ?_
        simp only [wz, wd, ws, Nat.reduceAdd, Nat.reduceSub, Nat.reduceMul, Nat.reduceLeDiff, Nat.reduceEqDiff, Nat.reduceLT, Nat.reduceBEq, reduceIte, reduceCtorEq, Int.reduceToNat, Nat.reduceShiftRight, Nat.reduceAnd, Nat.reduceBneDiff, Nat.reduceBNe, c39r25, semI.eq_10, semI.eq_11, semI.eq_3, semI.eq_5, semI.eq_7]
        refine .blk ?_
        obtain ⟨s5, hf, h⟩ := Option.bind_eq_some_iff.1 h
        refine .loop (.weak (Imp.co [] _ _ ?c1 ?c2 ?c3 ?c4 ?c5) (f_ref02_Block_l33_ok hv s s4 _ _ hR _ _ _ _ hf _ ?_))
        case c1 | c2 | c3 | c4 | c5 => simp only [wz, wd, ws, Nat.reduceAdd, Nat.reduceSub, Nat.reduceMul, Nat.reduceLeDiff, Nat.reduceEqDiff, Nat.reduceLT, Nat.reduceBEq, reduceIte, reduceCtorEq, Int.reduceToNat, Nat.reduceShiftRight, Nat.reduceAnd, Nat.reduceBneDiff, Nat.reduceBNe, wi, er_nil]
        · intro s5_ hs; subst hs
          refine .seq ?_
          refine Rw.walk ?_
          simp only [wz, wd, ws, Nat.reduceAdd, Nat.reduceSub, Nat.reduceMul, Nat.reduceLeDiff, Nat.reduceEqDiff, Nat.reduceLT, Nat.reduceBEq, reduceIte, reduceCtorEq, Int.reduceToNat, Nat.reduceShiftRight, Nat.reduceAnd, Nat.reduceBneDiff, Nat.reduceBNe, c39r29, semI.eq_10, semI.eq_11, semI.eq_3, semI.eq_5, semI.eq_7]
          obtain rfl := Option.some.inj h
          refine .ret ?_
          rw [← hR]
          refine ⟨106, ?_, ?_⟩ <;> simp only [wz, wd, ws, Nat.reduceAdd, Nat.reduceSub, Nat.reduceMul, Nat.reduceLeDiff, Nat.reduceEqDiff, Nat.reduceLT, Nat.reduceBEq, reduceIte, reduceCtorEq, Int.reduceToNat, Nat.reduceShiftRight, Nat.reduceAnd, Nat.reduceBneDiff, Nat.reduceBNe, er, List.length_map]
-- 13 consignor/consignorref02.Sum
def c13r0 : List Opn := [
  ⟨(some 2), none, .mv (.c (.s (.d (.str []))))⟩]
def c13r1 : List Opn := [
  ⟨(some 13), none, .mv (.t 0)⟩, 
  ⟨(some 14), none, .cv .s2b (.t 13)⟩, 
  ⟨(some 3), none, .mv (.t 14)⟩]
def c13r2 : List Opn := [
  ⟨(some 15), none, .mv (.t 0)⟩, 
  ⟨(some 16), none, .len .str (.t 15)⟩, 
  ⟨(some 17), none, .cv (.toInt .u64) (.t 16)⟩, 
  ⟨(some 18), none, .bin .mul (.t 17) (.c (.s (.d (.int .u64 8))))⟩, 
  ⟨(some 4), none, .mv (.t 18)⟩]
def c13r3 : List Opn := [
  ⟨(some 19), none, .mv (.t 3)⟩, 
  ⟨(some 20), none, .bsl 1 [(.c (.s (.d (.int .u8 128))))]⟩, 
  ⟨(some 21), none, .app 1 1 false (.t 19) (.t 20)⟩, 
  ⟨(some 3), none, .mv (.t 21)⟩]
def c13r4 : List Opn := [
  ⟨(some 22), none, .mv (.t 3)⟩, 
  ⟨(some 23), none, .len (.sl 0) (.t 22)⟩, 
  ⟨(some 24), none, .bin .rem (.t 23) (.c (.s (.d (.int .i64 64))))⟩, 
  ⟨(some 25), none, .bin .neq (.t 24) (.c (.s (.d (.int .i64 56))))⟩]
def c13r5 : List Opn := [
  ⟨(some 26), none, .mv (.t 3)⟩, 
  ⟨(some 27), none, .bsl 1 [(.c (.s (.d (.int .u8 0))))]⟩, 
  ⟨(some 28), none, .app 1 1 false (.t 26) (.t 27)⟩, 
  ⟨(some 3), none, .mv (.t 28)⟩]
def c13l6 : C := .seq (.seq (.reg c13r4 none [3, 4, 25]) (.cond (.t 25) (.skip) (.exit 0))) (.blk 1 (.reg c13r5 none [3, 4]))
def c13r6 : List Opn := [
  ⟨(some 5), none, .mv (.c (.s (.d (.int .u64 72057594037927936))))⟩]
def c13r7 : List Opn := [
  ⟨(some 6), none, .mv (.c (.s (.d (.int .i64 0))))⟩]
def c13r8 : List Opn := [
  ⟨(some 29), none, .mv (.t 6)⟩, 
  ⟨(some 30), none, .bin .lss (.t 29) (.c (.s (.d (.int .i64 8))))⟩]
def c13r10 : List Opn := [
  ⟨(some 33), none, .mv (.t 3)⟩, 
  ⟨(some 34), none, .mv (.t 4)⟩, 
  ⟨(some 35), none, .mv (.t 5)⟩, 
  ⟨(some 36), none, .bin .quo (.t 34) (.t 35)⟩, 
  ⟨(some 37), none, .bin .rem (.t 36) (.c (.s (.d (.int .u64 256))))⟩, 
  ⟨(some 38), none, .cv (.toInt .u8) (.t 37)⟩, 
  ⟨(some 39), none, .bsl 1 [(.t 38)]⟩, 
  ⟨(some 40), none, .app 1 1 false (.t 33) (.t 39)⟩, 
  ⟨(some 3), none, .mv (.t 40)⟩]
def c13r11 : List Opn := [
  ⟨(some 41), none, .mv (.t 5)⟩, 
  ⟨(some 42), none, .bin .quo (.t 41) (.c (.s (.d (.int .u64 256))))⟩, 
  ⟨(some 5), none, .mv (.t 42)⟩]
def c13r9 : List Opn := [
  ⟨(some 31), none, .mv (.t 6)⟩, 
  ⟨(some 32), none, .bin .add (.t 31) (.c (.s (.d (.int .i64 1))))⟩, 
  ⟨(some 6), none, .mv (.t 32)⟩]
def c13l13 : C := .seq (.seq (.reg c13r8 none [3, 4, 5, 6, 30]) (.cond (.t 30) (.skip) (.exit 2))) (.seq (.blk 3 (.seq (.reg c13r10 none [3, 4, 5, 6]) (.reg c13r11 none [3, 4, 5, 6]))) (.reg c13r9 none [3, 4, 5, 6]))
def c13r12 : List Opn := [
  ⟨(some 43), none, .call (.fn 19) []⟩, 
  ⟨(some 7), none, .mv (.t 43)⟩]
def c13r13 : List Opn := [
  ⟨(some 44), none, .call (.fn 17) []⟩, 
  ⟨(some 8), none, .mv (.t 44)⟩]
def c13r14 : List Opn := [
  ⟨(some 9), none, .mv (.c (.s (.d (.int .i64 0))))⟩]
def c13r15 : List Opn := [
  ⟨(some 45), none, .mv (.t 9)⟩, 
  ⟨(some 46), none, .mv (.t 3)⟩, 
  ⟨(some 47), none, .len (.sl 0) (.t 46)⟩, 
  ⟨(some 48), none, .bin .lss (.t 45) (.t 47)⟩]
def c13r17 : List Opn := [
  ⟨(some 51), none, .mv (.t 7)⟩, 
  ⟨(some 52), none, .mv (.t 8)⟩, 
  ⟨(some 53), none, .mv (.t 3)⟩, 
  ⟨(some 54), none, .mv (.t 9)⟩, 
  ⟨(some 55), none, .mv (.t 9)⟩, 
  ⟨(some 56), none, .bin .add (.t 55) (.c (.s (.d (.int .i64 64))))⟩, 
  ⟨(some 57), none, .slc (.sl 1) (.t 53) (some (.t 54)) (some (.t 56)) none⟩, 
  ⟨(some 58), none, .cv .b2s (.t 57)⟩, 
  ⟨(some 59), none, .call (.fn 39) [(.t 51), (.t 52), (.t 58)]⟩, 
  ⟨(some 7), none, .mv (.t 59)⟩]
def c13r16 : List Opn := [
  ⟨(some 49), none, .mv (.t 9)⟩, 
  ⟨(some 50), none, .bin .add (.t 49) (.c (.s (.d (.int .i64 64))))⟩, 
  ⟨(some 9), none, .mv (.t 50)⟩]
def c13l20 : C := .seq (.seq (.reg c13r15 none [3, 7, 8, 9, 48]) (.cond (.t 48) (.skip) (.exit 4))) (.seq (.blk 5 (.reg c13r17 none [3, 7, 8, 9])) (.reg c13r16 none [3, 7, 8, 9]))
def c13r18 : List Opn := [
  ⟨(some 60), none, .bsl 1 []⟩, 
  ⟨(some 10), none, .mv (.t 60)⟩]
def c13r19 : List Opn := [
  ⟨(some 61), none, .mv (.t 7)⟩, 
  ⟨(some 62), none, .len (.sl 0) (.t 61)⟩, 
  ⟨(some 63), none, .mv (.c (.s (.d (.int .i64 0))))⟩]
def c13r20 : List Opn := [
  ⟨(some 64), none, .bin .lss (.t 63) (.t 62)⟩]
def c13r21 : List Opn := [
  ⟨(some 65), none, .iadr (.sl 1) (.t 61) (.t 63)⟩, 
  ⟨(some 66), none, .load false 1 (.t 65)⟩, 
  ⟨(some 12), none, .mv (.t 66)⟩]
def c13r22 : List Opn := [
  ⟨(some 67), none, .mv (.t 10)⟩, 
  ⟨(some 68), none, .mv (.t 12)⟩, 
  ⟨(some 69), none, .bin .quo (.t 68) (.c (.s (.d (.int .u32 16777216))))⟩, 
  ⟨(some 70), none, .cv (.toInt .u8) (.t 69)⟩, 
  ⟨(some 71), none, .mv (.t 12)⟩, 
  ⟨(some 72), none, .bin .quo (.t 71) (.c (.s (.d (.int .u32 65536))))⟩, 
  ⟨(some 73), none, .bin .rem (.t 72) (.c (.s (.d (.int .u32 256))))⟩, 
  ⟨(some 74), none, .cv (.toInt .u8) (.t 73)⟩, 
  ⟨(some 75), none, .mv (.t 12)⟩, 
  ⟨(some 76), none, .bin .quo (.t 75) (.c (.s (.d (.int .u32 256))))⟩, 
  ⟨(some 77), none, .bin .rem (.t 76) (.c (.s (.d (.int .u32 256))))⟩, 
  ⟨(some 78), none, .cv (.toInt .u8) (.t 77)⟩, 
  ⟨(some 79), none, .mv (.t 12)⟩, 
  ⟨(some 80), none, .bin .rem (.t 79) (.c (.s (.d (.int .u32 256))))⟩, 
  ⟨(some 81), none, .cv (.toInt .u8) (.t 80)⟩, 
  ⟨(some 82), none, .bsl 1 [(.t 70), (.t 74), (.t 78), (.t 81)]⟩, 
  ⟨(some 83), none, .app 1 1 false (.t 67) (.t 82)⟩, 
  ⟨(some 10), none, .mv (.t 83)⟩]
def c13r23 : List Opn := [
  ⟨(some 84), none, .bin .add (.t 63) (.c (.s (.d (.int .i64 1))))⟩, 
  ⟨(some 63), none, .mv (.t 84)⟩]
def c13l27 : C := .seq (.reg c13r20 none [10, 61, 62, 63, 64]) (.seq (.cond (.t 64) (.skip) (.exit 6)) (.seq (.blk 7 (.seq (.reg c13r21 none [10, 12, 61, 62, 63]) (.reg c13r22 none [10, 61, 62, 63]))) (.reg c13r23 none [10, 61, 62, 63])))
def c13r24 : List Opn := [
  ⟨(some 85), none, .mv (.t 10)⟩, 
  ⟨(some 86), none, .cv .b2s (.t 85)⟩, 
  ⟨(some 2), none, .mv (.t 86)⟩]
def c13 : C := .seq (.reg c13r0 none [0]) (.seq (.reg c13r1 none [0, 3]) (.seq (.reg c13r2 none [3, 4]) (.seq (.reg c13r3 none [3, 4]) (.seq (.blk 0 (.loop c13l6)) (.seq (.reg c13r6 none [3, 4, 5]) (.seq (.seq (.reg c13r7 none [3, 4, 5, 6]) (.blk 2 (.loop c13l13))) (.seq (.reg c13r12 none [3, 7]) (.seq (.reg c13r13 none [3, 7, 8]) (.seq (.seq (.reg c13r14 none [3, 7, 8, 9]) (.blk 4 (.loop c13l20))) (.seq (.reg c13r18 none [7, 10]) (.seq (.seq (.reg c13r19 none [10, 61, 62, 63]) (.blk 6 (.loop c13l27))) (.seq (.reg c13r24 none [2]) (.ret)))))))))))))
def k13 : List (Nat × List Nat) := [(24, [2]), (23, [10, 61, 62, 63]), (22, [10, 61, 62, 63]), (21, [10, 12, 61, 62, 63]), (20, [10, 61, 62, 63, 64]), (19, [10, 61, 62, 63]), (18, [7, 10]), (16, [3, 7, 8, 9]), (17, [3, 7, 8, 9]), (15, [3, 7, 8, 9, 48]), (14, [3, 7, 8, 9]), (13, [3, 7, 8]), (12, [3, 7]), (9, [3, 4, 5, 6]), (11, [3, 4, 5, 6]), (10, [3, 4, 5, 6]), (8, [3, 4, 5, 6, 30]), (7, [3, 4, 5, 6]), (6, [3, 4, 5]), (5, [3, 4]), (4, [3, 4, 25]), (3, [3, 4]), (2, [3, 4]), (1, [0, 3]), (0, [0])]
theorem cc13 : (Tryd.f13.body).bind (cC Tryd.prog 87 k13) = some c13 := by kernel_rfl
def rv13 : List RV := [.t 2]
theorem cr13 : cRVs Tryd.prog Tryd.f13.results.toList = some rv13 := by kernel_rfl
theorem f_ref02_Sum_l6_ok (s : Str) (y_ : Str) (R_ : St → Prop) (hR : (Ret Tryd.prog glP [] rv13 (.b (.s (.d (.str y_))))) = R_) : ∀ (m_ : Nat) (b : (List Int)) (res_ : (List Int)) (h : f_ref02_Sum_l6 s m_ b = some res_) (k_ : List It) (hx : ∀ s_ : (List Int), res_ = s_ → W Tryd.prog glP 87 k_ ⟨lkT [(3, .b (.s (.own 14 s_.length))), (4, .b (.s (.d (.int .u64 (IntKind.u64.wrap ((IntKind.u64.wrap (s.length : Int)) * 8))))))], lkG [(14, ⟨1, er (eI .u8) s_, false⟩)]⟩ R_), W Tryd.prog glP 87 (.c c13l6 :: .lp c13l6 :: .blk 0 :: k_) ⟨lkT [(3, .b (.s (.own 14 b.length))), (4, .b (.s (.d (.int .u64 (IntKind.u64.wrap ((IntKind.u64.wrap (s.length : Int)) * 8))))))], lkG [(14, ⟨1, er (eI .u8) b, false⟩)]⟩ R_ := by
  intro m_; induction m_ with
  | zero => intro b res_ h; rw [f_ref02_Sum_l6.eq_1] at h; cases h
  | succ m_ ih =>
    intro b res_ h k_ hx; rw [f_ref02_Sum_l6.eq_2] at h; refine W.cdef c13l6.eq_1 ?_
    refine .seq ?_
    refine .seq ?_
    refine Rw.walk ?_
    simp only [wz, wd, ws, Nat.reduceAdd, Nat.reduceSub, Nat.reduceMul, Nat.reduceLeDiff, Nat.reduceEqDiff, Nat.reduceLT, Nat.reduceBEq, reduceIte, reduceCtorEq, Int.reduceToNat, Nat.reduceShiftRight, Nat.reduceAnd, Nat.reduceBneDiff, Nat.reduceBNe, c13r4, semI.eq_10, semI.eq_11, semI.eq_3, semI.eq_5, semI.eq_7]
    repeat (refine And.intro ?_ ?_; · first | omega | (intro q; simp only [wz, wd, ws, Nat.reduceAdd, Nat.reduceSub, Nat.reduceMul, Nat.reduceLeDiff, Nat.reduceEqDiff, Nat.reduceLT, Nat.reduceBEq, reduceIte, reduceCtorEq, Int.reduceToNat, Nat.reduceShiftRight, Nat.reduceAnd, Nat.reduceBneDiff, Nat.reduceBNe, q]; done))
    refine .cond (p := (((b.length : Int).tmod 64) != 56)) (by first | rfl | simp only [wz, wd, ws, Nat.reduceAdd, Nat.reduceSub, Nat.reduceMul, Nat.reduceLeDiff, Nat.reduceEqDiff, Nat.reduceLT, Nat.reduceBEq, reduceIte, reduceCtorEq, Int.reduceToNat, Nat.reduceShiftRight, Nat.reduceAnd, Nat.reduceBneDiff, Nat.reduceBNe]) (fun h1 => ?_) (fun h1 => ?_)
    · rw [ite_t h1] at h
      refine .skip ?_
      refine .blk ?_
      refine Rw.walk ?_
      simp only [wz, wd, ws, Nat.reduceAdd, Nat.reduceSub, Nat.reduceMul, Nat.reduceLeDiff, Nat.reduceEqDiff, Nat.reduceLT, Nat.reduceBEq, reduceIte, reduceCtorEq, Int.reduceToNat, Nat.reduceShiftRight, Nat.reduceAnd, Nat.reduceBneDiff, Nat.reduceBNe, c13r5, semI.eq_10, semI.eq_11, semI.eq_3, semI.eq_5, semI.eq_7]
      refine Go1.of (sem_bsl (enc := (eI .u8)) (m := ([0] : List Int)) (eI_len _) (by rfl) (by rfl) (by rfl) ⟨trivial, trivial⟩) ?_
      simp only [wz, wd, ws, Nat.reduceAdd, Nat.reduceSub, Nat.reduceMul, Nat.reduceLeDiff, Nat.reduceEqDiff, Nat.reduceLT, Nat.reduceBEq, reduceIte, reduceCtorEq, Int.reduceToNat, Nat.reduceShiftRight, Nat.reduceAnd, Nat.reduceBneDiff, Nat.reduceBNe, c13r5, semI.eq_10, semI.eq_11, semI.eq_3, semI.eq_5, semI.eq_7]
      obtain ⟨g2, h⟩ := gd_iff.1 h
      refine Go1.of (sem_app (enc := (eI .u8)) (l := b) (m := ([0] : List Int)) (eI_len _) (by rfl) (by rfl) (newV_own (m := ([0] : List Int)) (by rfl) (by rfl))) ?_
      simp only [wz, wd, ws, Nat.reduceAdd, Nat.reduceSub, Nat.reduceMul, Nat.reduceLeDiff, Nat.reduceEqDiff, Nat.reduceLT, Nat.reduceBEq, reduceIte, reduceCtorEq, Int.reduceToNat, Nat.reduceShiftRight, Nat.reduceAnd, Nat.reduceBneDiff, Nat.reduceBNe, c13r5, semI.eq_10, semI.eq_11, semI.eq_3, semI.eq_5, semI.eq_7]
      repeat (refine And.intro ?_ ?_; · first | omega | (intro q; simp only [wz, wd, ws, Nat.reduceAdd, Nat.reduceSub, Nat.reduceMul, Nat.reduceLeDiff, Nat.reduceEqDiff, Nat.reduceLT, Nat.reduceBEq, reduceIte, reduceCtorEq, Int.reduceToNat, Nat.reduceShiftRight, Nat.reduceAnd, Nat.reduceBneDiff, Nat.reduceBNe, q]; done))
      refine .eblk ?_
      refine .lp ?_
      refine .weak (Imp.co [] _ _ ?_ ?_ ?_ ?_ ?_) (ih (b ++ ([0] : List Int)) _ h k_ hx) <;> simp only [wz, wd, ws, Nat.reduceAdd, Nat.reduceSub, Nat.reduceMul, Nat.reduceLeDiff, Nat.reduceEqDiff, Nat.reduceLT, Nat.reduceBEq, reduceIte, reduceCtorEq, Int.reduceToNat, Nat.reduceShiftRight, Nat.reduceAnd, Nat.reduceBneDiff, Nat.reduceBNe, wi, er_nil]
    · rw [ite_f h1] at h
      refine .exit rfl ?_
      obtain rfl := Option.some.inj h
      refine .weak (Imp.co [] _ _ ?_ ?_ ?_ ?_ ?_) (hx _ rfl) <;> simp only [wz, wd, ws, Nat.reduceAdd, Nat.reduceSub, Nat.reduceMul, Nat.reduceLeDiff, Nat.reduceEqDiff, Nat.reduceLT, Nat.reduceBEq, reduceIte, reduceCtorEq, Int.reduceToNat, Nat.reduceShiftRight, Nat.reduceAnd, Nat.reduceBneDiff, Nat.reduceBNe, wi, er_nil]
theorem f_ref02_Sum_l13_ok (s : Str) (y_ : Str) (R_ : St → Prop) (hR : (Ret Tryd.prog glP [] rv13 (.b (.s (.d (.str y_))))) = R_) : ∀ (m_ : Nat) (p : Int) (i : Int) (b : (List Int)) (res_ : Int × Int × (List Int)) (h : f_ref02_Sum_l13 s m_ p i b = some res_) (k_ : List It) (hx : ∀ s_ : Int × Int × (List Int), res_ = s_ → W Tryd.prog glP 87 k_ ⟨lkT [(3, .b (.s (.own 14 s_.2.2.length))), (4, .b (.s (.d (.int .u64 (IntKind.u64.wrap ((IntKind.u64.wrap (s.length : Int)) * 8)))))), (5, .b (.s (.d (.int .u64 s_.1)))), (6, .b (.s (.d (.int .i64 s_.2.1))))], lkG [(14, ⟨1, er (eI .u8) s_.2.2, false⟩)]⟩ R_), W Tryd.prog glP 87 (.c c13l13 :: .lp c13l13 :: .blk 2 :: k_) ⟨lkT [(3, .b (.s (.own 14 b.length))), (4, .b (.s (.d (.int .u64 (IntKind.u64.wrap ((IntKind.u64.wrap (s.length : Int)) * 8)))))), (5, .b (.s (.d (.int .u64 p)))), (6, .b (.s (.d (.int .i64 i))))], lkG [(14, ⟨1, er (eI .u8) b, false⟩)]⟩ R_ := by
  intro m_; induction m_ with
  | zero => intro p i b res_ h; rw [f_ref02_Sum_l13.eq_1] at h; cases h
  | succ m_ ih =>
    intro p i b res_ h k_ hx; rw [f_ref02_Sum_l13.eq_2] at h; refine W.cdef c13l13.eq_1 ?_
    refine .seq ?_
    refine .seq ?_
    refine Rw.walk ?_
    simp only [wz, wd, ws, Nat.reduceAdd, Nat.reduceSub, Nat.reduceMul, Nat.reduceLeDiff, Nat.reduceEqDiff, Nat.reduceLT, Nat.reduceBEq, reduceIte, reduceCtorEq, Int.reduceToNat, Nat.reduceShiftRight, Nat.reduceAnd, Nat.reduceBneDiff, Nat.reduceBNe, c13r8, semI.eq_10, semI.eq_11, semI.eq_3, semI.eq_5, semI.eq_7]
    refine .cond (p := (decide (i < 8))) (by first | rfl | simp only [wz, wd, ws, Nat.reduceAdd, Nat.reduceSub, Nat.reduceMul, Nat.reduceLeDiff, Nat.reduceEqDiff, Nat.reduceLT, Nat.reduceBEq, reduceIte, reduceCtorEq, Int.reduceToNat, Nat.reduceShiftRight, Nat.reduceAnd, Nat.reduceBneDiff, Nat.reduceBNe]) (fun h1 => ?_) (fun h1 => ?_)
    · rw [ite_t h1] at h
      refine .skip ?_
      refine .seq ?_
      refine .blk ?_
      refine .seq ?_
      refine Rw.walk ?_
      obtain ⟨g3, h⟩ := gd_iff.1 h
      simp only [wz, wd, ws, Nat.reduceAdd, Nat.reduceSub, Nat.reduceMul, Nat.reduceLeDiff, Nat.reduceEqDiff, Nat.reduceLT, Nat.reduceBEq, reduceIte, reduceCtorEq, Int.reduceToNat, Nat.reduceShiftRight, Nat.reduceAnd, Nat.reduceBneDiff, Nat.reduceBNe, c13r10, semI.eq_10, semI.eq_11, semI.eq_3, semI.eq_5, semI.eq_7]
      repeat (refine And.intro ?_ ?_; · first | omega | (intro q; simp only [wz, wd, ws, Nat.reduceAdd, Nat.reduceSub, Nat.reduceMul, Nat.reduceLeDiff, Nat.reduceEqDiff, Nat.reduceLT, Nat.reduceBEq, reduceIte, reduceCtorEq, Int.reduceToNat, Nat.reduceShiftRight, Nat.reduceAnd, Nat.reduceBneDiff, Nat.reduceBNe, q]; done))
      refine Go1.of (sem_bsl (enc := (eI .u8)) (m := ([(IntKind.u8.wrap ((IntKind.u64.wrap ((IntKind.u64.wrap ((IntKind.u64.wrap (s.length : Int)) * 8)).tdiv p)).tmod 256))] : List Int)) (eI_len _) (by rfl) (by rfl) (by rfl) ⟨trivial, trivial⟩) ?_
      simp only [wz, wd, ws, Nat.reduceAdd, Nat.reduceSub, Nat.reduceMul, Nat.reduceLeDiff, Nat.reduceEqDiff, Nat.reduceLT, Nat.reduceBEq, reduceIte, reduceCtorEq, Int.reduceToNat, Nat.reduceShiftRight, Nat.reduceAnd, Nat.reduceBneDiff, Nat.reduceBNe, c13r10, semI.eq_10, semI.eq_11, semI.eq_3, semI.eq_5, semI.eq_7]
      obtain ⟨g4, h⟩ := gd_iff.1 h
      refine Go1.of (sem_app (enc := (eI .u8)) (l := b) (m := ([(IntKind.u8.wrap ((IntKind.u64.wrap ((IntKind.u64.wrap ((IntKind.u64.wrap (s.length : Int)) * 8)).tdiv p)).tmod 256))] : List Int)) (eI_len _) (by rfl) (by rfl) (newV_own (m := ([(IntKind.u8.wrap ((IntKind.u64.wrap ((IntKind.u64.wrap ((IntKind.u64.wrap (s.length : Int)) * 8)).tdiv p)).tmod 256))] : List Int)) (by rfl) (by rfl))) ?_
      simp only [wz, wd, ws, Nat.reduceAdd, Nat.reduceSub, Nat.reduceMul, Nat.reduceLeDiff, Nat.reduceEqDiff, Nat.reduceLT, Nat.reduceBEq, reduceIte, reduceCtorEq, Int.reduceToNat, Nat.reduceShiftRight, Nat.reduceAnd, Nat.reduceBneDiff, Nat.reduceBNe, c13r10, semI.eq_10, semI.eq_11, semI.eq_3, semI.eq_5, semI.eq_7]
      repeat (refine And.intro ?_ ?_; · first | omega | (intro q; simp only [wz, wd, ws, Nat.reduceAdd, Nat.reduceSub, Nat.reduceMul, Nat.reduceLeDiff, Nat.reduceEqDiff, Nat.reduceLT, Nat.reduceBEq, reduceIte, reduceCtorEq, Int.reduceToNat, Nat.reduceShiftRight, Nat.reduceAnd, Nat.reduceBneDiff, Nat.reduceBNe, q]; done))
      refine Rw.walk ?_
      simp only [wz, wd, ws, Nat.reduceAdd, Nat.reduceSub, Nat.reduceMul, Nat.reduceLeDiff, Nat.reduceEqDiff, Nat.reduceLT, Nat.reduceBEq, reduceIte, reduceCtorEq, Int.reduceToNat, Nat.reduceShiftRight, Nat.reduceAnd, Nat.reduceBneDiff, Nat.reduceBNe, c13r11, semI.eq_10, semI.eq_11, semI.eq_3, semI.eq_5, semI.eq_7]
      repeat (refine And.intro ?_ ?_; · first | omega | (intro q; simp only [wz, wd, ws, Nat.reduceAdd, Nat.reduceSub, Nat.reduceMul, Nat.reduceLeDiff, Nat.reduceEqDiff, Nat.reduceLT, Nat.reduceBEq, reduceIte, reduceCtorEq, Int.reduceToNat, Nat.reduceShiftRight, Nat.reduceAnd, Nat.reduceBneDiff, Nat.reduceBNe, q]; done))
      refine .eblk ?_
      refine Rw.walk ?_
      simp only [wz, wd, ws, Nat.reduceAdd, Nat.reduceSub, Nat.reduceMul, Nat.reduceLeDiff, Nat.reduceEqDiff, Nat.reduceLT, Nat.reduceBEq, reduceIte, reduceCtorEq, Int.reduceToNat, Nat.reduceShiftRight, Nat.reduceAnd, Nat.reduceBneDiff, Nat.reduceBNe, c13r9, semI.eq_10, semI.eq_11, semI.eq_3, semI.eq_5, semI.eq_7]
      refine .lp ?_
      refine .weak (Imp.co [] _ _ ?_ ?_ ?_ ?_ ?_) (ih (IntKind.u64.wrap (p.tdiv 256)) (IntKind.i64.wrap (i + 1)) (b ++ ([(IntKind.u8.wrap ((IntKind.u64.wrap ((IntKind.u64.wrap ((IntKind.u64.wrap (s.length : Int)) * 8)).tdiv p)).tmod 256))] : List Int)) _ h k_ hx) <;> simp only [wz, wd, ws, Nat.reduceAdd, Nat.reduceSub, Nat.reduceMul, Nat.reduceLeDiff, Nat.reduceEqDiff, Nat.reduceLT, Nat.reduceBEq, reduceIte, reduceCtorEq, Int.reduceToNat, Nat.reduceShiftRight, Nat.reduceAnd, Nat.reduceBneDiff, Nat.reduceBNe, wi, er_nil]
    · rw [ite_f h1] at h
      refine .exit rfl ?_
      obtain rfl := Option.some.inj h
      refine .weak (Imp.co [] _ _ ?_ ?_ ?_ ?_ ?_) (hx _ rfl) <;> simp only [wz, wd, ws, Nat.reduceAdd, Nat.reduceSub, Nat.reduceMul, Nat.reduceLeDiff, Nat.reduceEqDiff, Nat.reduceLT, Nat.reduceBEq, reduceIte, reduceCtorEq, Int.reduceToNat, Nat.reduceShiftRight, Nat.reduceAnd, Nat.reduceBneDiff, Nat.reduceBNe, wi, er_nil]
theorem f_ref02_Sum_l20_ok (s : Str) (t2 : (List Int)) (y_ : Str) (R_ : St → Prop) (hR : (Ret Tryd.prog glP [] rv13 (.b (.s (.d (.str y_))))) = R_) : ∀ (m_ : Nat) (b : (List Int)) (atv : Int) (hv : (List Int)) (res_ : (List Int) × Int × (List Int)) (h : f_ref02_Sum_l20 s t2 m_ b atv hv = some res_) (k_ : List It) (hx : ∀ s_ : (List Int) × Int × (List Int), res_ = s_ → W Tryd.prog glP 87 k_ ⟨lkT [(3, .b (.s (.d (.sl (s_.1.map (eI .u8)))))), (7, .b (.s (.own 43 s_.2.2.length))), (8, .b (.s (.own 44 t2.length))), (9, .b (.s (.d (.int .i64 s_.2.1))))], lkG [(43, ⟨1, er (eI .u32) s_.2.2, false⟩), (44, ⟨1, er (eI .u32) t2, false⟩)]⟩ R_), W Tryd.prog glP 87 (.c c13l20 :: .lp c13l20 :: .blk 4 :: k_) ⟨lkT [(3, .b (.s (.d (.sl (b.map (eI .u8)))))), (7, .b (.s (.own 43 hv.length))), (8, .b (.s (.own 44 t2.length))), (9, .b (.s (.d (.int .i64 atv))))], lkG [(43, ⟨1, er (eI .u32) hv, false⟩), (44, ⟨1, er (eI .u32) t2, false⟩)]⟩ R_ := by
  intro m_; induction m_ with
  | zero => intro b atv hv res_ h; rw [f_ref02_Sum_l20.eq_1] at h; cases h
  | succ m_ ih =>
    intro b atv hv res_ h k_ hx; rw [f_ref02_Sum_l20.eq_2] at h; refine W.cdef c13l20.eq_1 ?_
    refine .seq ?_
    refine .seq ?_
    refine Rw.walk ?_
    simp only [wz, wd, ws, Nat.reduceAdd, Nat.reduceSub, Nat.reduceMul, Nat.reduceLeDiff, Nat.reduceEqDiff, Nat.reduceLT, Nat.reduceBEq, reduceIte, reduceCtorEq, Int.reduceToNat, Nat.reduceShiftRight, Nat.reduceAnd, Nat.reduceBneDiff, Nat.reduceBNe, c13r15, semI.eq_10, semI.eq_11, semI.eq_3, semI.eq_5, semI.eq_7]
    refine .cond (p := (decide (atv < (b.length : Int)))) (by first | rfl | simp only [wz, wd, ws, Nat.reduceAdd, Nat.reduceSub, Nat.reduceMul, Nat.reduceLeDiff, Nat.reduceEqDiff, Nat.reduceLT, Nat.reduceBEq, reduceIte, reduceCtorEq, Int.reduceToNat, Nat.reduceShiftRight, Nat.reduceAnd, Nat.reduceBneDiff, Nat.reduceBNe]) (fun h1 => ?_) (fun h1 => ?_)
    · rw [ite_t h1] at h
      refine .skip ?_
      refine .seq ?_
      refine .blk ?_
      refine Rw.walk ?_
      simp only [wz, wd, ws, Nat.reduceAdd, Nat.reduceSub, Nat.reduceMul, Nat.reduceLeDiff, Nat.reduceEqDiff, Nat.reduceLT, Nat.reduceBEq, reduceIte, reduceCtorEq, Int.reduceToNat, Nat.reduceShiftRight, Nat.reduceAnd, Nat.reduceBneDiff, Nat.reduceBNe, c13r17, semI.eq_10, semI.eq_11, semI.eq_3, semI.eq_5, semI.eq_7]
      obtain ⟨g7, h⟩ := gd_iff.1 h
      repeat (refine And.intro ?_ ?_; · first | omega | (intro q; simp only [wz, wd, ws, Nat.reduceAdd, Nat.reduceSub, Nat.reduceMul, Nat.reduceLeDiff, Nat.reduceEqDiff, Nat.reduceLT, Nat.reduceBEq, reduceIte, reduceCtorEq, Int.reduceToNat, Nat.reduceShiftRight, Nat.reduceAnd, Nat.reduceBneDiff, Nat.reduceBNe, q]; done))
      refine Go1.of (sem_slc (p := atv) (q := (IntKind.i64.wrap (atv + 64))) (eI_len _) (by rfl) (by rfl) (by rfl)) ?_
      simp only [wz, wd, ws, Nat.reduceAdd, Nat.reduceSub, Nat.reduceMul, Nat.reduceLeDiff, Nat.reduceEqDiff, Nat.reduceLT, Nat.reduceBEq, reduceIte, reduceCtorEq, Int.reduceToNat, Nat.reduceShiftRight, Nat.reduceAnd, Nat.reduceBneDiff, Nat.reduceBNe, c13r17, semI.eq_10, semI.eq_11, semI.eq_3, semI.eq_5, semI.eq_7]
      repeat (refine And.intro ?_ ?_; · first | omega | (intro q; simp only [wz, wd, ws, Nat.reduceAdd, Nat.reduceSub, Nat.reduceMul, Nat.reduceLeDiff, Nat.reduceEqDiff, Nat.reduceLT, Nat.reduceBEq, reduceIte, reduceCtorEq, Int.reduceToNat, Nat.reduceShiftRight, Nat.reduceAnd, Nat.reduceBneDiff, Nat.reduceBNe, q]; done))
      refine Go1.of (sem_b2s (n := (cut b atv (IntKind.i64.wrap (atv + 64)))) (by rfl)) ?_
      simp only [wz, wd, ws, Nat.reduceAdd, Nat.reduceSub, Nat.reduceMul, Nat.reduceLeDiff, Nat.reduceEqDiff, Nat.reduceLT, Nat.reduceBEq, reduceIte, reduceCtorEq, Int.reduceToNat, Nat.reduceShiftRight, Nat.reduceAnd, Nat.reduceBneDiff, Nat.reduceBNe, c13r17, semI.eq_10, semI.eq_11, semI.eq_3, semI.eq_5, semI.eq_7]
      obtain ⟨t3, e8, h⟩ := Option.bind_eq_some_iff.1 h
      refine call_funO' [43, 44] ⟨trivial, trivial, trivial, trivial, trivial⟩ rfl ?_ (f_ref02_Block_ok _ _ _ _ e8) rfl (.inr (by first | exact er_flat | exact er_flatB | exact er_flatS | simp [flatS])) ?_
      · simp only [wz, wd, ws, Nat.reduceAdd, Nat.reduceSub, Nat.reduceMul, Nat.reduceLeDiff, Nat.reduceEqDiff, Nat.reduceLT, Nat.reduceBEq, reduceIte, reduceCtorEq, Int.reduceToNat, Nat.reduceShiftRight, Nat.reduceAnd, Nat.reduceBneDiff, Nat.reduceBNe]
      simp only [wz, wd, ws, Nat.reduceAdd, Nat.reduceSub, Nat.reduceMul, Nat.reduceLeDiff, Nat.reduceEqDiff, Nat.reduceLT, Nat.reduceBEq, reduceIte, reduceCtorEq, Int.reduceToNat, Nat.reduceShiftRight, Nat.reduceAnd, Nat.reduceBneDiff, Nat.reduceBNe, c13r17, semI.eq_10, semI.eq_11, semI.eq_3, semI.eq_5, semI.eq_7]
      refine .eblk ?_
      refine Rw.walk ?_
      simp only [wz, wd, ws, Nat.reduceAdd, Nat.reduceSub, Nat.reduceMul, Nat.reduceLeDiff, Nat.reduceEqDiff, Nat.reduceLT, Nat.reduceBEq, reduceIte, reduceCtorEq, Int.reduceToNat, Nat.reduceShiftRight, Nat.reduceAnd, Nat.reduceBneDiff, Nat.reduceBNe, c13r16, semI.eq_10, semI.eq_11, semI.eq_3, semI.eq_5, semI.eq_7]
      refine .lp ?_
      refine .weak (Imp.co [] [(7, .b (.s (.own 59 t3.length))), (3, .b (.s (.d (.sl (b.map (eI .u8)))))), (8, .b (.s (.own 44 t2.length))), (9, .b (.s (.d (.int .i64 (IntKind.i64.wrap (atv + 64))))))] [(59, ⟨1, er (eI .u32) t3, false⟩), (44, ⟨1, er (eI .u32) t2, false⟩)] ?c1 ?c2 ?c3 ?c4 ?c5) ?c6
      case c1 | c2 | c3 | c4 | c5 => simp only [wz, wd, ws, Nat.reduceAdd, Nat.reduceSub, Nat.reduceMul, Nat.reduceLeDiff, Nat.reduceEqDiff, Nat.reduceLT, Nat.reduceBEq, reduceIte, reduceCtorEq, Int.reduceToNat, Nat.reduceShiftRight, Nat.reduceAnd, Nat.reduceBneDiff, Nat.reduceBNe, wi, er_nil]
      case c6 =>
        refine .weak (Imp.ren 7 43 59 _ _ _ _ rfl rfl (by simp only [wz, wd, ws, Nat.reduceAdd, Nat.reduceSub, Nat.reduceMul, Nat.reduceLeDiff, Nat.reduceEqDiff, Nat.reduceLT, Nat.reduceBEq, reduceIte, reduceCtorEq, Int.reduceToNat, Nat.reduceShiftRight, Nat.reduceAnd, Nat.reduceBneDiff, Nat.reduceBNe, wi]) (by simp only [wz, wd, ws, Nat.reduceAdd, Nat.reduceSub, Nat.reduceMul, Nat.reduceLeDiff, Nat.reduceEqDiff, Nat.reduceLT, Nat.reduceBEq, reduceIte, reduceCtorEq, Int.reduceToNat, Nat.reduceShiftRight, Nat.reduceAnd, Nat.reduceBneDiff, Nat.reduceBNe, wi]) (by simp only [wz, wd, ws, Nat.reduceAdd, Nat.reduceSub, Nat.reduceMul, Nat.reduceLeDiff, Nat.reduceEqDiff, Nat.reduceLT, Nat.reduceBEq, reduceIte, reduceCtorEq, Int.reduceToNat, Nat.reduceShiftRight, Nat.reduceAnd, Nat.reduceBneDiff, Nat.reduceBNe, wi])) ?_
        refine .weak (Imp.co [] _ _ ?_ ?_ ?_ ?_ ?_) (ih b (IntKind.i64.wrap (atv + 64)) t3 _ h k_ hx) <;> simp only [wz, wd, ws, Nat.reduceAdd, Nat.reduceSub, Nat.reduceMul, Nat.reduceLeDiff, Nat.reduceEqDiff, Nat.reduceLT, Nat.reduceBEq, reduceIte, reduceCtorEq, Int.reduceToNat, Nat.reduceShiftRight, Nat.reduceAnd, Nat.reduceBneDiff, Nat.reduceBNe, wi, er_nil]
    · rw [ite_f h1] at h
      refine .exit rfl ?_
      obtain rfl := Option.some.inj h
      refine .weak (Imp.co [] _ _ ?_ ?_ ?_ ?_ ?_) (hx _ rfl) <;> simp only [wz, wd, ws, Nat.reduceAdd, Nat.reduceSub, Nat.reduceMul, Nat.reduceLeDiff, Nat.reduceEqDiff, Nat.reduceLT, Nat.reduceBEq, reduceIte, reduceCtorEq, Int.reduceToNat, Nat.reduceShiftRight, Nat.reduceAnd, Nat.reduceBneDiff, Nat.reduceBNe, wi, er_nil]
theorem f_ref02_Sum_l27_ok (s : Str) (s4 : (List Int) × Int × (List Int)) (y_ : Str) (R_ : St → Prop) (hR : (Ret Tryd.prog glP [] rv13 (.b (.s (.d (.str y_))))) = R_) : ∀ (m_ : Nat) (v63 : Int) (out : (List Int)) (res_ : Int × (List Int)) (h : f_ref02_Sum_l27 s s4 m_ v63 out = some res_) (k_ : List It) (hx : ∀ s_ : Int × (List Int), res_ = s_ → W Tryd.prog glP 87 k_ ⟨lkT [(10, .b (.s (.own 60 s_.2.length))), (61, .b (.s (.own 43 s4.2.2.length))), (62, .b (.s (.d (.int .i64 (s4.2.2.length : Int))))), (63, .b (.s (.d (.int .i64 s_.1))))], lkG [(60, ⟨1, er (eI .u8) s_.2, false⟩), (43, ⟨1, er (eI .u32) s4.2.2, false⟩)]⟩ R_), W Tryd.prog glP 87 (.c c13l27 :: .lp c13l27 :: .blk 6 :: k_) ⟨lkT [(10, .b (.s (.own 60 out.length))), (61, .b (.s (.own 43 s4.2.2.length))), (62, .b (.s (.d (.int .i64 (s4.2.2.length : Int))))), (63, .b (.s (.d (.int .i64 v63))))], lkG [(60, ⟨1, er (eI .u8) out, false⟩), (43, ⟨1, er (eI .u32) s4.2.2, false⟩)]⟩ R_ := by
  intro m_; induction m_ with
  | zero => intro v63 out res_ h; rw [f_ref02_Sum_l27.eq_1] at h; cases h
  | succ m_ ih =>
    intro v63 out res_ h k_ hx; rw [f_ref02_Sum_l27.eq_2] at h; refine W.cdef c13l27.eq_1 ?_
    refine .seq ?_
    refine Rw.walk ?_
    simp only [wz, wd, ws, Nat.reduceAdd, Nat.reduceSub, Nat.reduceMul, Nat.reduceLeDiff, Nat.reduceEqDiff, Nat.reduceLT, Nat.reduceBEq, reduceIte, reduceCtorEq, Int.reduceToNat, Nat.reduceShiftRight, Nat.reduceAnd, Nat.reduceBneDiff, Nat.reduceBNe, c13r20, semI.eq_10, semI.eq_11, semI.eq_3, semI.eq_5, semI.eq_7]
    refine .seq ?_
    refine .cond (p := (decide (v63 < (s4.2.2.length : Int)))) (by first | rfl | simp only [wz, wd, ws, Nat.reduceAdd, Nat.reduceSub, Nat.reduceMul, Nat.reduceLeDiff, Nat.reduceEqDiff, Nat.reduceLT, Nat.reduceBEq, reduceIte, reduceCtorEq, Int.reduceToNat, Nat.reduceShiftRight, Nat.reduceAnd, Nat.reduceBneDiff, Nat.reduceBNe]) (fun h1 => ?_) (fun h1 => ?_)
    · rw [ite_t h1] at h
      refine .skip ?_
      refine .seq ?_
      refine .blk ?_
      refine .seq ?_
      refine Rw.walk ?_
      simp only [wz, wd, ws, Nat.reduceAdd, Nat.reduceSub, Nat.reduceMul, Nat.reduceLeDiff, Nat.reduceEqDiff, Nat.reduceLT, Nat.reduceBEq, reduceIte, reduceCtorEq, Int.reduceToNat, Nat.reduceShiftRight, Nat.reduceAnd, Nat.reduceBneDiff, Nat.reduceBNe, c13r21, semI.eq_10, semI.eq_11, semI.eq_3, semI.eq_5, semI.eq_7]
      obtain ⟨x, e9, h⟩ := Option.bind_eq_some_iff.1 h
      refine Go1.of (sem_iadrO (l := s4.2.2) e9 (by rfl) (by rfl) (by rfl)) ?_
      simp only [wz, wd, ws, Nat.reduceAdd, Nat.reduceSub, Nat.reduceMul, Nat.reduceLeDiff, Nat.reduceEqDiff, Nat.reduceLT, Nat.reduceBEq, reduceIte, reduceCtorEq, Int.reduceToNat, Nat.reduceShiftRight, Nat.reduceAnd, Nat.reduceBneDiff, Nat.reduceBNe, c13r21, semI.eq_10, semI.eq_11, semI.eq_3, semI.eq_5, semI.eq_7, er_get e9]
      refine Rw.walk ?_
      simp only [wz, wd, ws, Nat.reduceAdd, Nat.reduceSub, Nat.reduceMul, Nat.reduceLeDiff, Nat.reduceEqDiff, Nat.reduceLT, Nat.reduceBEq, reduceIte, reduceCtorEq, Int.reduceToNat, Nat.reduceShiftRight, Nat.reduceAnd, Nat.reduceBneDiff, Nat.reduceBNe, c13r22, semI.eq_10, semI.eq_11, semI.eq_3, semI.eq_5, semI.eq_7, er_get e9]
      repeat (refine And.intro ?_ ?_; · first | omega | (intro q; simp only [wz, wd, ws, Nat.reduceAdd, Nat.reduceSub, Nat.reduceMul, Nat.reduceLeDiff, Nat.reduceEqDiff, Nat.reduceLT, Nat.reduceBEq, reduceIte, reduceCtorEq, Int.reduceToNat, Nat.reduceShiftRight, Nat.reduceAnd, Nat.reduceBneDiff, Nat.reduceBNe, q]; done))
      refine Go1.of (sem_bsl (enc := (eI .u8)) (m := ([(IntKind.u8.wrap (IntKind.u32.wrap (x.tdiv 16777216))), (IntKind.u8.wrap ((IntKind.u32.wrap (x.tdiv 65536)).tmod 256)), (IntKind.u8.wrap ((IntKind.u32.wrap (x.tdiv 256)).tmod 256)), (IntKind.u8.wrap (x.tmod 256))] : List Int)) (eI_len _) (by rfl) (by rfl) (by rfl) ⟨trivial, trivial, trivial, trivial, trivial⟩) ?_
      simp only [wz, wd, ws, Nat.reduceAdd, Nat.reduceSub, Nat.reduceMul, Nat.reduceLeDiff, Nat.reduceEqDiff, Nat.reduceLT, Nat.reduceBEq, reduceIte, reduceCtorEq, Int.reduceToNat, Nat.reduceShiftRight, Nat.reduceAnd, Nat.reduceBneDiff, Nat.reduceBNe, c13r22, semI.eq_10, semI.eq_11, semI.eq_3, semI.eq_5, semI.eq_7, er_get e9]
      obtain ⟨g10, h⟩ := gd_iff.1 h
      refine Go1.of (sem_app (enc := (eI .u8)) (l := out) (m := ([(IntKind.u8.wrap (IntKind.u32.wrap (x.tdiv 16777216))), (IntKind.u8.wrap ((IntKind.u32.wrap (x.tdiv 65536)).tmod 256)), (IntKind.u8.wrap ((IntKind.u32.wrap (x.tdiv 256)).tmod 256)), (IntKind.u8.wrap (x.tmod 256))] : List Int)) (eI_len _) (by rfl) (by rfl) (newV_own (m := ([(IntKind.u8.wrap (IntKind.u32.wrap (x.tdiv 16777216))), (IntKind.u8.wrap ((IntKind.u32.wrap (x.tdiv 65536)).tmod 256)), (IntKind.u8.wrap ((IntKind.u32.wrap (x.tdiv 256)).tmod 256)), (IntKind.u8.wrap (x.tmod 256))] : List Int)) (by rfl) (by rfl))) ?_
      simp only [wz, wd, ws, Nat.reduceAdd, Nat.reduceSub, Nat.reduceMul, Nat.reduceLeDiff, Nat.reduceEqDiff, Nat.reduceLT, Nat.reduceBEq, reduceIte, reduceCtorEq, Int.reduceToNat, Nat.reduceShiftRight, Nat.reduceAnd, Nat.reduceBneDiff, Nat.reduceBNe, c13r22, semI.eq_10, semI.eq_11, semI.eq_3, semI.eq_5, semI.eq_7, er_get e9]
      repeat (refine And.intro ?_ ?_; · first | omega | (intro q; simp only [wz, wd, ws, Nat.reduceAdd, Nat.reduceSub, Nat.reduceMul, Nat.reduceLeDiff, Nat.reduceEqDiff, Nat.reduceLT, Nat.reduceBEq, reduceIte, reduceCtorEq, Int.reduceToNat, Nat.reduceShiftRight, Nat.reduceAnd, Nat.reduceBneDiff, Nat.reduceBNe, q]; done))
      refine .eblk ?_
      refine Rw.walk ?_
      simp only [wz, wd, ws, Nat.reduceAdd, Nat.reduceSub, Nat.reduceMul, Nat.reduceLeDiff, Nat.reduceEqDiff, Nat.reduceLT, Nat.reduceBEq, reduceIte, reduceCtorEq, Int.reduceToNat, Nat.reduceShiftRight, Nat.reduceAnd, Nat.reduceBneDiff, Nat.reduceBNe, c13r23, semI.eq_10, semI.eq_11, semI.eq_3, semI.eq_5, semI.eq_7, er_get e9]
      refine .lp ?_
      refine .weak (Imp.co [] _ _ ?_ ?_ ?_ ?_ ?_) (ih (IntKind.i64.wrap (v63 + 1)) (out ++ ([(IntKind.u8.wrap (IntKind.u32.wrap (x.tdiv 16777216))), (IntKind.u8.wrap ((IntKind.u32.wrap (x.tdiv 65536)).tmod 256)), (IntKind.u8.wrap ((IntKind.u32.wrap (x.tdiv 256)).tmod 256)), (IntKind.u8.wrap (x.tmod 256))] : List Int)) _ h k_ hx) <;> simp only [wz, wd, ws, Nat.reduceAdd, Nat.reduceSub, Nat.reduceMul, Nat.reduceLeDiff, Nat.reduceEqDiff, Nat.reduceLT, Nat.reduceBEq, reduceIte, reduceCtorEq, Int.reduceToNat, Nat.reduceShiftRight, Nat.reduceAnd, Nat.reduceBneDiff, Nat.reduceBNe, wi, er_nil]
    · rw [ite_f h1] at h
      refine .exit rfl ?_
      obtain rfl := Option.some.inj h
      refine .weak (Imp.co [] _ _ ?_ ?_ ?_ ?_ ?_) (hx _ rfl) <;> simp only [wz, wd, ws, Nat.reduceAdd, Nat.reduceSub, Nat.reduceMul, Nat.reduceLeDiff, Nat.reduceEqDiff, Nat.reduceLT, Nat.reduceBEq, reduceIte, reduceCtorEq, Int.reduceToNat, Nat.reduceShiftRight, Nat.reduceAnd, Nat.reduceBneDiff, Nat.reduceBNe, wi, er_nil]
theorem f_ref02_Sum_ok (s : Str) (y_ : Str) (h : f_ref02_Sum s = some y_) : Fun Tryd.prog glP 13 [.b (.s (.d (.str s)))] (.b (.s (.d (.str y_)))) := by
  refine fun_walk [] Tryd.func13 Tryd.ntmps13 cc13 cr13 (by kernel_rfl) (by simp only [List.length_cons, List.length_nil]; decide) ?_
  generalize hR : Ret _ _ _ _ _ = R_
  simp only [wz, wd, ws, Nat.reduceAdd, Nat.reduceSub, Nat.reduceMul, Nat.reduceLeDiff, Nat.reduceEqDiff, Nat.reduceLT, Nat.reduceBEq, reduceIte, reduceCtorEq, Int.reduceToNat, Nat.reduceShiftRight, Nat.reduceAnd, Nat.reduceBneDiff, Nat.reduceBNe]
  unfold f_ref02_Sum at h; unfold c13
  refine .seq ?_
  refine Rw.walk ?_
  simp only [wz, wd, ws, Nat.reduceAdd, Nat.reduceSub, Nat.reduceMul, Nat.reduceLeDiff, Nat.reduceEqDiff, Nat.reduceLT, Nat.reduceBEq, reduceIte, reduceCtorEq, Int.reduceToNat, Nat.reduceShiftRight, Nat.reduceAnd, Nat.reduceBneDiff, Nat.reduceBNe, c13r0, semI.eq_10, semI.eq_11, semI.eq_3, semI.eq_5, semI.eq_7]
  refine .seq ?_
  refine Rw.walk ?_
  simp only [wz, wd, ws, Nat.reduceAdd, Nat.reduceSub, Nat.reduceMul, Nat.reduceLeDiff, Nat.reduceEqDiff, Nat.reduceLT, Nat.reduceBEq, reduceIte, reduceCtorEq, Int.reduceToNat, Nat.reduceShiftRight, Nat.reduceAnd, Nat.reduceBneDiff, Nat.reduceBNe, c13r1, semI.eq_10, semI.eq_11, semI.eq_3, semI.eq_5, semI.eq_7]
  refine Go1.of (sem_s2b (s := s) (by rfl) (by rfl)) ?_
  simp only [wz, wd, ws, Nat.reduceAdd, Nat.reduceSub, Nat.reduceMul, Nat.reduceLeDiff, Nat.reduceEqDiff, Nat.reduceLT, Nat.reduceBEq, reduceIte, reduceCtorEq, Int.reduceToNat, Nat.reduceShiftRight, Nat.reduceAnd, Nat.reduceBneDiff, Nat.reduceBNe, c13r1, semI.eq_10, semI.eq_11, semI.eq_3, semI.eq_5, semI.eq_7]
  refine .seq ?_
  refine Rw.walk ?_
  simp only [wz, wd, ws, Nat.reduceAdd, Nat.reduceSub, Nat.reduceMul, Nat.reduceLeDiff, Nat.reduceEqDiff, Nat.reduceLT, Nat.reduceBEq, reduceIte, reduceCtorEq, Int.reduceToNat, Nat.reduceShiftRight, Nat.reduceAnd, Nat.reduceBneDiff, Nat.reduceBNe, c13r2, semI.eq_10, semI.eq_11, semI.eq_3, semI.eq_5, semI.eq_7]
  refine .seq ?_
  refine Rw.walk ?_
  simp only [wz, wd, ws, Nat.reduceAdd, Nat.reduceSub, Nat.reduceMul, Nat.reduceLeDiff, Nat.reduceEqDiff, Nat.reduceLT, Nat.reduceBEq, reduceIte, reduceCtorEq, Int.reduceToNat, Nat.reduceShiftRight, Nat.reduceAnd, Nat.reduceBneDiff, Nat.reduceBNe, c13r3, semI.eq_10, semI.eq_11, semI.eq_3, semI.eq_5, semI.eq_7]
  refine Go1.of (sem_bsl (enc := (eI .u8)) (m := ([128] : List Int)) (eI_len _) (by rfl) (by rfl) (by rfl) ⟨trivial, trivial⟩) ?_
  simp only [wz, wd, ws, Nat.reduceAdd, Nat.reduceSub, Nat.reduceMul, Nat.reduceLeDiff, Nat.reduceEqDiff, Nat.reduceLT, Nat.reduceBEq, reduceIte, reduceCtorEq, Int.reduceToNat, Nat.reduceShiftRight, Nat.reduceAnd, Nat.reduceBneDiff, Nat.reduceBNe, c13r3, semI.eq_10, semI.eq_11, semI.eq_3, semI.eq_5, semI.eq_7]
  obtain ⟨g1, h⟩ := gd_iff.1 h
  refine Go1.of (sem_app (enc := (eI .u8)) (l := (s.map bn)) (m := ([128] : List Int)) (eI_len _) (by first | rfl | (simp only [List.length_map, List.length_replicate, List.length_set]; rfl)) (by first | rfl | (simp only [List.length_map, List.length_replicate, List.length_set]; rfl)) (newV_own (m := ([128] : List Int)) (by first | rfl | (simp only [List.length_map, List.length_replicate, List.length_set]; rfl)) (by first | rfl | (simp only [List.length_map, List.length_replicate, List.length_set]; rfl)))) ?_
  simp only [wz, wd, ws, Nat.reduceAdd, Nat.reduceSub, Nat.reduceMul, Nat.reduceLeDiff, Nat.reduceEqDiff, Nat.reduceLT, Nat.reduceBEq, reduceIte, reduceCtorEq, Int.reduceToNat, Nat.reduceShiftRight, Nat.reduceAnd, Nat.reduceBneDiff, Nat.reduceBNe, c13r3, semI.eq_10, semI.eq_11, semI.eq_3, semI.eq_5, semI.eq_7]
  repeat (refine And.intro ?_ ?_; · first | omega | (intro q; simp only [wz, wd, ws, Nat.reduceAdd, Nat.reduceSub, Nat.reduceMul, Nat.reduceLeDiff, Nat.reduceEqDiff, Nat.reduceLT, Nat.reduceBEq, reduceIte, reduceCtorEq, Int.reduceToNat, Nat.reduceShiftRight, Nat.reduceAnd, Nat.reduceBneDiff, Nat.reduceBNe, q]; done))
  refine .seq ?_
  refine .blk ?_
  obtain ⟨s2, hf, h⟩ := Option.bind_eq_some_iff.1 h
  refine .loop (.weak (Imp.co [] _ _ ?c1 ?c2 ?c3 ?c4 ?c5) (f_ref02_Sum_l6_ok s _ _ hR _ _ _ hf _ ?_))
  case c1 | c2 | c3 | c4 | c5 => simp only [wz, wd, ws, Nat.reduceAdd, Nat.reduceSub, Nat.reduceMul, Nat.reduceLeDiff, Nat.reduceEqDiff, Nat.reduceLT, Nat.reduceBEq, reduceIte, reduceCtorEq, Int.reduceToNat, Nat.reduceShiftRight, Nat.reduceAnd, Nat.reduceBneDiff, Nat.reduceBNe, wi, er_nil]
  · intro s2_ hs; subst hs
    refine .seq ?_
    refine Rw.walk ?_
    simp only [wz, wd, ws, Nat.reduceAdd, Nat.reduceSub, Nat.reduceMul, Nat.reduceLeDiff, Nat.reduceEqDiff, Nat.reduceLT, Nat.reduceBEq, reduceIte, reduceCtorEq, Int.reduceToNat, Nat.reduceShiftRight, Nat.reduceAnd, Nat.reduceBneDiff, Nat.reduceBNe, c13r6, semI.eq_10, semI.eq_11, semI.eq_3, semI.eq_5, semI.eq_7]
    refine .seq ?_
    refine .seq ?_
    refine Rw.walk ?_
    simp only [wz, wd, ws, Nat.reduceAdd, Nat.reduceSub, Nat.reduceMul, Nat.reduceLeDiff, Nat.reduceEqDiff, Nat.reduceLT, Nat.reduceBEq, reduceIte, reduceCtorEq, Int.reduceToNat, Nat.reduceShiftRight, Nat.reduceAnd, Nat.reduceBneDiff, Nat.reduceBNe, c13r7, semI.eq_10, semI.eq_11, semI.eq_3, semI.eq_5, semI.eq_7]
    refine .blk ?_
    obtain ⟨s3, hf, h⟩ := Option.bind_eq_some_iff.1 h
    refine .loop (.weak (Imp.co [] _ _ ?c1 ?c2 ?c3 ?c4 ?c5) (f_ref02_Sum_l13_ok s _ _ hR _ _ _ _ _ hf _ ?_))
    case c1 | c2 | c3 | c4 | c5 => simp only [wz, wd, ws, Nat.reduceAdd, Nat.reduceSub, Nat.reduceMul, Nat.reduceLeDiff, Nat.reduceEqDiff, Nat.reduceLT, Nat.reduceBEq, reduceIte, reduceCtorEq, Int.reduceToNat, Nat.reduceShiftRight, Nat.reduceAnd, Nat.reduceBneDiff, Nat.reduceBNe, wi, er_nil]
    · intro s3_ hs; subst hs
      refine .seq ?_
      refine Rw.walk ?_
      simp only [wz, wd, ws, Nat.reduceAdd, Nat.reduceSub, Nat.reduceMul, Nat.reduceLeDiff, Nat.reduceEqDiff, Nat.reduceLT, Nat.reduceBEq, reduceIte, reduceCtorEq, Int.reduceToNat, Nat.reduceShiftRight, Nat.reduceAnd, Nat.reduceBneDiff, Nat.reduceBNe, c13r12, semI.eq_10, semI.eq_11, semI.eq_3, semI.eq_5, semI.eq_7]
      obtain ⟨t, e5, h⟩ := Option.bind_eq_some_iff.1 h
      refine call_funO' [] ⟨trivial, trivial⟩ rfl ?_ (f_ref02_First_ok _ e5) rfl (.inl rfl) ?_
      · simp only [wz, wd, ws, Nat.reduceAdd, Nat.reduceSub, Nat.reduceMul, Nat.reduceLeDiff, Nat.reduceEqDiff, Nat.reduceLT, Nat.reduceBEq, reduceIte, reduceCtorEq, Int.reduceToNat, Nat.reduceShiftRight, Nat.reduceAnd, Nat.reduceBneDiff, Nat.reduceBNe]
      simp only [wz, wd, ws, Nat.reduceAdd, Nat.reduceSub, Nat.reduceMul, Nat.reduceLeDiff, Nat.reduceEqDiff, Nat.reduceLT, Nat.reduceBEq, reduceIte, reduceCtorEq, Int.reduceToNat, Nat.reduceShiftRight, Nat.reduceAnd, Nat.reduceBneDiff, Nat.reduceBNe, c13r12, semI.eq_10, semI.eq_11, semI.eq_3, semI.eq_5, semI.eq_7]
      refine .seq ?_
      refine Rw.walk ?_
      simp only [wz, wd, ws, Nat.reduceAdd, Nat.reduceSub, Nat.reduceMul, Nat.reduceLeDiff, Nat.reduceEqDiff, Nat.reduceLT, Nat.reduceBEq, reduceIte, reduceCtorEq, Int.reduceToNat, Nat.reduceShiftRight, Nat.reduceAnd, Nat.reduceBneDiff, Nat.reduceBNe, c13r13, semI.eq_10, semI.eq_11, semI.eq_3, semI.eq_5, semI.eq_7]
      obtain ⟨t2, e6, h⟩ := Option.bind_eq_some_iff.1 h
      refine call_funO' [] ⟨trivial, trivial⟩ rfl ?_ (f_ref02_Keys_ok _ e6) rfl (.inl rfl) ?_
      · simp only [wz, wd, ws, Nat.reduceAdd, Nat.reduceSub, Nat.reduceMul, Nat.reduceLeDiff, Nat.reduceEqDiff, Nat.reduceLT, Nat.reduceBEq, reduceIte, reduceCtorEq, Int.reduceToNat, Nat.reduceShiftRight, Nat.reduceAnd, Nat.reduceBneDiff, Nat.reduceBNe]
      simp only [wz, wd, ws, Nat.reduceAdd, Nat.reduceSub, Nat.reduceMul, Nat.reduceLeDiff, Nat.reduceEqDiff, Nat.reduceLT, Nat.reduceBEq, reduceIte, reduceCtorEq, Int.reduceToNat, Nat.reduceShiftRight, Nat.reduceAnd, Nat.reduceBneDiff, Nat.reduceBNe, c13r13, semI.eq_10, semI.eq_11, semI.eq_3, semI.eq_5, semI.eq_7]
      refine .seq ?_
      refine .seq ?_
      refine Rw.walk ?_
      simp only [wz, wd, ws, Nat.reduceAdd, Nat.reduceSub, Nat.reduceMul, Nat.reduceLeDiff, Nat.reduceEqDiff, Nat.reduceLT, Nat.reduceBEq, reduceIte, reduceCtorEq, Int.reduceToNat, Nat.reduceShiftRight, Nat.reduceAnd, Nat.reduceBneDiff, Nat.reduceBNe, c13r14, semI.eq_10, semI.eq_11, semI.eq_3, semI.eq_5, semI.eq_7]
      refine .blk ?_
      obtain ⟨s4, hf, h⟩ := Option.bind_eq_some_iff.1 h
      refine .loop (.weak (Imp.co [14] _ _ ?c1 ?c2 ?c3 ?c4 ?c5) (f_ref02_Sum_l20_ok s t2 _ _ hR _ _ _ _ _ hf _ ?_))
      case c1 | c2 | c3 | c4 | c5 => simp only [wz, wd, ws, Nat.reduceAdd, Nat.reduceSub, Nat.reduceMul, Nat.reduceLeDiff, Nat.reduceEqDiff, Nat.reduceLT, Nat.reduceBEq, reduceIte, reduceCtorEq, Int.reduceToNat, Nat.reduceShiftRight, Nat.reduceAnd, Nat.reduceBneDiff, Nat.reduceBNe, wi, er_nil]
      · intro s4_ hs; subst hs
        refine .seq ?_
        refine Rw.walk ?_
        simp only [wz, wd, ws, Nat.reduceAdd, Nat.reduceSub, Nat.reduceMul, Nat.reduceLeDiff, Nat.reduceEqDiff, Nat.reduceLT, Nat.reduceBEq, reduceIte, reduceCtorEq, Int.reduceToNat, Nat.reduceShiftRight, Nat.reduceAnd, Nat.reduceBneDiff, Nat.reduceBNe, c13r18, semI.eq_10, semI.eq_11, semI.eq_3, semI.eq_5, semI.eq_7]
        refine Go1.of (sem_bsl (enc := (eI .u8)) (m := ([] : List Int)) (eI_len _) (by rfl) (by rfl) (by rfl) trivial) ?_
        simp only [wz, wd, ws, Nat.reduceAdd, Nat.reduceSub, Nat.reduceMul, Nat.reduceLeDiff, Nat.reduceEqDiff, Nat.reduceLT, Nat.reduceBEq, reduceIte, reduceCtorEq, Int.reduceToNat, Nat.reduceShiftRight, Nat.reduceAnd, Nat.reduceBneDiff, Nat.reduceBNe, c13r18, semI.eq_10, semI.eq_11, semI.eq_3, semI.eq_5, semI.eq_7]
        refine .seq ?_
        refine .seq ?_
        refine Rw.walk ?_
        simp only [wz, wd, ws, Nat.reduceAdd, Nat.reduceSub, Nat.reduceMul, Nat.reduceLeDiff, Nat.reduceEqDiff, Nat.reduceLT, Nat.reduceBEq, reduceIte, reduceCtorEq, Int.reduceToNat, Nat.reduceShiftRight, Nat.reduceAnd, Nat.reduceBneDiff, Nat.reduceBNe, c13r19, semI.eq_10, semI.eq_11, semI.eq_3, semI.eq_5, semI.eq_7]
        refine .blk ?_
        obtain ⟨s5, hf, h⟩ := Option.bind_eq_some_iff.1 h
        refine .loop (.weak (Imp.co [] _ _ ?c1 ?c2 ?c3 ?c4 ?c5) (f_ref02_Sum_l27_ok s s4 _ _ hR _ _ _ _ hf _ ?_))
        case c1 | c2 | c3 | c4 | c5 => simp only [wz, wd, ws, Nat.reduceAdd, Nat.reduceSub, Nat.reduceMul, Nat.reduceLeDiff, Nat.reduceEqDiff, Nat.reduceLT, Nat.reduceBEq, reduceIte, reduceCtorEq, Int.reduceToNat, Nat.reduceShiftRight, Nat.reduceAnd, Nat.reduceBneDiff, Nat.reduceBNe, wi, er_nil]
        · intro s5_ hs; subst hs
          refine .seq ?_
          refine Rw.walk ?_
          simp only [wz, wd, ws, Nat.reduceAdd, Nat.reduceSub, Nat.reduceMul, Nat.reduceLeDiff, Nat.reduceEqDiff, Nat.reduceLT, Nat.reduceBEq, reduceIte, reduceCtorEq, Int.reduceToNat, Nat.reduceShiftRight, Nat.reduceAnd, Nat.reduceBneDiff, Nat.reduceBNe, c13r24, semI.eq_10, semI.eq_11, semI.eq_3, semI.eq_5, semI.eq_7]
          refine Go1.of (sem_b2s (n := s5.2) (rowsV_own (m := s5.2) (by rfl) (by rfl))) ?_
          simp only [wz, wd, ws, Nat.reduceAdd, Nat.reduceSub, Nat.reduceMul, Nat.reduceLeDiff, Nat.reduceEqDiff, Nat.reduceLT, Nat.reduceBEq, reduceIte, reduceCtorEq, Int.reduceToNat, Nat.reduceShiftRight, Nat.reduceAnd, Nat.reduceBneDiff, Nat.reduceBNe, c13r24, semI.eq_10, semI.eq_11, semI.eq_3, semI.eq_5, semI.eq_7]
          obtain rfl := Option.some.inj h
          refine .ret ?_
          rw [← hR]
          simp only [wz, wd, ws, Nat.reduceAdd, Nat.reduceSub, Nat.reduceMul, Nat.reduceLeDiff, Nat.reduceEqDiff, Nat.reduceLT, Nat.reduceBEq, reduceIte, reduceCtorEq, Int.reduceToNat, Nat.reduceShiftRight, Nat.reduceAnd, Nat.reduceBneDiff, Nat.reduceBNe, rv13]
end Go.Proofs.YtjhgkcbhllomaaaDoor.V
end
