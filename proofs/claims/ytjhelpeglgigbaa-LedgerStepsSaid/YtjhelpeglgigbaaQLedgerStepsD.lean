/- Go functions compute what Lean functions do. -/
import Derived.Test.YtjhelpeglgigbaaProg
import Derived.Test.YtjhelpeglgigbaaQLedgerStepsB
import Derived.Test.YtjhelpeglgigbaaQLedgerStepsC
import Derived.KernelRfl
section
/- Go functions compute what Lean functions do. -/
namespace Go.Proofs.Ytjhelpeglgigbaa.V
open Go Go.RowKit
set_option linter.unusedVariables false
set_option linter.unusedSimpArgs false
set_option maxHeartbeats 1000000
set_option maxRecDepth 20000
-- 58 consignor/octet.Wide
def c58r0 : List Opn := [
  ⟨(some 4), none, .mv (.c (.s (.d (.str []))))⟩, 
  ⟨(some 5), none, .mv (.c (.s (.d (.int .i64 0))))⟩]
def c58r1 : List Opn := [
  ⟨(some 9), none, .mv (.t 1)⟩, 
  ⟨(some 10), none, .bin .lss (.t 9) (.c (.s (.d (.int .i64 0))))⟩, 
  ⟨(some 11), none, .mv (.t 10)⟩, 
  ⟨(some 12), some (11, false), .mv (.t 1)⟩, 
  ⟨(some 13), some (11, false), .bin .gtr (.t 12) (.c (.s (.d (.int .i64 8))))⟩, 
  ⟨(some 14), none, .pick (.t 11) (.c (.s (.d (.bool true)))) (.t 13)⟩, 
  ⟨(some 8), none, .mv (.t 14)⟩]
def c58r2 : List Opn := [
  ⟨(some 4), none, .mv (.c (.s (.d (.str []))))⟩, 
  ⟨(some 5), none, .mv (.c (.s (.d (.int .i64 1))))⟩]
def c58r3 : List Opn := [
  ⟨(some 16), none, .mv (.t 1)⟩, 
  ⟨(some 17), none, .bin .lss (.t 16) (.c (.s (.d (.int .i64 8))))⟩, 
  ⟨(some 18), none, .mv (.t 17)⟩, 
  ⟨(some 19), some (18, true), .mv (.t 0)⟩, 
  ⟨(some 20), some (18, true), .mv (.t 1)⟩, 
  ⟨(some 21), some (18, true), .bin .mul (.c (.s (.d (.int .i64 8)))) (.t 20)⟩, 
  ⟨(some 22), some (18, true), .bin .shr (.t 19) (.t 21)⟩, 
  ⟨(some 23), some (18, true), .bin .neq (.t 22) (.c (.s (.d (.int .u64 0))))⟩, 
  ⟨(some 24), none, .pick (.t 18) (.t 23) (.c (.s (.d (.bool false))))⟩, 
  ⟨(some 15), none, .mv (.t 24)⟩]
def c58r4 : List Opn := [
  ⟨(some 4), none, .mv (.c (.s (.d (.str []))))⟩, 
  ⟨(some 5), none, .mv (.c (.s (.d (.int .i64 2))))⟩]
def c58r5 : List Opn := [
  ⟨(some 25), none, .mv (.t 1)⟩, 
  ⟨(some 26), none, .mksl 1 1 [(.d (.int .u8 0))] (.t 25) (.t 25)⟩, 
  ⟨(some 6), none, .mv (.t 26)⟩]
def c58r6 : List Opn := [
  ⟨(some 27), none, .mv (.t 6)⟩, 
  ⟨(some 28), none, .len (.sl 0) (.t 27)⟩, 
  ⟨(some 29), none, .mv (.c (.s (.d (.int .i64 0))))⟩]
def c58r7 : List Opn := [
  ⟨(some 30), none, .bin .lss (.t 29) (.t 28)⟩]
def c58r8 : List Opn := [
  ⟨(some 31), none, .mv (.t 29)⟩, 
  ⟨(some 7), none, .mv (.t 31)⟩]
def c58r9 : List Opn := [
  ⟨(some 32), none, .mv (.t 6)⟩, 
  ⟨(some 33), none, .mv (.t 7)⟩, 
  ⟨(some 34), none, .mv (.t 0)⟩, 
  ⟨(some 35), none, .mv (.t 7)⟩, 
  ⟨(some 36), none, .bin .mul (.c (.s (.d (.int .i64 8)))) (.t 35)⟩, 
  ⟨(some 37), none, .bin .shr (.t 34) (.t 36)⟩, 
  ⟨(some 38), none, .cv (.toInt .u8) (.t 37)⟩, 
  ⟨(some 39), none, .iadr (.sl 1) (.t 32) (.t 33)⟩, 
  ⟨none, none, .store 1 (.t 39) (.t 38)⟩]
def c58r10 : List Opn := [
  ⟨(some 40), none, .bin .add (.t 29) (.c (.s (.d (.int .i64 1))))⟩, 
  ⟨(some 29), none, .mv (.t 40)⟩]
def c58l11 : C := .seq (.reg c58r7 none [0, 6, 28, 29, 30]) (.seq (.cond (.t 30) (.skip) (.exit 1)) (.seq (.blk 2 (.seq (.reg c58r8 none [0, 6, 7, 28, 29]) (.reg c58r9 none [0, 6, 28, 29]))) (.reg c58r10 none [0, 6, 28, 29])))
def c58r11 : List Opn := [
  ⟨(some 41), none, .mv (.t 6)⟩, 
  ⟨(some 42), none, .cv .b2s (.t 41)⟩, 
  ⟨(some 4), none, .mv (.t 42)⟩, 
  ⟨(some 5), none, .mv (.c (.s (.d (.int .i64 0))))⟩]
def c58 : C := .seq (.reg c58r0 none [0, 1]) (.seq (.blk 0 (.seq (.reg c58r1 none [0, 1, 8]) (.cond (.t 8) (.seq (.reg c58r2 none [4, 5]) (.ret)) (.seq (.reg c58r3 none [0, 1, 15]) (.cond (.t 15) (.seq (.reg c58r4 none [4, 5]) (.ret)) (.skip)))))) (.seq (.reg c58r5 none [0, 6]) (.seq (.seq (.reg c58r6 none [0, 6, 28, 29]) (.blk 1 (.loop c58l11))) (.seq (.reg c58r11 none [4, 5]) (.ret)))))
def k58 : List (Nat × List Nat) := [(11, [4, 5]), (10, [0, 6, 28, 29]), (9, [0, 6, 28, 29]), (8, [0, 6, 7, 28, 29]), (7, [0, 6, 28, 29, 30]), (6, [0, 6, 28, 29]), (5, [0, 6]), (2, [4, 5]), (4, [4, 5]), (3, [0, 1, 15]), (1, [0, 1, 8]), (0, [0, 1])]
theorem cc58 : (Try.f58.body).bind (cC Try.prog 43 k58) = some c58 := by kernel_rfl
def rv58 : List RV := [.t 4, .t 5]
theorem cr58 : cRVs Try.prog Try.f58.results.toList = some rv58 := by kernel_rfl
theorem f_octet_Wide_l11_ok (n : Int) (size : Int) (y_ : Str × Int) (R_ : St → Prop) (hR : (Ret Try.prog glP [] rv58 (.tup [.s (.d (.str y_.1)), .s (.d (.int .i64 y_.2))])) = R_) : ∀ (m_ : Nat) (v29 : Int) (out : (List Int)) (res_ : Int × (List Int)) (h : f_octet_Wide_l11 n size m_ v29 out = some res_) (k_ : List It) (hx : ∀ s_ : Int × (List Int), res_ = s_ → W Try.prog glP 43 k_ ⟨lkT [(0, .b (.s (.d (.int .u64 n)))), (6, .b (.s (.own 26 s_.2.length))), (28, .b (.s (.d (.int .i64 (size.toNat : Int))))), (29, .b (.s (.d (.int .i64 s_.1))))], lkG [(26, ⟨1, er (eI .u8) s_.2, false⟩)]⟩ R_), W Try.prog glP 43 (.c c58l11 :: .lp c58l11 :: .blk 1 :: k_) ⟨lkT [(0, .b (.s (.d (.int .u64 n)))), (6, .b (.s (.own 26 out.length))), (28, .b (.s (.d (.int .i64 (size.toNat : Int))))), (29, .b (.s (.d (.int .i64 v29))))], lkG [(26, ⟨1, er (eI .u8) out, false⟩)]⟩ R_ := by
  intro m_; induction m_ with
  | zero => intro v29 out res_ h; rw [f_octet_Wide_l11.eq_1] at h; cases h
  | succ m_ ih =>
    intro v29 out res_ h k_ hx; rw [f_octet_Wide_l11.eq_2] at h; refine W.cdef c58l11.eq_1 ?_
    refine .seq ?_
    refine Rw.walk ?_
    simp only [wz, wd, ws, seval, c58r7, semI.eq_10, semI.eq_11, semI.eq_3, semI.eq_5, semI.eq_7]
    refine .seq ?_
    refine .cond (p := (decide (v29 < (size.toNat : Int)))) (by first | rfl | simp only [wz, wd, ws, seval]) (fun h1 => ?_) (fun h1 => ?_)
    · rw [ite_t h1] at h
      refine .skip ?_
      refine .seq ?_
      refine .blk ?_
      refine .seq ?_
      refine Rw.walk ?_
      simp only [wz, wd, ws, seval, c58r8, semI.eq_10, semI.eq_11, semI.eq_3, semI.eq_5, semI.eq_7]
      refine Rw.walk ?_
      obtain ⟨g3, h⟩ := gd_iff.1 h
      simp only [wz, wd, ws, seval, c58r9, semI.eq_3, semI.eq_5, semI.eq_7]
      repeat (refine And.intro ?_ ?_; · first | omega | (simp only [List.length_append, List.length_cons, List.length_nil] at *; omega) | (intro q; simp only [wz, wd, ws, seval, q]; done))
      obtain ⟨x, e4, h⟩ := Option.bind_eq_some_iff.1 h
      refine Go1.of (sem_iadrO (l := out) e4 (by rfl) (by rfl) (by rfl)) ?_
      simp only [wz, wd, ws, seval, c58r9, semI.eq_3, semI.eq_5, semI.eq_7, er_get e4]
      refine Go1.of (sem_store (enc := (eI .u8)) (l := out) (a := x) (a' := (IntKind.u8.wrap (n.fdiv (2 ^ (min (IntKind.i64.wrap (8 * v29)).toNat IntKind.u64.bits))))) (v := .b (.s (.d (.int .u8 (IntKind.u8.wrap (n.fdiv (2 ^ (min (IntKind.i64.wrap (8 * v29)).toNat IntKind.u64.bits)))))))) (by rfl) (by rfl) (er_get e4) (by rfl) (by trivial) (by rfl) (Nat.le_of_ble_eq_true (by rfl)) (by rfl)) ?_
      simp only [wz, wd, ws, seval, c58r9, semI.eq_3, semI.eq_5, semI.eq_7, er_get e4]
      refine .eblk ?_
      refine Rw.walk ?_
      simp only [wz, wd, ws, seval, c58r10, semI.eq_10, semI.eq_11, semI.eq_3, semI.eq_5, semI.eq_7, er_get e4]
      refine .lp ?_
      refine .weak (Imp.co [] _ _ ?_ ?_ ?_ ?_ ?_) (ih (IntKind.i64.wrap (v29 + 1)) (out.set v29.toNat (IntKind.u8.wrap (n.fdiv (2 ^ (min (IntKind.i64.wrap (8 * v29)).toNat IntKind.u64.bits))))) _ h k_ hx) <;> simp only [wz, wd, ws, seval, wi, er_nil]
    · rw [ite_f h1] at h
      refine .exit rfl ?_
      obtain rfl := Option.some.inj h
      refine .weak (Imp.co [] _ _ ?_ ?_ ?_ ?_ ?_) (hx _ rfl) <;> simp only [wz, wd, ws, seval, wi, er_nil]
theorem f_octet_Wide_ok (n : Int) (size : Int) (y_ : Str × Int) (h : f_octet_Wide n size = some y_) : Fun Try.prog glP 58 [.b (.s (.d (.int .u64 n))), .b (.s (.d (.int .i64 size)))] (.tup [.s (.d (.str y_.1)), .s (.d (.int .i64 y_.2))]) := by
  refine fun_walk [] Try.func58 Try.ntmps58 cc58 cr58 (by kernel_rfl) (by simp only [List.length_cons, List.length_nil]; decide) ?_
  generalize hR : Ret _ _ _ _ _ = R_
  simp only [wz, wd, ws, seval]
  unfold f_octet_Wide at h; unfold c58
  refine .seq ?_
  refine Rw.walk ?_
  simp only [wz, wd, ws, seval, c58r0, semI.eq_10, semI.eq_11, semI.eq_3, semI.eq_5, semI.eq_7]
  refine .seq ?_
  refine .blk ?_
  refine .seq ?_
  refine Rw.walk ?_
  simp only [wz, wd, ws, seval, c58r1, semI.eq_10, semI.eq_11, semI.eq_3, semI.eq_5, semI.eq_7]
  repeat (refine And.intro ?_ ?_; · first | omega | (simp only [List.length_append, List.length_cons, List.length_nil] at *; omega) | (intro q; simp only [wz, wd, ws, seval, q]; done))
  refine .cond (p := ((decide (size < 0)) || (decide (size > 8)))) (by first | rfl | simp only [wz, wd, ws, seval]) (fun h1 => ?_) (fun h1 => ?_)
  · rw [ite_t h1] at h
    refine .seq ?_
    refine Rw.walk ?_
    simp only [wz, wd, ws, seval, c58r2, semI.eq_10, semI.eq_11, semI.eq_3, semI.eq_5, semI.eq_7]
    obtain rfl := Option.some.inj h
    refine .ret ?_
    rw [← hR]
    simp only [wz, wd, ws, seval, rv58]
  · rw [ite_f h1] at h
    refine .seq ?_
    refine Rw.walk ?_
    obtain ⟨g1, h⟩ := gd_iff.1 h
    simp only [wz, wd, ws, seval, c58r3, semI.eq_10, semI.eq_11, semI.eq_3, semI.eq_5, semI.eq_7]
    repeat (refine And.intro ?_ ?_; · first | omega | exact g1 | (intro q; first | omega | (have q2 := g1 (by simpa using q); omega) | (have q2 := g1 q; omega) | (have q2 := g1 (by simpa using q); simp only [List.length_append, List.length_cons, List.length_nil] at q2 ⊢; omega)) | (simp only [List.length_append, List.length_cons, List.length_nil] at *; omega) | (intro q; simp only [wz, wd, ws, seval, q]; done))
    refine .cond (p := ((decide (size < 8)) && ((n.fdiv (2 ^ (min (IntKind.i64.wrap (8 * size)).toNat IntKind.u64.bits))) != 0))) (by first | rfl | simp only [wz, wd, ws, seval]) (fun h1 => ?_) (fun h1 => ?_)
    · rw [ite_t h1] at h
      refine .seq ?_
      refine Rw.walk ?_
      simp only [wz, wd, ws, seval, c58r4, semI.eq_10, semI.eq_11, semI.eq_3, semI.eq_5, semI.eq_7]
      obtain rfl := Option.some.inj h
      refine .ret ?_
      rw [← hR]
      simp only [wz, wd, ws, seval, rv58]
    · rw [ite_f h1] at h
      refine .skip ?_
      refine .eblk ?_
      refine .seq ?_
      refine Rw.walk ?_
      simp only [wz, wd, ws, seval, c58r5, semI.eq_10, semI.eq_11, semI.eq_3, semI.eq_5, semI.eq_7]
      obtain ⟨g2, h⟩ := gd_iff.1 h
      repeat (refine And.intro ?_ ?_; · first | omega | (simp only [List.length_append, List.length_cons, List.length_nil] at *; omega) | (intro q; simp only [wz, wd, ws, seval, q]; done))
      refine Go1.of (sem_mksl (enc := (eI .u8)) (z1 := 0) (p := size) (q := size) (by rfl) (by rfl) (by rfl) (by rfl) (by rfl)) ?_
      simp only [wz, wd, ws, seval, c58r5, semI.eq_10, semI.eq_11, semI.eq_3, semI.eq_5, semI.eq_7]
      repeat (refine And.intro ?_ ?_; · first | omega | (simp only [List.length_append, List.length_cons, List.length_nil] at *; omega) | (intro q; simp only [wz, wd, ws, seval, q]; done))
      refine .seq ?_
      refine .seq ?_
      refine Rw.walk ?_
      simp only [wz, wd, ws, seval, c58r6, semI.eq_10, semI.eq_11, semI.eq_3, semI.eq_5, semI.eq_7]
      refine .blk ?_
      obtain ⟨s, hf, h⟩ := Option.bind_eq_some_iff.1 h
      refine .loop (.weak (Imp.co [] _ _ ?c1 ?c2 ?c3 ?c4 ?c5) (f_octet_Wide_l11_ok n size _ _ hR _ _ _ _ hf _ ?_))
      case c1 | c2 | c3 | c4 | c5 => simp only [wz, wd, ws, seval, wi, er_nil]
      · intro s_ hs; subst hs
        refine .seq ?_
        refine Rw.walk ?_
        simp only [wz, wd, ws, seval, c58r11, semI.eq_10, semI.eq_11, semI.eq_3, semI.eq_5, semI.eq_7]
        refine Go1.of (sem_b2s (n := s.2) (rowsV_own (m := s.2) (by rfl) (by rfl))) ?_
        simp only [wz, wd, ws, seval, c58r11, semI.eq_10, semI.eq_11, semI.eq_3, semI.eq_5, semI.eq_7]
        obtain rfl := Option.some.inj h
        refine .ret ?_
        rw [← hR]
        simp only [wz, wd, ws, seval, rv58]
-- 40 consignor/ledger.head
def c40r0 : List Opn := [
  ⟨(some 4), none, .mv (.c (.s (.d (.str []))))⟩]
def c40r1 : List Opn := [
  ⟨(some 11), none, .mv (.t 0)⟩, 
  ⟨(some 12), none, .cv (.toInt .u64) (.t 11)⟩, 
  ⟨(some 13), none, .call (.fn 58) [(.t 12), (.c (.s (.d (.int .i64 6))))]⟩, 
  ⟨(some 10), none, .mv (.t 13)⟩, 
  ⟨(some 14), none, .ext (.t 10) 0⟩, 
  ⟨(some 15), none, .ext (.t 10) 1⟩, 
  ⟨(some 5), none, .mv (.t 14)⟩, 
  ⟨(some 6), none, .mv (.t 15)⟩]
def c40r2 : List Opn := [
  ⟨(some 17), none, .mv (.t 1)⟩, 
  ⟨(some 18), none, .cv (.toInt .u64) (.t 17)⟩, 
  ⟨(some 19), none, .call (.fn 58) [(.t 18), (.c (.s (.d (.int .i64 3))))]⟩, 
  ⟨(some 16), none, .mv (.t 19)⟩, 
  ⟨(some 20), none, .ext (.t 16) 0⟩, 
  ⟨(some 21), none, .ext (.t 16) 1⟩, 
  ⟨(some 7), none, .mv (.t 20)⟩, 
  ⟨(some 8), none, .mv (.t 21)⟩]
def c40r3 : List Opn := [
  ⟨(some 22), none, .mv (.t 5)⟩, 
  ⟨(some 23), none, .bin .add (.c (.s (.d (.str [108, 101, 100])))) (.t 22)⟩, 
  ⟨(some 24), none, .mv (.t 7)⟩, 
  ⟨(some 25), none, .bin .add (.t 23) (.t 24)⟩, 
  ⟨(some 9), none, .mv (.t 25)⟩]
def c40r4 : List Opn := [
  ⟨(some 26), none, .mv (.t 9)⟩, 
  ⟨(some 27), none, .mv (.t 9)⟩, 
  ⟨(some 28), none, .len .str (.t 27)⟩, 
  ⟨(some 29), none, .bin .sub (.c (.s (.d (.int .i64 128)))) (.t 28)⟩, 
  ⟨(some 30), none, .call (.fn 57) [(.c (.s (.d (.str [0])))), (.t 29)]⟩, 
  ⟨(some 31), none, .bin .add (.t 26) (.t 30)⟩, 
  ⟨(some 4), none, .mv (.t 31)⟩]
def c40 : C := .seq (.reg c40r0 none [0, 1]) (.seq (.reg c40r1 none [1, 5]) (.seq (.reg c40r2 none [5, 7]) (.seq (.reg c40r3 none [9]) (.seq (.reg c40r4 none [4]) (.ret)))))
def k40 : List (Nat × List Nat) := [(4, [4]), (3, [9]), (2, [5, 7]), (1, [1, 5]), (0, [0, 1])]
theorem cc40 : (Try.f40.body).bind (cC Try.prog 32 k40) = some c40 := by kernel_rfl
def rv40 : List RV := [.t 4]
theorem cr40 : cRVs Try.prog Try.f40.results.toList = some rv40 := by kernel_rfl
theorem f_ledger_head_ok (gen : Int) (used : Int) (y_ : Str) (h : f_ledger_head gen used = some y_) : Fun Try.prog glP 40 [.b (.s (.d (.int .i64 gen))), .b (.s (.d (.int .i64 used)))] (.b (.s (.d (.str y_)))) := by
  refine fun_walk [] Try.func40 Try.ntmps40 cc40 cr40 (by kernel_rfl) (by simp only [List.length_cons, List.length_nil]; decide) ?_
  generalize hR : Ret _ _ _ _ _ = R_
  simp only [wz, wd, ws, seval]
  unfold f_ledger_head at h; unfold c40
  refine .seq ?_
  refine Rw.walk ?_
  simp only [wz, wd, ws, seval, c40r0, semI.eq_10, semI.eq_11, semI.eq_3, semI.eq_5, semI.eq_7]
  refine .seq ?_
  refine Rw.walk ?_
  simp only [wz, wd, ws, seval, c40r1, semI.eq_10, semI.eq_11, semI.eq_3, semI.eq_5, semI.eq_7]
  obtain ⟨t, e1, h⟩ := Option.bind_eq_some_iff.1 h
  refine call_fun [] false ⟨trivial, trivial, trivial, trivial⟩ rfl ?_ (f_octet_Wide_ok _ _ _ e1) (fun _ => rfl) (fun i hi => by cases hi) ?_
  · simp only [wz, wd, ws, seval]
  simp only [wz, wd, ws, seval, c40r1, semI.eq_10, semI.eq_11, semI.eq_3, semI.eq_5, semI.eq_7]
  refine .seq ?_
  refine Rw.walk ?_
  simp only [wz, wd, ws, seval, c40r2, semI.eq_10, semI.eq_11, semI.eq_3, semI.eq_5, semI.eq_7]
  obtain ⟨t2, e2, h⟩ := Option.bind_eq_some_iff.1 h
  refine call_fun [] false ⟨trivial, trivial, trivial, trivial⟩ rfl ?_ (f_octet_Wide_ok _ _ _ e2) (fun _ => rfl) (fun i hi => by cases hi) ?_
  · simp only [wz, wd, ws, seval]
  simp only [wz, wd, ws, seval, c40r2, semI.eq_10, semI.eq_11, semI.eq_3, semI.eq_5, semI.eq_7]
  refine .seq ?_
  refine Rw.walk ?_
  obtain ⟨g3, h⟩ := gd_iff.1 h
  obtain ⟨g4, h⟩ := gd_iff.1 h
  simp only [wz, wd, ws, seval, c40r3, semI.eq_10, semI.eq_11, semI.eq_3, semI.eq_5, semI.eq_7]
  repeat (refine And.intro ?_ ?_; · first | omega | (simp only [List.length_append, List.length_cons, List.length_nil] at *; omega) | (intro q; simp only [wz, wd, ws, seval, q]; done))
  refine .seq ?_
  refine Rw.walk ?_
  simp only [wz, wd, ws, seval, c40r4, semI.eq_10, semI.eq_11, semI.eq_3, semI.eq_5, semI.eq_7]
  obtain ⟨t3, e5, h⟩ := Option.bind_eq_some_iff.1 h
  refine call_fun [] false ⟨trivial, trivial, trivial, trivial⟩ rfl ?_ (f_strings_Repeat_ok _ _ _ e5) (fun _ => rfl) (fun i hi => by cases hi) ?_
  · simp only [wz, wd, ws, seval]
  simp only [wz, wd, ws, seval, c40r4, semI.eq_10, semI.eq_11, semI.eq_3, semI.eq_5, semI.eq_7]
  obtain ⟨g6, h⟩ := gd_iff.1 h
  repeat (refine And.intro ?_ ?_; · first | omega | (simp only [List.length_append, List.length_cons, List.length_nil] at *; omega) | (intro q; simp only [wz, wd, ws, seval, q]; done))
  obtain rfl := Option.some.inj h
  refine .ret ?_
  rw [← hR]
  simp only [wz, wd, ws, seval, rv40]
-- 32 consignor/ledger.tells
def c32r0 : List Opn := [
  ⟨(some 2), none, .box 2 (.t 0)⟩, 
  ⟨(some 4), none, .mv (.c (.s (.d (.int .i64 0))))⟩, 
  ⟨(some 5), none, .mv (.c (.s (.d (.int .i64 0))))⟩]
def c32r1 : List Opn := [
  ⟨(some 14), none, .load true 2 (.t 2)⟩, 
  ⟨(some 15), none, .mv (.t 1)⟩, 
  ⟨(some 16), none, .call (.fn 33) [(.t 14), (.t 15)]⟩, 
  ⟨(some 13), none, .mv (.t 16)⟩, 
  ⟨(some 17), none, .ext (.t 13) 0⟩, 
  ⟨(some 18), none, .ext (.t 13) 1⟩, 
  ⟨(some 6), none, .mv (.t 17)⟩, 
  ⟨(some 7), none, .mv (.t 18)⟩]
def c32r2 : List Opn := [
  ⟨(some 19), none, .fadr 0 (.t 2)⟩, 
  ⟨(some 20), none, .load false 1 (.t 19)⟩, 
  ⟨(some 21), none, .mv (.t 6)⟩, 
  ⟨(some 22), none, .iadr (.sl 1) (.t 20) (.t 21)⟩, 
  ⟨(some 23), none, .load false 1 (.t 22)⟩, 
  ⟨(some 8), none, .mv (.t 23)⟩]
def c32r3 : List Opn := [
  ⟨(some 25), none, .mv (.t 8)⟩, 
  ⟨(some 26), none, .slc .str (.t 25) (some (.c (.s (.d (.int .i64 3))))) (some (.c (.s (.d (.int .i64 9))))) none⟩, 
  ⟨(some 27), none, .call (.fn 52) [(.t 26)]⟩, 
  ⟨(some 24), none, .mv (.t 27)⟩, 
  ⟨(some 28), none, .ext (.t 24) 0⟩, 
  ⟨(some 29), none, .ext (.t 24) 1⟩, 
  ⟨(some 9), none, .mv (.t 28)⟩, 
  ⟨(some 10), none, .mv (.t 29)⟩]
def c32r4 : List Opn := [
  ⟨(some 31), none, .mv (.t 8)⟩, 
  ⟨(some 32), none, .slc .str (.t 31) (some (.c (.s (.d (.int .i64 9))))) (some (.c (.s (.d (.int .i64 12))))) none⟩, 
  ⟨(some 33), none, .call (.fn 52) [(.t 32)]⟩, 
  ⟨(some 30), none, .mv (.t 33)⟩, 
  ⟨(some 34), none, .ext (.t 30) 0⟩, 
  ⟨(some 35), none, .ext (.t 30) 1⟩, 
  ⟨(some 11), none, .mv (.t 34)⟩, 
  ⟨(some 12), none, .mv (.t 35)⟩]
def c32r5 : List Opn := [
  ⟨(some 36), none, .mv (.t 9)⟩, 
  ⟨(some 37), none, .bin .lss (.t 36) (.c (.s (.d (.int .u64 1))))⟩, 
  ⟨(some 38), none, .mv (.t 37)⟩, 
  ⟨(some 39), some (38, false), .mv (.t 9)⟩, 
  ⟨(some 40), some (38, false), .bin .gtr (.t 39) (.c (.s (.d (.int .u64 1099511627776))))⟩, 
  ⟨(some 41), none, .pick (.t 38) (.c (.s (.d (.bool true)))) (.t 40)⟩, 
  ⟨(some 42), none, .mv (.t 41)⟩, 
  ⟨(some 43), some (42, false), .mv (.t 11)⟩, 
  ⟨(some 44), some (42, false), .mv (.t 7)⟩, 
  ⟨(some 45), some (42, false), .len .str (.t 44)⟩, 
  ⟨(some 46), some (42, false), .cv (.toInt .u64) (.t 45)⟩, 
  ⟨(some 47), some (42, false), .bin .gtr (.t 43) (.t 46)⟩, 
  ⟨(some 48), none, .pick (.t 42) (.c (.s (.d (.bool true)))) (.t 47)⟩, 
  ⟨(some 49), none, .mv (.t 48)⟩, 
  ⟨(some 50), some (49, false), .mv (.t 9)⟩, 
  ⟨(some 51), some (49, false), .cv (.toInt .i64) (.t 50)⟩, 
  ⟨(some 52), some (49, false), .mv (.t 11)⟩, 
  ⟨(some 53), some (49, false), .cv (.toInt .i64) (.t 52)⟩, 
  ⟨(some 54), some (49, false), .call (.fn 40) [(.t 51), (.t 53)]⟩, 
  ⟨(some 55), some (49, false), .mv (.t 8)⟩, 
  ⟨(some 56), some (49, false), .bin .neq (.t 54) (.t 55)⟩, 
  ⟨(some 57), none, .pick (.t 49) (.c (.s (.d (.bool true)))) (.t 56)⟩]
def c32r6 : List Opn := [
  ⟨(some 4), none, .mv (.c (.s (.d (.int .i64 0))))⟩, 
  ⟨(some 5), none, .mv (.c (.s (.d (.int .i64 0))))⟩]
def c32r7 : List Opn := [
  ⟨(some 58), none, .mv (.t 9)⟩, 
  ⟨(some 59), none, .cv (.toInt .i64) (.t 58)⟩, 
  ⟨(some 60), none, .mv (.t 11)⟩, 
  ⟨(some 61), none, .cv (.toInt .i64) (.t 60)⟩, 
  ⟨(some 4), none, .mv (.t 59)⟩, 
  ⟨(some 5), none, .mv (.t 61)⟩]
def c32 : C := .seq (.reg c32r0 none [1, 2]) (.seq (.reg c32r1 none [2, 6, 7]) (.seq (.reg c32r2 none [7, 8]) (.seq (.reg c32r3 none [7, 8, 9]) (.seq (.reg c32r4 none [7, 8, 9, 11]) (.seq (.seq (.reg c32r5 none [9, 11, 57]) (.cond (.t 57) (.seq (.reg c32r6 none [4, 5]) (.ret)) (.skip))) (.seq (.reg c32r7 none [4, 5]) (.ret)))))))
def k32 : List (Nat × List Nat) := [(7, [4, 5]), (6, [4, 5]), (5, [9, 11, 57]), (4, [7, 8, 9, 11]), (3, [7, 8, 9]), (2, [7, 8]), (1, [2, 6, 7]), (0, [1, 2])]
theorem cc32 : (Try.f32.body).bind (cC Try.prog 62 k32) = some c32 := by kernel_rfl
def rv32 : List RV := [.t 4, .t 5]
theorem cr32 : cRVs Try.prog Try.f32.results.toList = some rv32 := by kernel_rfl
theorem f_ledger_tells_ok (d : api_Disk) (half : Int) (y_ : Int × Int) (h : f_ledger_tells d half = some y_) : Fun Try.prog glP 32 [.b (.agg ((e_api_Disk d).map Lc.d)), .b (.s (.d (.int .i64 half)))] (.tup [.s (.d (.int .i64 y_.1)), .s (.d (.int .i64 y_.2))]) := by
  refine fun_walk [] Try.func32 Try.ntmps32 cc32 cr32 (by kernel_rfl) (by simp only [List.length_cons, List.length_nil]; decide) ?_
  generalize hR : Ret _ _ _ _ _ = R_
  simp only [wz, wd, ws, seval, e_api_Disk, e_api_Write]
  unfold f_ledger_tells at h; unfold c32
  refine .seq ?_
  refine Rw.walk ?_
  simp only [wz, wd, ws, seval, c32r0, semI.eq_10, semI.eq_11, semI.eq_3, semI.eq_5, semI.eq_7, e_api_Disk, e_api_Write]
  refine .seq ?_
  refine Rw.walk ?_
  simp only [wz, wd, ws, seval, c32r1, semI.eq_10, semI.eq_11, semI.eq_3, semI.eq_5, semI.eq_7, e_api_Disk, e_api_Write]
  obtain ⟨t, e1, h⟩ := Option.bind_eq_some_iff.1 h
  refine call_fun [] false ⟨trivial, trivial, trivial, trivial⟩ rfl ?_ (f_ledger_room_ok _ _ _ e1) (fun _ => rfl) (fun i hi => by cases hi) ?_
  · simp only [wz, wd, ws, seval, e_api_Disk, e_api_Write]
  simp only [wz, wd, ws, seval, c32r1, semI.eq_10, semI.eq_11, semI.eq_3, semI.eq_5, semI.eq_7, e_api_Disk, e_api_Write]
  refine .seq ?_
  refine Rw.walk ?_
  simp only [wz, wd, ws, seval, c32r2, semI.eq_10, semI.eq_11, semI.eq_3, semI.eq_5, semI.eq_7, e_api_Disk, e_api_Write]
  obtain ⟨x, e2, h⟩ := Option.bind_eq_some_iff.1 h
  refine Go1.of (sem_iadr eS_len e2 (by rfl) (by rfl)) ?_
  simp only [wz, wd, ws, seval, c32r2, semI.eq_10, semI.eq_11, semI.eq_3, semI.eq_5, semI.eq_7, e_api_Disk, e_api_Write]
  refine .seq ?_
  refine Rw.walk ?_
  obtain ⟨g3, h⟩ := gd_iff.1 h
  simp only [wz, wd, ws, seval, c32r3, semI.eq_10, semI.eq_11, semI.eq_3, semI.eq_5, semI.eq_7, e_api_Disk, e_api_Write]
  repeat (refine And.intro ?_ ?_; · first | omega | (simp only [List.length_append, List.length_cons, List.length_nil] at *; omega) | (intro q; simp only [wz, wd, ws, seval, q]; done))
  obtain ⟨t2, e4, h⟩ := Option.bind_eq_some_iff.1 h
  refine call_fun [] false ⟨trivial, trivial, trivial⟩ rfl ?_ (f_octet_Whole_ok _ _ e4) (fun _ => rfl) (fun i hi => by cases hi) ?_
  · simp only [wz, wd, ws, seval, e_api_Disk, e_api_Write]
  simp only [wz, wd, ws, seval, c32r3, semI.eq_10, semI.eq_11, semI.eq_3, semI.eq_5, semI.eq_7, e_api_Disk, e_api_Write]
  refine .seq ?_
  refine Rw.walk ?_
  obtain ⟨g5, h⟩ := gd_iff.1 h
  simp only [wz, wd, ws, seval, c32r4, semI.eq_10, semI.eq_11, semI.eq_3, semI.eq_5, semI.eq_7, e_api_Disk, e_api_Write]
  repeat (refine And.intro ?_ ?_; · first | omega | (simp only [List.length_append, List.length_cons, List.length_nil] at *; omega) | (intro q; simp only [wz, wd, ws, seval, q]; done))
  obtain ⟨t3, e6, h⟩ := Option.bind_eq_some_iff.1 h
  refine call_fun [] false ⟨trivial, trivial, trivial⟩ rfl ?_ (f_octet_Whole_ok _ _ e6) (fun _ => rfl) (fun i hi => by cases hi) ?_
  · simp only [wz, wd, ws, seval, e_api_Disk, e_api_Write]
  simp only [wz, wd, ws, seval, c32r4, semI.eq_10, semI.eq_11, semI.eq_3, semI.eq_5, semI.eq_7, e_api_Disk, e_api_Write]
  refine .seq ?_
  refine .seq ?_
  refine Rw.walk ?_
  simp only [wz, wd, ws, seval, c32r5, semI.eq_10, semI.eq_11, semI.eq_3, semI.eq_5, semI.eq_7, e_api_Disk, e_api_Write]
  repeat (refine And.intro ?_ ?_; · first | omega | (simp only [List.length_append, List.length_cons, List.length_nil] at *; omega) | (intro q; simp only [wz, wd, ws, seval, q]; done))
  obtain ⟨t4, e7, h⟩ := Option.bind_eq_some_iff.1 h
  refine call_funG [] rfl (by simp only [wz, wd, ws, seval]) rfl ?_ (fun q => (f_ledger_head_ok _ _ _ (gx_iff e7 (by simpa using q)))) rfl (fun i hi => by cases hi) ?_
  · simp only [wz, wd, ws, seval, e_api_Disk, e_api_Write]
  simp only [wz, wd, ws, seval, c32r5, semI.eq_10, semI.eq_11, semI.eq_3, semI.eq_5, semI.eq_7, e_api_Disk, e_api_Write]
  repeat (refine And.intro ?_ ?_; · first | omega | (simp only [List.length_append, List.length_cons, List.length_nil] at *; omega) | (intro q; simp only [wz, wd, ws, seval, q]; done))
  refine .cond (p := ((((decide (t2.1 < 1)) || (decide (t2.1 > 1099511627776))) || (decide (t3.1 > (IntKind.u64.wrap (t.2.length : Int))))) || (!(t4 == x)))) (by first | rfl | simp only [wz, wd, ws, seval]) (fun h1 => ?_) (fun h1 => ?_)
  · rw [ite_t h1] at h
    refine .seq ?_
    refine Rw.walk ?_
    simp only [wz, wd, ws, seval, c32r6, semI.eq_10, semI.eq_11, semI.eq_3, semI.eq_5, semI.eq_7, e_api_Disk, e_api_Write]
    obtain rfl := Option.some.inj h
    refine .ret ?_
    rw [← hR]
    simp only [wz, wd, ws, seval, rv32, e_api_Disk, e_api_Write]
  · rw [ite_f h1] at h
    refine .skip ?_
    refine .seq ?_
    refine Rw.walk ?_
    simp only [wz, wd, ws, seval, c32r7, semI.eq_10, semI.eq_11, semI.eq_3, semI.eq_5, semI.eq_7, e_api_Disk, e_api_Write]
    obtain rfl := Option.some.inj h
    refine .ret ?_
    rw [← hR]
    simp only [wz, wd, ws, seval, rv32, e_api_Disk, e_api_Write]
-- 34 consignor/ledger.entries
def c34r0 : List Opn := [
  ⟨(some 2), none, .mv (.c (.s .nils))⟩, 
  ⟨(some 3), none, .mv (.c (.s (.d (.bool false))))⟩]
def c34r1 : List Opn := [
  ⟨(some 4), none, .mv (.c (.s .nils))⟩]
def c34r2 : List Opn := [
  ⟨(some 7), none, .mv (.t 0)⟩, 
  ⟨(some 8), none, .bin .neq (.t 7) (.c (.s (.d (.str []))))⟩]
def c34r3 : List Opn := [
  ⟨(some 9), none, .mv (.t 0)⟩, 
  ⟨(some 10), none, .len .str (.t 9)⟩, 
  ⟨(some 11), none, .bin .lss (.t 10) (.c (.s (.d (.int .i64 2))))⟩]
def c34r4 : List Opn := [
  ⟨(some 2), none, .mv (.c (.s .nils))⟩, 
  ⟨(some 3), none, .mv (.c (.s (.d (.bool false))))⟩]
def c34r5 : List Opn := [
  ⟨(some 13), none, .mv (.t 0)⟩, 
  ⟨(some 14), none, .slc .str (.t 13) none (some (.c (.s (.d (.int .i64 2))))) none⟩, 
  ⟨(some 15), none, .call (.fn 52) [(.t 14)]⟩, 
  ⟨(some 12), none, .mv (.t 15)⟩, 
  ⟨(some 16), none, .ext (.t 12) 0⟩, 
  ⟨(some 17), none, .ext (.t 12) 1⟩, 
  ⟨(some 5), none, .mv (.t 16)⟩, 
  ⟨(some 6), none, .mv (.t 17)⟩]
def c34r6 : List Opn := [
  ⟨(some 18), none, .mv (.t 0)⟩, 
  ⟨(some 19), none, .slc .str (.t 18) (some (.c (.s (.d (.int .i64 2))))) none none⟩, 
  ⟨(some 0), none, .mv (.t 19)⟩]
def c34r7 : List Opn := [
  ⟨(some 20), none, .mv (.t 5)⟩, 
  ⟨(some 21), none, .bin .gtr (.t 20) (.c (.s (.d (.int .u64 4096))))⟩, 
  ⟨(some 22), none, .mv (.t 21)⟩, 
  ⟨(some 23), some (22, false), .mv (.t 5)⟩, 
  ⟨(some 24), some (22, false), .mv (.t 0)⟩, 
  ⟨(some 25), some (22, false), .len .str (.t 24)⟩, 
  ⟨(some 26), some (22, false), .cv (.toInt .u64) (.t 25)⟩, 
  ⟨(some 27), some (22, false), .bin .gtr (.t 23) (.t 26)⟩, 
  ⟨(some 28), none, .pick (.t 22) (.c (.s (.d (.bool true)))) (.t 27)⟩]
def c34r8 : List Opn := [
  ⟨(some 2), none, .mv (.c (.s .nils))⟩, 
  ⟨(some 3), none, .mv (.c (.s (.d (.bool false))))⟩]
def c34r9 : List Opn := [
  ⟨(some 29), none, .mv (.t 4)⟩, 
  ⟨(some 30), none, .mv (.t 0)⟩, 
  ⟨(some 31), none, .mv (.t 5)⟩, 
  ⟨(some 32), none, .slc .str (.t 30) none (some (.t 31)) none⟩, 
  ⟨(some 33), none, .bsl 1 [(.t 32)]⟩, 
  ⟨(some 34), none, .app 1 16 false (.t 29) (.t 33)⟩, 
  ⟨(some 35), none, .mv (.t 0)⟩, 
  ⟨(some 36), none, .mv (.t 5)⟩, 
  ⟨(some 37), none, .slc .str (.t 35) (some (.t 36)) none none⟩, 
  ⟨(some 4), none, .mv (.t 34)⟩, 
  ⟨(some 0), none, .mv (.t 37)⟩]
def c34l10 : C := .seq (.seq (.reg c34r2 none [0, 4, 8]) (.cond (.t 8) (.skip) (.exit 0))) (.blk 1 (.seq (.seq (.reg c34r3 none [0, 4, 11]) (.cond (.t 11) (.seq (.reg c34r4 none [2, 3]) (.ret)) (.skip))) (.seq (.reg c34r5 none [0, 4, 5]) (.seq (.seq (.reg c34r6 none [0, 4, 5]) (.seq (.reg c34r7 none [0, 4, 5, 28]) (.cond (.t 28) (.seq (.reg c34r8 none [2, 3]) (.ret)) (.skip)))) (.reg c34r9 (some [0, 0, 0, 6, 14, 31, 0, 0, 192, 63, 1023]) [0, 4])))))
def c34r10 : List Opn := [
  ⟨(some 38), none, .mv (.t 4)⟩, 
  ⟨(some 2), none, .mv (.t 38)⟩, 
  ⟨(some 3), none, .mv (.c (.s (.d (.bool true))))⟩]
def c34 : C := .seq (.reg c34r0 none [0]) (.seq (.reg c34r1 none [0, 4]) (.seq (.blk 0 (.loop c34l10)) (.seq (.reg c34r10 none [2, 3]) (.ret))))
def k34 : List (Nat × List Nat) := [(10, [2, 3]), (9, [0, 4]), (8, [2, 3]), (7, [0, 4, 5, 28]), (6, [0, 4, 5]), (5, [0, 4, 5]), (4, [2, 3]), (3, [0, 4, 11]), (2, [0, 4, 8]), (1, [0, 4]), (0, [0])]
theorem cc34 : (Try.f34.body).bind (cC Try.prog 39 k34) = some c34 := by kernel_rfl
def rv34 : List RV := [.t 2, .t 3]
theorem cr34 : cRVs Try.prog Try.f34.results.toList = some rv34 := by kernel_rfl
theorem f_ledger_entries_l10_ok (s : Str) (y_ : (List Str) × Bool) (R_ : St → Prop) (hR : (Ret Try.prog glP [34] rv34 (.tup [.s (.d (.sl (y_.1.map eS))), .s (.d (.bool y_.2))])) = R_) : ∀ (m_ : Nat) (s2 : Str) (out : (List Str)) (res_ : (Str × (List Str)) ⊕ ((List Str) × Bool)) (h : f_ledger_entries_l10 s m_ s2 out = some res_) (k_ : List It) (hx : ∀ s_ : Str × (List Str), res_ = .inl s_ → W Try.prog glP 39 k_ ⟨lkT [(0, .b (.s (.d (.str s_.1)))), (4, .b (.s (.own 34 s_.2.length)))], lkG [(34, ⟨1, er eS s_.2, false⟩)]⟩ R_) (hr : ∀ z_ : (List Str) × Bool, res_ = .inr z_ → z_ = y_), W Try.prog glP 39 (.c c34l10 :: .lp c34l10 :: .blk 0 :: k_) ⟨lkT [(0, .b (.s (.d (.str s2)))), (4, .b (.s (.own 34 out.length)))], lkG [(34, ⟨1, er eS out, false⟩)]⟩ R_ := by
  intro m_; induction m_ with
  | zero => intro s2 out res_ h; rw [f_ledger_entries_l10.eq_1] at h; cases h
  | succ m_ ih =>
    intro s2 out res_ h k_ hx hr; rw [f_ledger_entries_l10.eq_2] at h; refine W.cdef c34l10.eq_1 ?_
    refine .seq ?_
    refine .seq ?_
    refine Rw.walk ?_
    simp only [wz, wd, ws, seval, c34r2, semI.eq_10, semI.eq_11, semI.eq_3, semI.eq_5, semI.eq_7]
    refine .cond (p := (!(s2 == ([] : Str)))) (by first | rfl | simp only [wz, wd, ws, seval]) (fun h1 => ?_) (fun h1 => ?_)
    · rw [ite_t h1] at h
      refine .skip ?_
      refine .blk ?_
      refine .seq ?_
      refine .seq ?_
      refine Rw.walk ?_
      simp only [wz, wd, ws, seval, c34r3, semI.eq_10, semI.eq_11, semI.eq_3, semI.eq_5, semI.eq_7]
      refine .cond (p := (decide ((s2.length : Int) < 2))) (by first | rfl | simp only [wz, wd, ws, seval]) (fun h1 => ?_) (fun h1 => ?_)
      · rw [ite_t h1] at h
        refine .seq ?_
        refine Rw.walk ?_
        simp only [wz, wd, ws, seval, c34r4, semI.eq_10, semI.eq_11, semI.eq_3, semI.eq_5, semI.eq_7]
        obtain rfl := Option.some.inj h; obtain rfl := hr _ rfl
        refine .ret ?_
        rw [← hR]
        simp only [wz, wd, ws, seval, rv34]
      · rw [ite_f h1] at h
        refine .skip ?_
        refine .seq ?_
        refine Rw.walk ?_
        obtain ⟨g1, h⟩ := gd_iff.1 h
        simp only [wz, wd, ws, seval, c34r5, semI.eq_10, semI.eq_11, semI.eq_3, semI.eq_5, semI.eq_7]
        repeat (refine And.intro ?_ ?_; · first | omega | (simp only [List.length_append, List.length_cons, List.length_nil] at *; omega) | (intro q; simp only [wz, wd, ws, seval, q]; done))
        obtain ⟨t, e2, h⟩ := Option.bind_eq_some_iff.1 h
        refine call_fun [] false ⟨trivial, trivial, trivial⟩ rfl ?_ (f_octet_Whole_ok _ _ e2) (fun _ => rfl) (fun i hi => by cases hi) ?_
        · simp only [wz, wd, ws, seval]
        simp only [wz, wd, ws, seval, c34r5, semI.eq_10, semI.eq_11, semI.eq_3, semI.eq_5, semI.eq_7]
        refine .seq ?_
        refine .seq ?_
        refine Rw.walk ?_
        obtain ⟨g3, h⟩ := gd_iff.1 h
        simp only [wz, wd, ws, seval, c34r6, semI.eq_10, semI.eq_11, semI.eq_3, semI.eq_5, semI.eq_7]
        repeat (refine And.intro ?_ ?_; · first | omega | (simp only [List.length_append, List.length_cons, List.length_nil] at *; omega) | (intro q; simp only [wz, wd, ws, seval, q]; done))
        refine .seq ?_
        refine Rw.walk ?_
        simp only [wz, wd, ws, seval, c34r7, semI.eq_10, semI.eq_11, semI.eq_3, semI.eq_5, semI.eq_7]
        repeat (refine And.intro ?_ ?_; · first | omega | (simp only [List.length_append, List.length_cons, List.length_nil] at *; omega) | (intro q; simp only [wz, wd, ws, seval, q]; done))
        refine .cond (p := ((decide (t.1 > 4096)) || (decide (t.1 > (IntKind.u64.wrap ((cut s2 2 (s2.length : Int)).length : Int)))))) (by first | rfl | simp only [wz, wd, ws, seval]) (fun h1 => ?_) (fun h1 => ?_)
        · rw [ite_t h1] at h
          refine .seq ?_
          refine Rw.walk ?_
          simp only [wz, wd, ws, seval, c34r8, semI.eq_10, semI.eq_11, semI.eq_3, semI.eq_5, semI.eq_7]
          obtain rfl := Option.some.inj h; obtain rfl := hr _ rfl
          refine .ret ?_
          rw [← hR]
          simp only [wz, wd, ws, seval, rv34]
        · rw [ite_f h1] at h
          refine .skip ?_
          refine RwD.walk ?_
          obtain ⟨g4, h⟩ := gd_iff.1 h
          simp only [wz, wd, ws, seval, c34r9, semI.eq_10, semI.eq_11, semI.eq_3, semI.eq_5, semI.eq_7]
          repeat (refine And.intro ?_ ?_; · first | omega | (simp only [List.length_append, List.length_cons, List.length_nil] at *; omega) | (intro q; simp only [wz, wd, ws, seval, q]; done))
          refine GoD1.of (sem_bsl (enc := eS) (m := ([(cut (cut s2 2 (s2.length : Int)) 0 t.1)] : List Str)) eS_len (by rfl) (by rfl) (by rfl) ⟨trivial, trivial⟩) ?_
          simp only [wz, wd, ws, seval, c34r9, semI.eq_10, semI.eq_11, semI.eq_3, semI.eq_5, semI.eq_7]
          obtain ⟨g5, h⟩ := gd_iff.1 h
          refine GoD1.of (sem_app (enc := eS) (l := out) (m := ([(cut (cut s2 2 (s2.length : Int)) 0 t.1)] : List Str)) eS_len (by rfl) (by rfl) (newV_own (m := ([(cut (cut s2 2 (s2.length : Int)) 0 t.1)] : List Str)) (by rfl) (by rfl))) ?_
          simp only [wz, wd, ws, seval, c34r9, semI.eq_10, semI.eq_11, semI.eq_3, semI.eq_5, semI.eq_7]
          obtain ⟨g6, h⟩ := gd_iff.1 h
          repeat (refine And.intro ?_ ?_; · first | omega | (simp only [List.length_append, List.length_cons, List.length_nil] at *; omega) | (intro q; simp only [wz, wd, ws, seval, q]; done))
          refine .eblk ?_
          refine .lp ?_
          refine .weak (Imp.co [] _ _ ?_ ?_ ?_ ?_ ?_) (ih (cut (cut s2 2 (s2.length : Int)) t.1 ((cut s2 2 (s2.length : Int)).length : Int)) (out ++ ([(cut (cut s2 2 (s2.length : Int)) 0 t.1)] : List Str)) _ h k_ hx hr) <;> simp only [wz, wd, ws, seval, wi, er_nil]
    · rw [ite_f h1] at h
      refine .exit rfl ?_
      obtain rfl := Option.some.inj h
      refine .weak (Imp.co [] _ _ ?_ ?_ ?_ ?_ ?_) (hx _ rfl) <;> simp only [wz, wd, ws, seval, wi, er_nil]
theorem f_ledger_entries_ok (s : Str) (y_ : (List Str) × Bool) (h : f_ledger_entries s = some y_) : Fun Try.prog glP 34 [.b (.s (.d (.str s)))] (.tup [.s (.d (.sl (y_.1.map eS))), .s (.d (.bool y_.2))]) := by
  refine fun_walk [34] Try.func34 Try.ntmps34 cc34 cr34 (by kernel_rfl) (by simp only [List.length_cons, List.length_nil]; decide) ?_
  generalize hR : Ret _ _ _ _ _ = R_
  simp only [wz, wd, ws, seval]
  unfold f_ledger_entries at h; unfold c34
  refine .seq ?_
  refine Rw.walk ?_
  simp only [wz, wd, ws, seval, c34r0, semI.eq_10, semI.eq_11, semI.eq_3, semI.eq_5, semI.eq_7]
  refine .seq ?_
  refine Rw.walk ?_
  simp only [wz, wd, ws, seval, c34r1, semI.eq_10, semI.eq_11, semI.eq_3, semI.eq_5, semI.eq_7]
  refine .seq ?_
  refine .blk ?_
  obtain ⟨s2, hf, h⟩ := Option.bind_eq_some_iff.1 h
  refine .weak (Imp.adoptN 4 34 1 rfl rfl) ?_
  simp only [wz, wd, ws, seval]
  refine .loop (.weak (Imp.co [] _ _ ?c1 ?c2 ?c3 ?c4 ?c5) (f_ledger_entries_l10_ok s _ _ hR _ _ _ _ hf _ ?_ ?_))
  case c1 | c2 | c3 | c4 | c5 => simp only [wz, wd, ws, seval, wi, er_nil]
  · intro s3 hs; subst hs; dsimp only at h
    refine .seq ?_
    refine Rw.walk ?_
    simp only [wz, wd, ws, seval, c34r10, semI.eq_10, semI.eq_11, semI.eq_3, semI.eq_5, semI.eq_7]
    obtain rfl := Option.some.inj h
    refine .ret ?_
    rw [← hR]
    simp only [wz, wd, ws, seval, rv34]
  · intro z hz; subst hz; dsimp only at h
    exact Option.some.inj h
-- 10 consignor/ledger.Open
def c10r0 : List Opn := [
  ⟨(some 1), none, .box 2 (.t 0)⟩, 
  ⟨(some 2), none, .new [.nils, .nils, (.d (.int .i64 0)), (.d (.int .i64 0)), (.d (.int .i64 0)), .nils]⟩, 
  ⟨(some 3), none, .mv (.c (.s (.d (.int .i64 0))))⟩]
def c10r1 : List Opn := [
  ⟨(some 12), none, .load true 2 (.t 1)⟩, 
  ⟨(some 13), none, .call (.fn 31) [(.t 12)]⟩, 
  ⟨(some 14), none, .un .not (.t 13)⟩, 
  ⟨(some 15), none, .mv (.t 14)⟩, 
  ⟨(some 16), some (15, false), .fadr 1 (.t 1)⟩, 
  ⟨(some 17), some (15, false), .load false 1 (.t 16)⟩, 
  ⟨(some 18), some (15, false), .len (.sl 0) (.t 17)⟩, 
  ⟨(some 19), some (15, false), .bin .gtr (.t 18) (.c (.s (.d (.int .i64 0))))⟩, 
  ⟨(some 20), none, .pick (.t 15) (.c (.s (.d (.bool true)))) (.t 19)⟩]
def c10r2 : List Opn := [
  ⟨(some 21), none, .build [.nils, .nils, (.d (.int .i64 0)), (.d (.int .i64 0)), (.d (.int .i64 0)), .nils] []⟩, 
  ⟨none, none, .store 6 (.t 2) (.t 21)⟩, 
  ⟨(some 3), none, .mv (.c (.s (.d (.int .i64 1))))⟩]
def c10r3 : List Opn := [
  ⟨(some 22), none, .load true 2 (.t 1)⟩, 
  ⟨(some 23), none, .build [.nils, .nils, (.d (.int .i64 0)), (.d (.int .i64 0)), (.d (.int .i64 0)), .nils] [(0, 2, (.t 22))]⟩, 
  ⟨(some 4), none, .new [.nils, .nils, (.d (.int .i64 0)), (.d (.int .i64 0)), (.d (.int .i64 0)), .nils]⟩, 
  ⟨none, none, .store 6 (.t 4) (.t 23)⟩]
def c10r4 : List Opn := [
  ⟨(some 24), none, .mv (.c (.s (.d (.int .i64 0))))⟩]
def c10r5 : List Opn := [
  ⟨(some 25), none, .bin .lss (.t 24) (.c (.s (.d (.int .i64 2))))⟩]
def c10r6 : List Opn := [
  ⟨(some 26), none, .mv (.t 24)⟩, 
  ⟨(some 5), none, .mv (.t 26)⟩]
def c10r7 : List Opn := [
  ⟨(some 28), none, .load true 2 (.t 1)⟩, 
  ⟨(some 29), none, .mv (.t 5)⟩, 
  ⟨(some 30), none, .call (.fn 32) [(.t 28), (.t 29)]⟩, 
  ⟨(some 27), none, .mv (.t 30)⟩, 
  ⟨(some 31), none, .ext (.t 27) 0⟩, 
  ⟨(some 32), none, .ext (.t 27) 1⟩, 
  ⟨(some 6), none, .mv (.t 31)⟩, 
  ⟨(some 7), none, .mv (.t 32)⟩]
def c10r8 : List Opn := [
  ⟨(some 33), none, .mv (.t 6)⟩, 
  ⟨(some 34), none, .fadr 3 (.t 4)⟩, 
  ⟨(some 35), none, .load false 1 (.t 34)⟩, 
  ⟨(some 36), none, .bin .gtr (.t 33) (.t 35)⟩]
def c10r9 : List Opn := [
  ⟨(some 37), none, .mv (.t 5)⟩, 
  ⟨(some 38), none, .mv (.t 6)⟩, 
  ⟨(some 39), none, .mv (.t 7)⟩, 
  ⟨(some 40), none, .fadr 2 (.t 4)⟩, 
  ⟨none, none, .store 1 (.t 40) (.t 37)⟩, 
  ⟨(some 41), none, .fadr 3 (.t 4)⟩, 
  ⟨none, none, .store 1 (.t 41) (.t 38)⟩, 
  ⟨(some 42), none, .fadr 4 (.t 4)⟩, 
  ⟨none, none, .store 1 (.t 42) (.t 39)⟩]
def c10r10 : List Opn := [
  ⟨(some 43), none, .bin .add (.t 24) (.c (.s (.d (.int .i64 1))))⟩, 
  ⟨(some 24), none, .mv (.t 43)⟩]
def c10l11 : C := .seq (.reg c10r5 none [1, 2, 4, 24, 25]) (.seq (.cond (.t 25) (.skip) (.exit 0)) (.seq (.blk 1 (.seq (.reg c10r6 none [1, 2, 4, 5, 24]) (.seq (.reg c10r7 none [1, 2, 4, 5, 6, 7, 24]) (.seq (.reg c10r8 none [1, 2, 4, 5, 6, 7, 24, 36]) (.cond (.t 36) (.reg c10r9 none [1, 2, 4, 24]) (.skip)))))) (.reg c10r10 none [1, 2, 4, 24])))
def c10r11 : List Opn := [
  ⟨(some 45), none, .load true 2 (.t 1)⟩, 
  ⟨(some 46), none, .fadr 2 (.t 4)⟩, 
  ⟨(some 47), none, .load false 1 (.t 46)⟩, 
  ⟨(some 48), none, .call (.fn 33) [(.t 45), (.t 47)]⟩, 
  ⟨(some 44), none, .mv (.t 48)⟩, 
  ⟨(some 49), none, .ext (.t 44) 0⟩, 
  ⟨(some 50), none, .ext (.t 44) 1⟩, 
  ⟨(some 8), none, .mv (.t 49)⟩, 
  ⟨(some 9), none, .mv (.t 50)⟩]
def c10r12 : List Opn := [
  ⟨(some 52), none, .mv (.t 9)⟩, 
  ⟨(some 53), none, .fadr 4 (.t 4)⟩, 
  ⟨(some 54), none, .load false 1 (.t 53)⟩, 
  ⟨(some 55), none, .slc .str (.t 52) none (some (.t 54)) none⟩, 
  ⟨(some 56), none, .call (.fn 34) [(.t 55)]⟩, 
  ⟨(some 51), none, .mv (.t 56)⟩, 
  ⟨(some 57), none, .ext (.t 51) 0⟩, 
  ⟨(some 58), none, .ext (.t 51) 1⟩, 
  ⟨(some 10), none, .mv (.t 57)⟩, 
  ⟨(some 11), none, .mv (.t 58)⟩]
def c10r13 : List Opn := [
  ⟨(some 59), none, .fadr 3 (.t 4)⟩, 
  ⟨(some 60), none, .load false 1 (.t 59)⟩, 
  ⟨(some 61), none, .bin .eql (.t 60) (.c (.s (.d (.int .i64 0))))⟩, 
  ⟨(some 62), none, .mv (.t 61)⟩, 
  ⟨(some 63), some (62, false), .mv (.t 11)⟩, 
  ⟨(some 64), some (62, false), .un .not (.t 63)⟩, 
  ⟨(some 65), none, .pick (.t 62) (.c (.s (.d (.bool true)))) (.t 64)⟩]
def c10r14 : List Opn := [
  ⟨(some 66), none, .build [.nils, .nils, (.d (.int .i64 0)), (.d (.int .i64 0)), (.d (.int .i64 0)), .nils] []⟩, 
  ⟨none, none, .store 6 (.t 2) (.t 66)⟩, 
  ⟨(some 3), none, .mv (.c (.s (.d (.int .i64 14))))⟩]
def c10r15 : List Opn := [
  ⟨(some 67), none, .mv (.t 10)⟩, 
  ⟨(some 68), none, .fadr 5 (.t 4)⟩, 
  ⟨none, none, .store 1 (.t 68) (.t 67)⟩]
def c10r16 : List Opn := [
  ⟨(some 69), none, .load true 6 (.t 4)⟩, 
  ⟨none, none, .store 6 (.t 2) (.t 69)⟩, 
  ⟨(some 3), none, .mv (.c (.s (.d (.int .i64 0))))⟩]
def c10 : C := .seq (.reg c10r0 none [1, 2]) (.seq (.seq (.reg c10r1 none [1, 2, 20]) (.cond (.t 20) (.seq (.reg c10r2 none [2, 3]) (.ret)) (.skip))) (.seq (.reg c10r3 none [1, 2, 4]) (.seq (.seq (.reg c10r4 none [1, 2, 4, 24]) (.blk 0 (.loop c10l11))) (.seq (.reg c10r11 none [2, 4, 9]) (.seq (.reg c10r12 none [2, 4, 10, 11]) (.seq (.seq (.reg c10r13 none [2, 4, 10, 65]) (.cond (.t 65) (.seq (.reg c10r14 none [2, 3]) (.ret)) (.skip))) (.seq (.reg c10r15 none [2, 4]) (.seq (.reg c10r16 none [2, 3]) (.ret)))))))))
def k10 : List (Nat × List Nat) := [(16, [2, 3]), (15, [2, 4]), (14, [2, 3]), (13, [2, 4, 10, 65]), (12, [2, 4, 10, 11]), (11, [2, 4, 9]), (10, [1, 2, 4, 24]), (9, [1, 2, 4, 24]), (8, [1, 2, 4, 5, 6, 7, 24, 36]), (7, [1, 2, 4, 5, 6, 7, 24]), (6, [1, 2, 4, 5, 24]), (5, [1, 2, 4, 24, 25]), (4, [1, 2, 4, 24]), (3, [1, 2, 4]), (2, [2, 3]), (1, [1, 2, 20]), (0, [1, 2])]
theorem cc10 : (Try.f10.body).bind (cC Try.prog 70 k10) = some c10 := by kernel_rfl
def rv10 : List RV := [.c 2 true 6, .t 3]
theorem cr10 : cRVs Try.prog Try.f10.results.toList = some rv10 := by kernel_rfl
theorem f_ledger_Open_l11_ok (d : api_Disk) (y_ : api_Ledger × Int) (R_ : St → Prop) (hR : (Ret Try.prog glP [] rv10 (.tup [.agg ((e_api_Ledger y_.1).map Lc.d), .s (.d (.int .i64 y_.2))])) = R_) : ∀ (m_ : Nat) (v24 : Int) (l : Int) (l2 : Int) (l3 : Int) (res_ : Int × Int × Int × Int) (h : f_ledger_Open_l11 d m_ v24 l l2 l3 = some res_) (k_ : List It) (hx : ∀ s_ : Int × Int × Int × Int, res_ = s_ → W Try.prog glP 70 k_ ⟨lkT [(1, .b (.s (.ptr 1 1 0 0))), (2, .b (.s (.ptr 2 1 0 0))), (4, .b (.s (.ptr 4 1 0 0))), (24, .b (.s (.d (.int .i64 s_.1))))], lkG [(1, ⟨2, [[(.d (.sl (d.Sectors.map eS))), (.d (.sl (d.Dirty.map e_api_Write)))]], false⟩), (2, ⟨6, [[.nils, .nils, (.d (.int .i64 0)), (.d (.int .i64 0)), (.d (.int .i64 0)), .nils]], false⟩), (4, ⟨6, [[(.d (.sl (d.Sectors.map eS))), (.d (.sl (d.Dirty.map e_api_Write))), (.d (.int .i64 s_.2.1)), (.d (.int .i64 s_.2.2.1)), (.d (.int .i64 s_.2.2.2)), .nils]], false⟩)]⟩ R_), W Try.prog glP 70 (.c c10l11 :: .lp c10l11 :: .blk 0 :: k_) ⟨lkT [(1, .b (.s (.ptr 1 1 0 0))), (2, .b (.s (.ptr 2 1 0 0))), (4, .b (.s (.ptr 4 1 0 0))), (24, .b (.s (.d (.int .i64 v24))))], lkG [(1, ⟨2, [[(.d (.sl (d.Sectors.map eS))), (.d (.sl (d.Dirty.map e_api_Write)))]], false⟩), (2, ⟨6, [[.nils, .nils, (.d (.int .i64 0)), (.d (.int .i64 0)), (.d (.int .i64 0)), .nils]], false⟩), (4, ⟨6, [[(.d (.sl (d.Sectors.map eS))), (.d (.sl (d.Dirty.map e_api_Write))), (.d (.int .i64 l)), (.d (.int .i64 l2)), (.d (.int .i64 l3)), .nils]], false⟩)]⟩ R_ := by
  intro m_; induction m_ with
  | zero => intro v24 l l2 l3 res_ h; rw [f_ledger_Open_l11.eq_1] at h; cases h
  | succ m_ ih =>
    intro v24 l l2 l3 res_ h k_ hx; rw [f_ledger_Open_l11.eq_2] at h; refine W.cdef c10l11.eq_1 ?_
    refine .seq ?_
    refine Rw.walk ?_
    simp only [wz, wd, ws, seval, c10r5, semI.eq_10, semI.eq_11, semI.eq_3, semI.eq_5, semI.eq_7, e_api_Ledger, e_api_Disk, e_api_Write]
    refine .seq ?_
    refine .cond (p := (decide (v24 < 2))) (by first | rfl | simp only [wz, wd, ws, seval]) (fun h1 => ?_) (fun h1 => ?_)
    · rw [ite_t h1] at h
      refine .skip ?_
      refine .seq ?_
      refine .blk ?_
      refine .seq ?_
      refine Rw.walk ?_
      simp only [wz, wd, ws, seval, c10r6, semI.eq_10, semI.eq_11, semI.eq_3, semI.eq_5, semI.eq_7, e_api_Ledger, e_api_Disk, e_api_Write]
      refine .seq ?_
      refine Rw.walk ?_
      simp only [wz, wd, ws, seval, c10r7, semI.eq_10, semI.eq_11, semI.eq_3, semI.eq_5, semI.eq_7, e_api_Ledger, e_api_Disk, e_api_Write]
      obtain ⟨t2, e2, h⟩ := Option.bind_eq_some_iff.1 h
      refine call_fun [] false ⟨trivial, trivial, trivial, trivial⟩ rfl ?_ (f_ledger_tells_ok _ _ _ e2) (fun _ => rfl) (fun i hi => by cases hi) ?_
      · simp only [wz, wd, ws, seval, e_api_Ledger, e_api_Disk, e_api_Write]
      simp only [wz, wd, ws, seval, c10r7, semI.eq_10, semI.eq_11, semI.eq_3, semI.eq_5, semI.eq_7, e_api_Ledger, e_api_Disk, e_api_Write]
      refine .seq ?_
      refine Rw.walk ?_
      simp only [wz, wd, ws, seval, c10r8, semI.eq_10, semI.eq_11, semI.eq_3, semI.eq_5, semI.eq_7, e_api_Ledger, e_api_Disk, e_api_Write]
      refine .cond (p := (decide (t2.1 > l2))) (by first | rfl | simp only [wz, wd, ws, seval]) (fun h1 => ?_) (fun h1 => ?_)
      · rw [ite_t h1] at h
        refine Rw.walk ?_
        simp only [wz, wd, ws, seval, c10r9, semI.eq_10, semI.eq_11, semI.eq_3, semI.eq_5, semI.eq_7, e_api_Ledger, e_api_Disk, e_api_Write]
        refine .eblk ?_
        refine Rw.walk ?_
        simp only [wz, wd, ws, seval, c10r10, semI.eq_10, semI.eq_11, semI.eq_3, semI.eq_5, semI.eq_7, e_api_Ledger, e_api_Disk, e_api_Write]
        refine .lp ?_
        refine .weak (Imp.co [] _ _ ?_ ?_ ?_ ?_ ?_) (ih (IntKind.i64.wrap (v24 + 1)) v24 t2.1 t2.2 _ h k_ hx) <;> simp only [wz, wd, ws, seval, wi, er_nil, e_api_Ledger, e_api_Disk, e_api_Write]
      · rw [ite_f h1] at h
        refine .skip ?_
        refine .eblk ?_
        refine Rw.walk ?_
        simp only [wz, wd, ws, seval, c10r10, semI.eq_10, semI.eq_11, semI.eq_3, semI.eq_5, semI.eq_7, e_api_Ledger, e_api_Disk, e_api_Write]
        refine .lp ?_
        refine .weak (Imp.co [] _ _ ?_ ?_ ?_ ?_ ?_) (ih (IntKind.i64.wrap (v24 + 1)) l l2 l3 _ h k_ hx) <;> simp only [wz, wd, ws, seval, wi, er_nil, e_api_Ledger, e_api_Disk, e_api_Write]
    · rw [ite_f h1] at h
      refine .exit rfl ?_
      obtain rfl := Option.some.inj h
      refine .weak (Imp.co [] _ _ ?_ ?_ ?_ ?_ ?_) (hx _ rfl) <;> simp only [wz, wd, ws, seval, wi, er_nil, e_api_Ledger, e_api_Disk, e_api_Write]
theorem f_ledger_Open_ok (d : api_Disk) (y_ : api_Ledger × Int) (h : f_ledger_Open d = some y_) : Fun Try.prog glP 10 [.b (.agg ((e_api_Disk d).map Lc.d))] (.tup [.agg ((e_api_Ledger y_.1).map Lc.d), .s (.d (.int .i64 y_.2))]) := by
  refine fun_walk [] Try.func10 Try.ntmps10 cc10 cr10 (by kernel_rfl) (by simp only [List.length_cons, List.length_nil]; decide) ?_
  generalize hR : Ret _ _ _ _ _ = R_
  simp only [wz, wd, ws, seval, e_api_Ledger, e_api_Disk, e_api_Write]
  unfold f_ledger_Open at h; unfold c10
  refine .seq ?_
  refine Rw.walk ?_
  simp only [wz, wd, ws, seval, c10r0, semI.eq_10, semI.eq_11, semI.eq_3, semI.eq_5, semI.eq_7, e_api_Ledger, e_api_Disk, e_api_Write]
  refine .seq ?_
  refine .seq ?_
  refine Rw.walk ?_
  simp only [wz, wd, ws, seval, c10r1, semI.eq_10, semI.eq_11, semI.eq_3, semI.eq_5, semI.eq_7, e_api_Ledger, e_api_Disk, e_api_Write]
  obtain ⟨t, e1, h⟩ := Option.bind_eq_some_iff.1 h
  refine call_fun [] false ⟨trivial, trivial, trivial⟩ rfl ?_ (f_disk_Right_ok _ _ e1) (fun _ => rfl) (fun i hi => by cases hi) ?_
  · simp only [wz, wd, ws, seval, e_api_Ledger, e_api_Disk, e_api_Write]
  simp only [wz, wd, ws, seval, c10r1, semI.eq_10, semI.eq_11, semI.eq_3, semI.eq_5, semI.eq_7, e_api_Ledger, e_api_Disk, e_api_Write]
  refine call_alt (v := .b (.s (.d (.sl (d.Dirty.map e_api_Write))))) rfl rfl (by simp only [wz, wd, ws, seval]) (fun q => ⟨_, by simp only [wz, wd, ws, seval, semI.eq_10, e_api_Ledger, e_api_Disk, e_api_Write], trivial⟩) ?_
  simp only [wz, wd, ws, seval, c10r1, semI.eq_10, semI.eq_11, semI.eq_3, semI.eq_5, semI.eq_7, e_api_Ledger, e_api_Disk, e_api_Write]
  repeat (refine And.intro ?_ ?_; · first | omega | (simp only [List.length_append, List.length_cons, List.length_nil] at *; omega) | (intro q; simp only [wz, wd, ws, seval, q]; done))
  refine .cond (p := ((!t) || (decide ((d.Dirty.length : Int) > 0)))) (by first | rfl | simp only [wz, wd, ws, seval]) (fun h1 => ?_) (fun h1 => ?_)
  · rw [ite_t h1] at h
    refine .seq ?_
    refine Rw.walk ?_
    simp only [wz, wd, ws, seval, c10r2, semI.eq_10, semI.eq_11, semI.eq_3, semI.eq_5, semI.eq_7, e_api_Ledger, e_api_Disk, e_api_Write]
    obtain rfl := Option.some.inj h
    refine .ret ?_
    rw [← hR]
    simp only [wz, wd, ws, seval, rv10, semI.eq_10, e_api_Ledger, e_api_Disk, e_api_Write]
  · rw [ite_f h1] at h
    refine .skip ?_
    refine .seq ?_
    refine Rw.walk ?_
    simp only [wz, wd, ws, seval, c10r3, semI.eq_10, semI.eq_11, semI.eq_3, semI.eq_5, semI.eq_7, e_api_Ledger, e_api_Disk, e_api_Write]
    refine .seq ?_
    refine .seq ?_
    refine Rw.walk ?_
    simp only [wz, wd, ws, seval, c10r4, semI.eq_10, semI.eq_11, semI.eq_3, semI.eq_5, semI.eq_7, e_api_Ledger, e_api_Disk, e_api_Write]
    refine .blk ?_
    obtain ⟨s, hf, h⟩ := Option.bind_eq_some_iff.1 h
    refine .loop (.weak (Imp.co [] _ _ ?c1 ?c2 ?c3 ?c4 ?c5) (f_ledger_Open_l11_ok d _ _ hR _ _ _ _ _ _ hf _ ?_))
    case c1 | c2 | c3 | c4 | c5 => simp only [wz, wd, ws, seval, wi, er_nil, e_api_Ledger, e_api_Disk, e_api_Write]
    · intro s_ hs; subst hs
      refine .seq ?_
      refine Rw.walk ?_
      simp only [wz, wd, ws, seval, c10r11, semI.eq_10, semI.eq_11, semI.eq_3, semI.eq_5, semI.eq_7, e_api_Ledger, e_api_Disk, e_api_Write]
      obtain ⟨t2, e3, h⟩ := Option.bind_eq_some_iff.1 h
      refine call_fun [] false ⟨trivial, trivial, trivial, trivial⟩ rfl ?_ (f_ledger_room_ok _ _ _ e3) (fun _ => rfl) (fun i hi => by cases hi) ?_
      · simp only [wz, wd, ws, seval, e_api_Ledger, e_api_Disk, e_api_Write]
      simp only [wz, wd, ws, seval, c10r11, semI.eq_10, semI.eq_11, semI.eq_3, semI.eq_5, semI.eq_7, e_api_Ledger, e_api_Disk, e_api_Write]
      refine .seq ?_
      refine Rw.walk ?_
      obtain ⟨g4, h⟩ := gd_iff.1 h
      simp only [wz, wd, ws, seval, c10r12, semI.eq_10, semI.eq_11, semI.eq_3, semI.eq_5, semI.eq_7, e_api_Ledger, e_api_Disk, e_api_Write]
      repeat (refine And.intro ?_ ?_; · first | omega | (simp only [List.length_append, List.length_cons, List.length_nil] at *; omega) | (intro q; simp only [wz, wd, ws, seval, q]; done))
      obtain ⟨t3, e5, h⟩ := Option.bind_eq_some_iff.1 h
      refine call_fun [] true ⟨trivial, trivial, trivial⟩ rfl ?_ (f_ledger_entries_ok _ _ e5) (fun h => by cases h) (fun i hi => by cases hi) ?_
      · simp only [wz, wd, ws, seval, e_api_Ledger, e_api_Disk, e_api_Write]
      simp only [wz, wd, ws, seval, c10r12, semI.eq_10, semI.eq_11, semI.eq_3, semI.eq_5, semI.eq_7, e_api_Ledger, e_api_Disk, e_api_Write]
      refine .seq ?_
      refine .seq ?_
      refine Rw.walk ?_
      simp only [wz, wd, ws, seval, c10r13, semI.eq_10, semI.eq_11, semI.eq_3, semI.eq_5, semI.eq_7, e_api_Ledger, e_api_Disk, e_api_Write]
      repeat (refine And.intro ?_ ?_; · first | omega | (simp only [List.length_append, List.length_cons, List.length_nil] at *; omega) | (intro q; simp only [wz, wd, ws, seval, q]; done))
      refine .cond (p := ((s.2.2.1 == 0) || (!t3.2))) (by first | rfl | simp only [wz, wd, ws, seval]) (fun h1 => ?_) (fun h1 => ?_)
      · rw [ite_t h1] at h
        refine .seq ?_
        refine Rw.walk ?_
        simp only [wz, wd, ws, seval, c10r14, semI.eq_10, semI.eq_11, semI.eq_3, semI.eq_5, semI.eq_7, e_api_Ledger, e_api_Disk, e_api_Write]
        obtain rfl := Option.some.inj h
        refine .ret ?_
        rw [← hR]
        simp only [wz, wd, ws, seval, rv10, semI.eq_10, e_api_Ledger, e_api_Disk, e_api_Write]
      · rw [ite_f h1] at h
        refine .skip ?_
        refine .seq ?_
        refine Rw.walk ?_
        simp only [wz, wd, ws, seval, c10r15, semI.eq_10, semI.eq_11, semI.eq_3, semI.eq_5, semI.eq_7, e_api_Ledger, e_api_Disk, e_api_Write]
        refine .seq ?_
        refine Rw.walk ?_
        simp only [wz, wd, ws, seval, c10r16, semI.eq_10, semI.eq_11, semI.eq_3, semI.eq_5, semI.eq_7, e_api_Ledger, e_api_Disk, e_api_Write]
        obtain rfl := Option.some.inj h
        refine .ret ?_
        rw [← hR]
        simp only [wz, wd, ws, seval, rv10, semI.eq_10, e_api_Ledger, e_api_Disk, e_api_Write]
-- 42 slices.Equal[[]string,string]
def c42r0 : List Opn := [
  ⟨(some 4), none, .mv (.c (.s (.d (.bool false))))⟩]
def c42r1 : List Opn := [
  ⟨(some 6), none, .mv (.t 0)⟩, 
  ⟨(some 7), none, .len (.sl 0) (.t 6)⟩, 
  ⟨(some 8), none, .mv (.t 1)⟩, 
  ⟨(some 9), none, .len (.sl 0) (.t 8)⟩, 
  ⟨(some 10), none, .bin .neq (.t 7) (.t 9)⟩]
def c42r2 : List Opn := [
  ⟨(some 4), none, .mv (.c (.s (.d (.bool false))))⟩]
def c42r3 : List Opn := [
  ⟨(some 11), none, .mv (.t 0)⟩, 
  ⟨(some 12), none, .len (.sl 0) (.t 11)⟩, 
  ⟨(some 13), none, .mv (.c (.s (.d (.int .i64 0))))⟩]
def c42r4 : List Opn := [
  ⟨(some 14), none, .bin .lss (.t 13) (.t 12)⟩]
def c42r5 : List Opn := [
  ⟨(some 15), none, .mv (.t 13)⟩, 
  ⟨(some 5), none, .mv (.t 15)⟩]
def c42r6 : List Opn := [
  ⟨(some 16), none, .mv (.t 0)⟩, 
  ⟨(some 17), none, .mv (.t 5)⟩, 
  ⟨(some 18), none, .iadr (.sl 1) (.t 16) (.t 17)⟩, 
  ⟨(some 19), none, .load false 1 (.t 18)⟩, 
  ⟨(some 20), none, .mv (.t 1)⟩, 
  ⟨(some 21), none, .mv (.t 5)⟩, 
  ⟨(some 22), none, .iadr (.sl 1) (.t 20) (.t 21)⟩, 
  ⟨(some 23), none, .load false 1 (.t 22)⟩, 
  ⟨(some 24), none, .bin .neq (.t 19) (.t 23)⟩]
def c42r7 : List Opn := [
  ⟨(some 4), none, .mv (.c (.s (.d (.bool false))))⟩]
def c42r8 : List Opn := [
  ⟨(some 25), none, .bin .add (.t 13) (.c (.s (.d (.int .i64 1))))⟩, 
  ⟨(some 13), none, .mv (.t 25)⟩]
def c42l9 : C := .seq (.reg c42r4 none [0, 1, 12, 13, 14]) (.seq (.cond (.t 14) (.skip) (.exit 0)) (.seq (.blk 1 (.seq (.reg c42r5 none [0, 1, 5, 12, 13]) (.seq (.reg c42r6 (some [0, 0, 3, 7, 0, 0, 48, 112, 255]) [0, 1, 12, 13, 24]) (.cond (.t 24) (.seq (.reg c42r7 none [4]) (.ret)) (.skip))))) (.reg c42r8 none [0, 1, 12, 13])))
def c42r9 : List Opn := [
  ⟨(some 4), none, .mv (.c (.s (.d (.bool true))))⟩]
def c42 : C := .seq (.reg c42r0 none [0, 1]) (.seq (.seq (.reg c42r1 none [0, 1, 10]) (.cond (.t 10) (.seq (.reg c42r2 none [4]) (.ret)) (.skip))) (.seq (.seq (.reg c42r3 none [0, 1, 12, 13]) (.blk 0 (.loop c42l9))) (.seq (.reg c42r9 none [4]) (.ret))))
def k42 : List (Nat × List Nat) := [(9, [4]), (8, [0, 1, 12, 13]), (7, [4]), (6, [0, 1, 12, 13, 24]), (5, [0, 1, 5, 12, 13]), (4, [0, 1, 12, 13, 14]), (3, [0, 1, 12, 13]), (2, [4]), (1, [0, 1, 10]), (0, [0, 1])]
theorem cc42 : (Try.f42.body).bind (cC Try.prog 26 k42) = some c42 := by kernel_rfl
def rv42 : List RV := [.t 4]
theorem cr42 : cRVs Try.prog Try.f42.results.toList = some rv42 := by kernel_rfl
theorem f_slices_Equal_string_string_l9_ok (s1 : (List Str)) (s2 : (List Str)) (y_ : Bool) (R_ : St → Prop) (hR : (Ret Try.prog glP [] rv42 (.b (.s (.d (.bool y_))))) = R_) : ∀ (m_ : Nat) (v13 : Int) (res_ : (Int) ⊕ (Bool)) (h : f_slices_Equal_string_string_l9 s1 s2 m_ v13 = some res_) (k_ : List It) (hx : ∀ s_ : Int, res_ = .inl s_ → W Try.prog glP 26 k_ ⟨lkT [(0, .b (.s (.d (.sl (s1.map eS))))), (1, .b (.s (.d (.sl (s2.map eS))))), (12, .b (.s (.d (.int .i64 (s1.length : Int))))), (13, .b (.s (.d (.int .i64 s_))))], lkG []⟩ R_) (hr : ∀ z_ : Bool, res_ = .inr z_ → z_ = y_), W Try.prog glP 26 (.c c42l9 :: .lp c42l9 :: .blk 0 :: k_) ⟨lkT [(0, .b (.s (.d (.sl (s1.map eS))))), (1, .b (.s (.d (.sl (s2.map eS))))), (12, .b (.s (.d (.int .i64 (s1.length : Int))))), (13, .b (.s (.d (.int .i64 v13))))], lkG []⟩ R_ := by
  intro m_; induction m_ with
  | zero => intro v13 res_ h; rw [f_slices_Equal_string_string_l9.eq_1] at h; cases h
  | succ m_ ih =>
    intro v13 res_ h k_ hx hr; rw [f_slices_Equal_string_string_l9.eq_2] at h; refine W.cdef c42l9.eq_1 ?_
    refine .seq ?_
    refine Rw.walk ?_
    simp only [wz, wd, ws, seval, c42r4, semI.eq_10, semI.eq_11, semI.eq_3, semI.eq_5, semI.eq_7]
    refine .seq ?_
    refine .cond (p := (decide (v13 < (s1.length : Int)))) (by first | rfl | simp only [wz, wd, ws, seval]) (fun h1 => ?_) (fun h1 => ?_)
    · rw [ite_t h1] at h
      refine .skip ?_
      refine .seq ?_
      refine .blk ?_
      refine .seq ?_
      refine Rw.walk ?_
      simp only [wz, wd, ws, seval, c42r5, semI.eq_10, semI.eq_11, semI.eq_3, semI.eq_5, semI.eq_7]
      refine .seq ?_
      refine RwD.walk ?_
      simp only [wz, wd, ws, seval, c42r6, semI.eq_10, semI.eq_11, semI.eq_3, semI.eq_5, semI.eq_7]
      obtain ⟨x, e1, h⟩ := Option.bind_eq_some_iff.1 h
      refine GoD1.of (sem_iadr eS_len e1 (by rfl) (by rfl)) ?_
      simp only [wz, wd, ws, seval, c42r6, semI.eq_10, semI.eq_11, semI.eq_3, semI.eq_5, semI.eq_7]
      obtain ⟨x2, e2, h⟩ := Option.bind_eq_some_iff.1 h
      refine GoD1.of (sem_iadr eS_len e2 (by rfl) (by rfl)) ?_
      simp only [wz, wd, ws, seval, c42r6, semI.eq_10, semI.eq_11, semI.eq_3, semI.eq_5, semI.eq_7]
      refine .cond (p := (!(x == x2))) (by first | rfl | simp only [wz, wd, ws, seval]) (fun h1 => ?_) (fun h1 => ?_)
      · rw [ite_t h1] at h
        refine .seq ?_
        refine Rw.walk ?_
        simp only [wz, wd, ws, seval, c42r7, semI.eq_10, semI.eq_11, semI.eq_3, semI.eq_5, semI.eq_7]
        obtain rfl := Option.some.inj h; obtain rfl := hr _ rfl
        refine .ret ?_
        rw [← hR]
        simp only [wz, wd, ws, seval, rv42]
      · rw [ite_f h1] at h
        refine .skip ?_
        refine .eblk ?_
        refine Rw.walk ?_
        simp only [wz, wd, ws, seval, c42r8, semI.eq_10, semI.eq_11, semI.eq_3, semI.eq_5, semI.eq_7]
        refine .lp ?_
        refine .weak (Imp.co [] _ _ ?_ ?_ ?_ ?_ ?_) (ih (IntKind.i64.wrap (v13 + 1)) _ h k_ hx hr) <;> simp only [wz, wd, ws, seval, wi, er_nil]
    · rw [ite_f h1] at h
      refine .exit rfl ?_
      obtain rfl := Option.some.inj h
      refine .weak (Imp.co [] _ _ ?_ ?_ ?_ ?_ ?_) (hx _ rfl) <;> simp only [wz, wd, ws, seval, wi, er_nil]
theorem f_slices_Equal_string_string_ok (s1 : (List Str)) (s2 : (List Str)) (y_ : Bool) (h : f_slices_Equal_string_string s1 s2 = some y_) : Fun Try.prog glP 42 [.b (.s (.d (.sl (s1.map eS)))), .b (.s (.d (.sl (s2.map eS))))] (.b (.s (.d (.bool y_)))) := by
  refine fun_walk [] Try.func42 Try.ntmps42 cc42 cr42 (by kernel_rfl) (by simp only [List.length_cons, List.length_nil]; decide) ?_
  generalize hR : Ret _ _ _ _ _ = R_
  simp only [wz, wd, ws, seval]
  unfold f_slices_Equal_string_string at h; unfold c42
  refine .seq ?_
  refine Rw.walk ?_
  simp only [wz, wd, ws, seval, c42r0, semI.eq_10, semI.eq_11, semI.eq_3, semI.eq_5, semI.eq_7]
  refine .seq ?_
  refine .seq ?_
  refine Rw.walk ?_
  simp only [wz, wd, ws, seval, c42r1, semI.eq_10, semI.eq_11, semI.eq_3, semI.eq_5, semI.eq_7]
  refine .cond (p := ((s1.length : Int) != (s2.length : Int))) (by first | rfl | simp only [wz, wd, ws, seval]) (fun h1 => ?_) (fun h1 => ?_)
  · rw [ite_t h1] at h
    refine .seq ?_
    refine Rw.walk ?_
    simp only [wz, wd, ws, seval, c42r2, semI.eq_10, semI.eq_11, semI.eq_3, semI.eq_5, semI.eq_7]
    obtain rfl := Option.some.inj h
    refine .ret ?_
    rw [← hR]
    simp only [wz, wd, ws, seval, rv42]
  · rw [ite_f h1] at h
    refine .skip ?_
    refine .seq ?_
    refine .seq ?_
    refine Rw.walk ?_
    simp only [wz, wd, ws, seval, c42r3, semI.eq_10, semI.eq_11, semI.eq_3, semI.eq_5, semI.eq_7]
    refine .blk ?_
    obtain ⟨s, hf, h⟩ := Option.bind_eq_some_iff.1 h
    refine .loop (.weak (Imp.co [] _ _ ?c1 ?c2 ?c3 ?c4 ?c5) (f_slices_Equal_string_string_l9_ok s1 s2 _ _ hR _ _ _ hf _ ?_ ?_))
    case c1 | c2 | c3 | c4 | c5 => simp only [wz, wd, ws, seval, wi, er_nil]
    · intro s3 hs; subst hs; dsimp only at h
      refine .seq ?_
      refine Rw.walk ?_
      simp only [wz, wd, ws, seval, c42r9, semI.eq_10, semI.eq_11, semI.eq_3, semI.eq_5, semI.eq_7]
      obtain rfl := Option.some.inj h
      refine .ret ?_
      rw [← hR]
      simp only [wz, wd, ws, seval, rv42]
    · intro z hz; subst hz; dsimp only at h
      exact Option.some.inj h
-- 16 consignor/ledger.Right
def c16r0 : List Opn := [
  ⟨(some 1), none, .box 6 (.t 0)⟩, 
  ⟨(some 2), none, .mv (.c (.s (.d (.bool false))))⟩]
def c16r1 : List Opn := [
  ⟨(some 6), none, .fadr 0 (.t 1)⟩, 
  ⟨(some 7), none, .load true 2 (.t 6)⟩, 
  ⟨(some 8), none, .call (.fn 10) [(.t 7)]⟩, 
  ⟨(some 5), none, .mv (.t 8)⟩, 
  ⟨(some 9), none, .ext (.t 5) 0⟩, 
  ⟨(some 10), none, .ext (.t 5) 1⟩, 
  ⟨(some 3), none, .new [.nils, .nils, (.d (.int .i64 0)), (.d (.int .i64 0)), (.d (.int .i64 0)), .nils]⟩, 
  ⟨none, none, .store 6 (.t 3) (.t 9)⟩, 
  ⟨(some 4), none, .mv (.t 10)⟩]
def c16r2 : List Opn := [
  ⟨(some 11), none, .mv (.t 4)⟩, 
  ⟨(some 12), none, .bin .eql (.t 11) (.c (.s (.d (.int .i64 0))))⟩, 
  ⟨(some 13), none, .mv (.t 12)⟩, 
  ⟨(some 14), some (13, true), .fadr 2 (.t 3)⟩, 
  ⟨(some 15), some (13, true), .load false 1 (.t 14)⟩, 
  ⟨(some 16), some (13, true), .fadr 2 (.t 1)⟩, 
  ⟨(some 17), some (13, true), .load false 1 (.t 16)⟩, 
  ⟨(some 18), some (13, true), .bin .eql (.t 15) (.t 17)⟩, 
  ⟨(some 19), none, .pick (.t 13) (.t 18) (.c (.s (.d (.bool false))))⟩, 
  ⟨(some 20), none, .mv (.t 19)⟩, 
  ⟨(some 21), some (20, true), .fadr 3 (.t 3)⟩, 
  ⟨(some 22), some (20, true), .load false 1 (.t 21)⟩, 
  ⟨(some 23), some (20, true), .fadr 3 (.t 1)⟩, 
  ⟨(some 24), some (20, true), .load false 1 (.t 23)⟩, 
  ⟨(some 25), some (20, true), .bin .eql (.t 22) (.t 24)⟩, 
  ⟨(some 26), none, .pick (.t 20) (.t 25) (.c (.s (.d (.bool false))))⟩, 
  ⟨(some 27), none, .mv (.t 26)⟩, 
  ⟨(some 28), some (27, true), .fadr 4 (.t 3)⟩, 
  ⟨(some 29), some (27, true), .load false 1 (.t 28)⟩, 
  ⟨(some 30), some (27, true), .fadr 4 (.t 1)⟩, 
  ⟨(some 31), some (27, true), .load false 1 (.t 30)⟩, 
  ⟨(some 32), some (27, true), .bin .eql (.t 29) (.t 31)⟩, 
  ⟨(some 33), none, .pick (.t 27) (.t 32) (.c (.s (.d (.bool false))))⟩, 
  ⟨(some 34), none, .mv (.t 33)⟩, 
  ⟨(some 35), some (34, true), .fadr 5 (.t 3)⟩, 
  ⟨(some 36), some (34, true), .load false 1 (.t 35)⟩, 
  ⟨(some 37), some (34, true), .fadr 5 (.t 1)⟩, 
  ⟨(some 38), some (34, true), .load false 1 (.t 37)⟩, 
  ⟨(some 39), some (34, true), .call (.fn 42) [(.t 36), (.t 38)]⟩, 
  ⟨(some 40), none, .pick (.t 34) (.t 39) (.c (.s (.d (.bool false))))⟩, 
  ⟨(some 2), none, .mv (.t 40)⟩]
def c16 : C := .seq (.reg c16r0 none [1]) (.seq (.reg c16r1 none [1, 3, 4]) (.seq (.reg c16r2 none [2]) (.ret)))
def k16 : List (Nat × List Nat) := [(2, [2]), (1, [1, 3, 4]), (0, [1])]
theorem cc16 : (Try.f16.body).bind (cC Try.prog 41 k16) = some c16 := by kernel_rfl
def rv16 : List RV := [.t 2]
theorem cr16 : cRVs Try.prog Try.f16.results.toList = some rv16 := by kernel_rfl
theorem f_ledger_Right_ok (l : api_Ledger) (y_ : Bool) (h : f_ledger_Right l = some y_) : Fun Try.prog glP 16 [.b (.agg ((e_api_Ledger l).map Lc.d))] (.b (.s (.d (.bool y_)))) := by
  refine fun_walk [] Try.func16 Try.ntmps16 cc16 cr16 (by kernel_rfl) (by simp only [List.length_cons, List.length_nil]; decide) ?_
  generalize hR : Ret _ _ _ _ _ = R_
  simp only [wz, wd, ws, seval, e_api_Ledger, e_api_Disk, e_api_Write]
  unfold f_ledger_Right at h; unfold c16
  refine .seq ?_
  refine Rw.walk ?_
  simp only [wz, wd, ws, seval, c16r0, semI.eq_10, semI.eq_11, semI.eq_3, semI.eq_5, semI.eq_7, e_api_Ledger, e_api_Disk, e_api_Write]
  refine .seq ?_
  refine Rw.walk ?_
  simp only [wz, wd, ws, seval, c16r1, semI.eq_10, semI.eq_11, semI.eq_3, semI.eq_5, semI.eq_7, e_api_Ledger, e_api_Disk, e_api_Write]
  obtain ⟨t, e1, h⟩ := Option.bind_eq_some_iff.1 h
  refine call_fun [] true ⟨trivial, trivial, trivial⟩ rfl ?_ (f_ledger_Open_ok _ _ e1) (fun h => by cases h) (fun i hi => by cases hi) ?_
  · simp only [wz, wd, ws, seval, e_api_Ledger, e_api_Disk, e_api_Write]
  simp only [wz, wd, ws, seval, c16r1, semI.eq_10, semI.eq_11, semI.eq_3, semI.eq_5, semI.eq_7, e_api_Ledger, e_api_Disk, e_api_Write]
  refine .seq ?_
  refine Rw.walk ?_
  simp only [wz, wd, ws, seval, c16r2, semI.eq_10, semI.eq_11, semI.eq_3, semI.eq_5, semI.eq_7, e_api_Ledger, e_api_Disk, e_api_Write]
  refine call_alt (v := .b (.s (.d (.int .i64 t.1.Half)))) rfl rfl (by simp only [wz, wd, ws, seval]) (fun q => ⟨_, by simp only [wz, wd, ws, seval, semI.eq_10, e_api_Ledger, e_api_Disk, e_api_Write], trivial⟩) ?_
  simp only [wz, wd, ws, seval, c16r2, semI.eq_10, semI.eq_11, semI.eq_3, semI.eq_5, semI.eq_7, e_api_Ledger, e_api_Disk, e_api_Write]
  refine call_alt (v := .b (.s (.d (.int .i64 l.Half)))) rfl rfl (by simp only [wz, wd, ws, seval]) (fun q => ⟨_, by simp only [wz, wd, ws, seval, semI.eq_10, e_api_Ledger, e_api_Disk, e_api_Write], trivial⟩) ?_
  simp only [wz, wd, ws, seval, c16r2, semI.eq_10, semI.eq_11, semI.eq_3, semI.eq_5, semI.eq_7, e_api_Ledger, e_api_Disk, e_api_Write]
  repeat (refine And.intro ?_ ?_; · first | omega | (simp only [List.length_append, List.length_cons, List.length_nil] at *; omega) | (intro q; simp only [wz, wd, ws, seval, q]; done))
  refine call_alt (v := .b (.s (.d (.int .i64 t.1.Gen)))) rfl rfl (by simp only [wz, wd, ws, seval]) (fun q => ⟨_, by simp only [wz, wd, ws, seval, semI.eq_10, e_api_Ledger, e_api_Disk, e_api_Write], trivial⟩) ?_
  simp only [wz, wd, ws, seval, c16r2, semI.eq_10, semI.eq_11, semI.eq_3, semI.eq_5, semI.eq_7, e_api_Ledger, e_api_Disk, e_api_Write]
  refine call_alt (v := .b (.s (.d (.int .i64 l.Gen)))) rfl rfl (by simp only [wz, wd, ws, seval]) (fun q => ⟨_, by simp only [wz, wd, ws, seval, semI.eq_10, e_api_Ledger, e_api_Disk, e_api_Write], trivial⟩) ?_
  simp only [wz, wd, ws, seval, c16r2, semI.eq_10, semI.eq_11, semI.eq_3, semI.eq_5, semI.eq_7, e_api_Ledger, e_api_Disk, e_api_Write]
  repeat (refine And.intro ?_ ?_; · first | omega | (simp only [List.length_append, List.length_cons, List.length_nil] at *; omega) | (intro q; simp only [wz, wd, ws, seval, q]; done))
  refine call_alt (v := .b (.s (.d (.int .i64 t.1.Used)))) rfl rfl (by simp only [wz, wd, ws, seval]) (fun q => ⟨_, by simp only [wz, wd, ws, seval, semI.eq_10, e_api_Ledger, e_api_Disk, e_api_Write], trivial⟩) ?_
  simp only [wz, wd, ws, seval, c16r2, semI.eq_10, semI.eq_11, semI.eq_3, semI.eq_5, semI.eq_7, e_api_Ledger, e_api_Disk, e_api_Write]
  refine call_alt (v := .b (.s (.d (.int .i64 l.Used)))) rfl rfl (by simp only [wz, wd, ws, seval]) (fun q => ⟨_, by simp only [wz, wd, ws, seval, semI.eq_10, e_api_Ledger, e_api_Disk, e_api_Write], trivial⟩) ?_
  simp only [wz, wd, ws, seval, c16r2, semI.eq_10, semI.eq_11, semI.eq_3, semI.eq_5, semI.eq_7, e_api_Ledger, e_api_Disk, e_api_Write]
  repeat (refine And.intro ?_ ?_; · first | omega | (simp only [List.length_append, List.length_cons, List.length_nil] at *; omega) | (intro q; simp only [wz, wd, ws, seval, q]; done))
  refine call_alt (v := .b (.s (.d (.sl (t.1.Entries.map eS))))) rfl rfl (by simp only [wz, wd, ws, seval]) (fun q => ⟨_, by simp only [wz, wd, ws, seval, semI.eq_10, e_api_Ledger, e_api_Disk, e_api_Write], trivial⟩) ?_
  simp only [wz, wd, ws, seval, c16r2, semI.eq_10, semI.eq_11, semI.eq_3, semI.eq_5, semI.eq_7, e_api_Ledger, e_api_Disk, e_api_Write]
  refine call_alt (v := .b (.s (.d (.sl (l.Entries.map eS))))) rfl rfl (by simp only [wz, wd, ws, seval]) (fun q => ⟨_, by simp only [wz, wd, ws, seval, semI.eq_10, e_api_Ledger, e_api_Disk, e_api_Write], trivial⟩) ?_
  simp only [wz, wd, ws, seval, c16r2, semI.eq_10, semI.eq_11, semI.eq_3, semI.eq_5, semI.eq_7, e_api_Ledger, e_api_Disk, e_api_Write]
  obtain ⟨t2, e2, h⟩ := Option.bind_eq_some_iff.1 h
  refine call_funG [] rfl (by simp only [wz, wd, ws, seval]) rfl ?_ (fun q => (f_slices_Equal_string_string_ok _ _ _ (gx_iff e2 (by simpa using q)))) rfl (fun i hi => by cases hi) ?_
  · simp only [wz, wd, ws, seval, e_api_Ledger, e_api_Disk, e_api_Write]
  simp only [wz, wd, ws, seval, c16r2, semI.eq_10, semI.eq_11, semI.eq_3, semI.eq_5, semI.eq_7, e_api_Ledger, e_api_Disk, e_api_Write]
  repeat (refine And.intro ?_ ?_; · first | omega | (simp only [List.length_append, List.length_cons, List.length_nil] at *; omega) | (intro q; simp only [wz, wd, ws, seval, q]; done))
  obtain rfl := Option.some.inj h
  refine .ret ?_
  rw [← hR]
  simp only [wz, wd, ws, seval, rv16, e_api_Ledger, e_api_Disk, e_api_Write]
theorem wide_two (n : Nat) (hn : n ≤ 4096) : f_octet_Wide (n : Int) 2 = some (two n, 0) := by
  have h1 : ∀ k : Nat, k < 4097 → f_octet_Wide (k : Int) 2 = some (two k, 0) := by
    intro k hk
    have h2 : (List.range 4097).all (fun k => decide (f_octet_Wide (k : Int) 2 = some (two k, 0))) = true := by kernel_rfl
    have h3 := List.all_eq_true.1 h2 k (List.mem_range.2 hk)
    exact of_decide_eq_true h3
  exact h1 n (by omega)
theorem f_octet_Bind_ok (parts : List Str) (y_ : Str × Int) (h : f_octet_Bind parts = some y_) : Fun Try.prog glP 44 [.b (.s (.d (.sl (parts.map eS))))] (.tup [.s (.d (.str y_.1)), .s (.d (.int .i64 y_.2))]) := by
  obtain ⟨hN, h⟩ := gd_iff.1 h
  obtain rfl := Option.some.inj h
  refine Fun.flatG (v := .tuple #[strV (bindR parts).1, .int .i64 (bindR parts).2]) (by kernel_rfl) (fun w S => repV_two (.str _) (.int _ _)) fun w S vs hS hG hA => ?_
  obtain ⟨v, rfl, h1⟩ := args1 hA
  obtain ⟨A, b, o, c, rfl, e1, e2, e3, e4⟩ := rep_strs hS h1
  refine octet_Bind_spec A b o c parts w e1 e2 e3 e4 hN fun n hn W hb => ?_
  exact (f_octet_Wide_ok (n : Int) 2 _ (wide_two n hn)).strInt hS hG hb (repA_two (.d _ _ (.int _ _)) (.d _ _ (.int _ _)))
-- 45 consignor/ledger.lay
def c45r0 : List Opn := [
  ⟨(some 5), none, .box 2 (.t 0)⟩, 
  ⟨(some 10), none, .mv (.c (.s .nils))⟩]
def c45r1 : List Opn := [
  ⟨(some 17), none, .load true 2 (.t 5)⟩, 
  ⟨(some 18), none, .mv (.t 1)⟩, 
  ⟨(some 19), none, .call (.fn 33) [(.t 17), (.t 18)]⟩, 
  ⟨(some 16), none, .mv (.t 19)⟩, 
  ⟨(some 20), none, .ext (.t 16) 0⟩, 
  ⟨(some 21), none, .ext (.t 16) 1⟩, 
  ⟨(some 11), none, .mv (.t 20)⟩, 
  ⟨(some 12), none, .mv (.t 21)⟩]
def c45r2 : List Opn := [
  ⟨(some 22), none, .mv (.t 12)⟩, 
  ⟨(some 23), none, .mv (.t 3)⟩, 
  ⟨(some 24), none, .slc .str (.t 22) none (some (.t 23)) none⟩, 
  ⟨(some 25), none, .mv (.t 4)⟩, 
  ⟨(some 26), none, .bin .add (.t 24) (.t 25)⟩, 
  ⟨(some 27), none, .mv (.t 12)⟩, 
  ⟨(some 28), none, .len .str (.t 27)⟩, 
  ⟨(some 29), none, .mv (.t 3)⟩, 
  ⟨(some 30), none, .bin .sub (.t 28) (.t 29)⟩, 
  ⟨(some 31), none, .mv (.t 4)⟩, 
  ⟨(some 32), none, .len .str (.t 31)⟩, 
  ⟨(some 33), none, .bin .sub (.t 30) (.t 32)⟩, 
  ⟨(some 34), none, .call (.fn 57) [(.c (.s (.d (.str [0])))), (.t 33)]⟩, 
  ⟨(some 35), none, .bin .add (.t 26) (.t 34)⟩, 
  ⟨(some 13), none, .mv (.t 35)⟩]
def c45r3 : List Opn := [
  ⟨(some 14), none, .mv (.c (.s .nils))⟩]
def c45r4 : List Opn := [
  ⟨(some 36), none, .mv (.t 3)⟩, 
  ⟨(some 37), none, .bin .quo (.t 36) (.c (.s (.d (.int .i64 128))))⟩, 
  ⟨(some 15), none, .mv (.t 37)⟩]
def c45r5 : List Opn := [
  ⟨(some 38), none, .mv (.t 15)⟩, 
  ⟨(some 39), none, .bin .mul (.t 38) (.c (.s (.d (.int .i64 128))))⟩, 
  ⟨(some 40), none, .mv (.t 3)⟩, 
  ⟨(some 41), none, .mv (.t 4)⟩, 
  ⟨(some 42), none, .len .str (.t 41)⟩, 
  ⟨(some 43), none, .bin .add (.t 40) (.t 42)⟩, 
  ⟨(some 44), none, .bin .lss (.t 39) (.t 43)⟩]
def c45r7 : List Opn := [
  ⟨(some 47), none, .mv (.t 14)⟩, 
  ⟨(some 48), none, .mv (.t 11)⟩, 
  ⟨(some 49), none, .bin .add (.t 48) (.c (.s (.d (.int .i64 1))))⟩, 
  ⟨(some 50), none, .mv (.t 15)⟩, 
  ⟨(some 51), none, .bin .add (.t 49) (.t 50)⟩, 
  ⟨(some 52), none, .mv (.t 13)⟩, 
  ⟨(some 53), none, .mv (.t 15)⟩, 
  ⟨(some 54), none, .bin .mul (.t 53) (.c (.s (.d (.int .i64 128))))⟩, 
  ⟨(some 55), none, .mv (.t 15)⟩, 
  ⟨(some 56), none, .bin .add (.t 55) (.c (.s (.d (.int .i64 1))))⟩, 
  ⟨(some 57), none, .bin .mul (.t 56) (.c (.s (.d (.int .i64 128))))⟩, 
  ⟨(some 58), none, .slc .str (.t 52) (some (.t 54)) (some (.t 57)) none⟩, 
  ⟨(some 59), none, .build [(.d (.int .i64 0)), (.d (.str []))] [(0, 1, (.t 51)), (1, 1, (.t 58))]⟩, 
  ⟨(some 60), none, .bsl 2 [(.t 59)]⟩, 
  ⟨(some 61), none, .app 2 24 false (.t 47) (.t 60)⟩, 
  ⟨(some 14), none, .mv (.t 61)⟩]
def c45r6 : List Opn := [
  ⟨(some 45), none, .mv (.t 15)⟩, 
  ⟨(some 46), none, .bin .add (.t 45) (.c (.s (.d (.int .i64 1))))⟩, 
  ⟨(some 15), none, .mv (.t 46)⟩]
def c45l8 : C := .seq (.seq (.reg c45r5 none [2, 3, 4, 11, 13, 14, 15, 44]) (.cond (.t 44) (.skip) (.exit 0))) (.seq (.blk 1 (.reg c45r7 none [2, 3, 4, 11, 13, 14, 15])) (.reg c45r6 none [2, 3, 4, 11, 13, 14, 15]))
def c45r8 : List Opn := [
  ⟨(some 62), none, .mv (.t 4)⟩, 
  ⟨(some 63), none, .bin .eql (.t 62) (.c (.s (.d (.str []))))⟩]
def c45r9 : List Opn := [
  ⟨(some 14), none, .mv (.c (.s .nils))⟩]
def c45r10 : List Opn := [
  ⟨(some 64), none, .mv (.t 14)⟩, 
  ⟨(some 65), none, .mv (.t 11)⟩, 
  ⟨(some 66), none, .mv (.t 2)⟩, 
  ⟨(some 67), none, .mv (.t 3)⟩, 
  ⟨(some 68), none, .mv (.t 4)⟩, 
  ⟨(some 69), none, .len .str (.t 68)⟩, 
  ⟨(some 70), none, .bin .add (.t 67) (.t 69)⟩, 
  ⟨(some 71), none, .call (.fn 40) [(.t 66), (.t 70)]⟩, 
  ⟨(some 72), none, .build [(.d (.int .i64 0)), (.d (.str []))] [(0, 1, (.t 65)), (1, 1, (.t 71))]⟩, 
  ⟨(some 73), none, .bsl 2 [(.t 72)]⟩, 
  ⟨(some 74), none, .bsl 1 [(.t 64), (.t 73)]⟩, 
  ⟨(some 10), none, .mv (.t 74)⟩]
def c45 : C := .seq (.reg c45r0 none [1, 2, 3, 4, 5]) (.seq (.reg c45r1 none [2, 3, 4, 11, 12]) (.seq (.reg c45r2 (some [0, 0, 3, 0, 15, 0, 32, 0, 224, 0, 512, 2016, 4064, 8191, 16383]) [2, 3, 4, 11, 13]) (.seq (.reg c45r3 none [2, 3, 4, 11, 13, 14]) (.seq (.seq (.reg c45r4 none [2, 3, 4, 11, 13, 14, 15]) (.blk 0 (.loop c45l8))) (.seq (.seq (.reg c45r8 none [2, 3, 4, 11, 14, 63]) (.cond (.t 63) (.reg c45r9 none [2, 3, 4, 11, 14]) (.skip))) (.seq (.reg c45r10 none [10]) (.ret)))))))
def k45 : List (Nat × List Nat) := [(10, [10]), (9, [2, 3, 4, 11, 14]), (8, [2, 3, 4, 11, 14, 63]), (6, [2, 3, 4, 11, 13, 14, 15]), (7, [2, 3, 4, 11, 13, 14, 15]), (5, [2, 3, 4, 11, 13, 14, 15, 44]), (4, [2, 3, 4, 11, 13, 14, 15]), (3, [2, 3, 4, 11, 13, 14]), (2, [2, 3, 4, 11, 13]), (1, [2, 3, 4, 11, 12]), (0, [1, 2, 3, 4, 5])]
theorem cc45 : (Try.f45.body).bind (cC Try.prog 75 k45) = some c45 := by kernel_rfl
def rv45 : List RV := [.t 10]
theorem cr45 : cRVs Try.prog Try.f45.results.toList = some rv45 := by kernel_rfl
theorem f_ledger_lay_l8_ok (d : api_Disk) (gen : Int) (used : Int) (s : Str) (t : Int × Str) (t2 : Str) (y_ : (List (List api_Write))) (R_ : St → Prop) (hR : (Ret Try.prog glP [73, 74] rv45 (.b (.s (.d (.sl (y_.map (eL e_api_Write))))))) = R_) : ∀ (m_ : Nat) (kv : Int) (out : (List api_Write)) (res_ : Int × (List api_Write)) (h : f_ledger_lay_l8 d gen used s t t2 m_ kv out = some res_) (k_ : List It) (hx : ∀ s_ : Int × (List api_Write), res_ = s_ → W Try.prog glP 75 k_ ⟨lkT [(2, .b (.s (.d (.int .i64 gen)))), (3, .b (.s (.d (.int .i64 used)))), (4, .b (.s (.d (.str s)))), (11, .b (.s (.d (.int .i64 t.1)))), (13, .b (.s (.d (.str (((cut t.2 0 used) ++ s) ++ t2))))), (14, .b (.s (.own 61 s_.2.length))), (15, .b (.s (.d (.int .i64 s_.1))))], lkG [(61, ⟨2, er e_api_Write s_.2, false⟩)]⟩ R_), W Try.prog glP 75 (.c c45l8 :: .lp c45l8 :: .blk 0 :: k_) ⟨lkT [(2, .b (.s (.d (.int .i64 gen)))), (3, .b (.s (.d (.int .i64 used)))), (4, .b (.s (.d (.str s)))), (11, .b (.s (.d (.int .i64 t.1)))), (13, .b (.s (.d (.str (((cut t.2 0 used) ++ s) ++ t2))))), (14, .b (.s (.own 61 out.length))), (15, .b (.s (.d (.int .i64 kv))))], lkG [(61, ⟨2, er e_api_Write out, false⟩)]⟩ R_ := by
  intro m_; induction m_ with
  | zero => intro kv out res_ h; rw [f_ledger_lay_l8.eq_1] at h; cases h
  | succ m_ ih =>
    intro kv out res_ h k_ hx; rw [f_ledger_lay_l8.eq_2] at h; refine W.cdef c45l8.eq_1 ?_
    refine .seq ?_
    refine .seq ?_
    refine Rw.walk ?_
    simp only [wz, wd, ws, seval, c45r5, semI.eq_10, semI.eq_11, semI.eq_3, semI.eq_5, semI.eq_7, e_api_Disk, e_api_Write]
    refine .cond (p := (decide ((IntKind.i64.wrap (kv * 128)) < (IntKind.i64.wrap (used + (s.length : Int)))))) (by first | rfl | simp only [wz, wd, ws, seval]) (fun h1 => ?_) (fun h1 => ?_)
    · rw [ite_t h1] at h
      refine .skip ?_
      refine .seq ?_
      refine .blk ?_
      refine Rw.walk ?_
      obtain ⟨g6, h⟩ := gd_iff.1 h
      simp only [wz, wd, ws, seval, c45r7, semI.eq_10, semI.eq_11, semI.eq_3, semI.eq_5, semI.eq_7, e_api_Disk, e_api_Write]
      repeat (refine And.intro ?_ ?_; · first | omega | (simp only [List.length_append, List.length_cons, List.length_nil] at *; omega) | (intro q; simp only [wz, wd, ws, seval, q]; done))
      refine Go1.of (sem_bsl (enc := e_api_Write) (m := ([(api_Write.mk (IntKind.i64.wrap ((IntKind.i64.wrap (t.1 + 1)) + kv)) (cut (((cut t.2 0 used) ++ s) ++ t2) (IntKind.i64.wrap (kv * 128)) (IntKind.i64.wrap ((IntKind.i64.wrap (kv + 1)) * 128))))] : List api_Write)) e_api_Write_len (by rfl) (by rfl) (by rfl) ⟨trivial, trivial⟩) ?_
      simp only [wz, wd, ws, seval, c45r7, semI.eq_10, semI.eq_11, semI.eq_3, semI.eq_5, semI.eq_7, e_api_Disk, e_api_Write]
      obtain ⟨g7, h⟩ := gd_iff.1 h
      refine Go1.of (sem_app (enc := e_api_Write) (l := out) (m := ([(api_Write.mk (IntKind.i64.wrap ((IntKind.i64.wrap (t.1 + 1)) + kv)) (cut (((cut t.2 0 used) ++ s) ++ t2) (IntKind.i64.wrap (kv * 128)) (IntKind.i64.wrap ((IntKind.i64.wrap (kv + 1)) * 128))))] : List api_Write)) e_api_Write_len (by rfl) (by rfl) (newV_own (m := ([(api_Write.mk (IntKind.i64.wrap ((IntKind.i64.wrap (t.1 + 1)) + kv)) (cut (((cut t.2 0 used) ++ s) ++ t2) (IntKind.i64.wrap (kv * 128)) (IntKind.i64.wrap ((IntKind.i64.wrap (kv + 1)) * 128))))] : List api_Write)) (by rfl) (by rfl))) ?_
      simp only [wz, wd, ws, seval, c45r7, semI.eq_10, semI.eq_11, semI.eq_3, semI.eq_5, semI.eq_7, e_api_Disk, e_api_Write]
      repeat (refine And.intro ?_ ?_; · first | omega | (simp only [List.length_append, List.length_cons, List.length_nil] at *; omega) | (intro q; simp only [wz, wd, ws, seval, q]; done))
      refine .eblk ?_
      refine Rw.walk ?_
      simp only [wz, wd, ws, seval, c45r6, semI.eq_10, semI.eq_11, semI.eq_3, semI.eq_5, semI.eq_7, e_api_Disk, e_api_Write]
      refine .lp ?_
      refine .weak (Imp.co [] _ _ ?_ ?_ ?_ ?_ ?_) (ih (IntKind.i64.wrap (kv + 1)) (out ++ ([(api_Write.mk (IntKind.i64.wrap ((IntKind.i64.wrap (t.1 + 1)) + kv)) (cut (((cut t.2 0 used) ++ s) ++ t2) (IntKind.i64.wrap (kv * 128)) (IntKind.i64.wrap ((IntKind.i64.wrap (kv + 1)) * 128))))] : List api_Write)) _ h k_ hx) <;> simp only [wz, wd, ws, seval, wi, er_nil, e_api_Disk, e_api_Write]
    · rw [ite_f h1] at h
      refine .exit rfl ?_
      obtain rfl := Option.some.inj h
      refine .weak (Imp.co [] _ _ ?_ ?_ ?_ ?_ ?_) (hx _ rfl) <;> simp only [wz, wd, ws, seval, wi, er_nil, e_api_Disk, e_api_Write]
theorem f_ledger_lay_ok (d : api_Disk) (half : Int) (gen : Int) (used : Int) (s : Str) (y_ : (List (List api_Write))) (h : f_ledger_lay d half gen used s = some y_) : Fun Try.prog glP 45 [.b (.agg ((e_api_Disk d).map Lc.d)), .b (.s (.d (.int .i64 half))), .b (.s (.d (.int .i64 gen))), .b (.s (.d (.int .i64 used))), .b (.s (.d (.str s)))] (.b (.s (.d (.sl (y_.map (eL e_api_Write)))))) := by
  refine fun_walk [73, 74] Try.func45 Try.ntmps45 cc45 cr45 (by kernel_rfl) (by simp only [List.length_cons, List.length_nil]; decide) ?_
  generalize hR : Ret _ _ _ _ _ = R_
  simp only [wz, wd, ws, seval, e_api_Disk, e_api_Write]
  unfold f_ledger_lay at h; unfold c45
  refine .seq ?_
  refine Rw.walk ?_
  simp only [wz, wd, ws, seval, c45r0, semI.eq_10, semI.eq_11, semI.eq_3, semI.eq_5, semI.eq_7, e_api_Disk, e_api_Write]
  refine .seq ?_
  refine Rw.walk ?_
  simp only [wz, wd, ws, seval, c45r1, semI.eq_10, semI.eq_11, semI.eq_3, semI.eq_5, semI.eq_7, e_api_Disk, e_api_Write]
  obtain ⟨t, e1, h⟩ := Option.bind_eq_some_iff.1 h
  refine call_fun [] false ⟨trivial, trivial, trivial, trivial⟩ rfl ?_ (f_ledger_room_ok _ _ _ e1) (fun _ => rfl) (fun i hi => by cases hi) ?_
  · simp only [wz, wd, ws, seval, e_api_Disk, e_api_Write]
  simp only [wz, wd, ws, seval, c45r1, semI.eq_10, semI.eq_11, semI.eq_3, semI.eq_5, semI.eq_7, e_api_Disk, e_api_Write]
  refine .seq ?_
  refine RwD.walk ?_
  obtain ⟨g2, h⟩ := gd_iff.1 h
  obtain ⟨g3, h⟩ := gd_iff.1 h
  simp only [wz, wd, ws, seval, c45r2, semI.eq_10, semI.eq_11, semI.eq_3, semI.eq_5, semI.eq_7, e_api_Disk, e_api_Write]
  repeat (refine And.intro ?_ ?_; · first | omega | (simp only [List.length_append, List.length_cons, List.length_nil] at *; omega) | (intro q; simp only [wz, wd, ws, seval, q]; done))
  obtain ⟨t2, e4, h⟩ := Option.bind_eq_some_iff.1 h
  refine call_fun [] false ⟨trivial, trivial, trivial, trivial⟩ rfl ?_ (f_strings_Repeat_ok _ _ _ e4) (fun _ => rfl) (fun i hi => by cases hi) ?_
  · simp only [wz, wd, ws, seval, e_api_Disk, e_api_Write]
  simp only [wz, wd, ws, seval, c45r2, semI.eq_10, semI.eq_11, semI.eq_3, semI.eq_5, semI.eq_7, e_api_Disk, e_api_Write]
  obtain ⟨g5, h⟩ := gd_iff.1 h
  repeat (refine And.intro ?_ ?_; · first | omega | (simp only [List.length_append, List.length_cons, List.length_nil] at *; omega) | (intro q; simp only [wz, wd, ws, seval, q]; done))
  refine .seq ?_
  refine Rw.walk ?_
  simp only [wz, wd, ws, seval, c45r3, semI.eq_10, semI.eq_11, semI.eq_3, semI.eq_5, semI.eq_7, e_api_Disk, e_api_Write]
  refine .seq ?_
  refine .seq ?_
  refine Rw.walk ?_
  simp only [wz, wd, ws, seval, c45r4, semI.eq_10, semI.eq_11, semI.eq_3, semI.eq_5, semI.eq_7, e_api_Disk, e_api_Write]
  repeat (refine And.intro ?_ ?_; · first | omega | (simp only [List.length_append, List.length_cons, List.length_nil] at *; omega) | (intro q; simp only [wz, wd, ws, seval, q]; done))
  refine .blk ?_
  obtain ⟨s2, hf, h⟩ := Option.bind_eq_some_iff.1 h
  refine .weak (Imp.adoptN 14 61 2 rfl rfl) ?_
  simp only [wz, wd, ws, seval]
  refine .loop (.weak (Imp.co [] _ _ ?c1 ?c2 ?c3 ?c4 ?c5) (f_ledger_lay_l8_ok d gen used s t t2 _ _ hR _ _ _ _ hf _ ?_))
  case c1 | c2 | c3 | c4 | c5 => simp only [wz, wd, ws, seval, wi, er_nil, e_api_Disk, e_api_Write]
  · intro s2_ hs; subst hs
    refine .seq ?_
    obtain ⟨s3, hf, h⟩ := Option.bind_eq_some_iff.1 h
    refine W.cut1 ⟨lkT [(2, .b (.s (.d (.int .i64 gen)))), (3, .b (.s (.d (.int .i64 used)))), (4, .b (.s (.d (.str s)))), (11, .b (.s (.d (.int .i64 t.1)))), (14, .b (.s (.d (.sl (s3.map e_api_Write)))))], lkG []⟩ ?_ (fun tail => ?_)
    · skip
      refine .seq ?_
      refine Rw.walk ?_
      simp only [wz, wd, ws, seval, c45r10, semI.eq_10, semI.eq_11, semI.eq_3, semI.eq_5, semI.eq_7, e_api_Disk, e_api_Write]
      obtain ⟨t3, e8, h⟩ := Option.bind_eq_some_iff.1 h
      refine call_fun [] false ⟨trivial, trivial, trivial, trivial⟩ rfl ?_ (f_ledger_head_ok _ _ _ e8) (fun _ => rfl) (fun i hi => by cases hi) ?_
      · simp only [wz, wd, ws, seval, e_api_Disk, e_api_Write]
      simp only [wz, wd, ws, seval, c45r10, semI.eq_10, semI.eq_11, semI.eq_3, semI.eq_5, semI.eq_7, e_api_Disk, e_api_Write]
      refine Go1.of (sem_bsl (enc := e_api_Write) (m := ([(api_Write.mk t.1 t3)] : List api_Write)) e_api_Write_len (by rfl) (by rfl) (by rfl) ⟨trivial, trivial⟩) ?_
      simp only [wz, wd, ws, seval, c45r10, semI.eq_10, semI.eq_11, semI.eq_3, semI.eq_5, semI.eq_7, e_api_Disk, e_api_Write]
      simp only [wz, wd, ws, seval, c45r10, semI.eq_10, semI.eq_11, semI.eq_3, semI.eq_5, semI.eq_7, semI.eq_8, e_api_Disk, e_api_Write]
      obtain rfl := Option.some.inj h
      refine .ret ?_
      rw [← hR]
      simp only [wz, wd, ws, seval, rv45, e_api_Disk, e_api_Write]
    replace h := hf
    refine .seq ?_
    refine Rw.walk ?_
    simp only [wz, wd, ws, seval, c45r8, semI.eq_10, semI.eq_11, semI.eq_3, semI.eq_5, semI.eq_7, e_api_Disk, e_api_Write]
    refine .cond (p := (s == ([] : Str))) (by first | rfl | simp only [wz, wd, ws, seval]) (fun h1 => ?_) (fun h1 => ?_)
    · rw [ite_t h1] at h
      refine Rw.walk ?_
      simp only [wz, wd, ws, seval, c45r9, semI.eq_10, semI.eq_11, semI.eq_3, semI.eq_5, semI.eq_7, e_api_Disk, e_api_Write]
      obtain rfl := Option.some.inj h
      refine .weak (Imp.co [] _ _ ?_ ?_ ?_ ?_ ?_) (tail) <;> simp only [wz, wd, ws, seval, wi, er_nil, e_api_Disk, e_api_Write]
    · rw [ite_f h1] at h
      refine .skip ?_
      obtain rfl := Option.some.inj h
      refine .weak (Imp.co [61] _ _ ?_ ?_ ?_ ?_ ?_) (tail) <;> simp only [wz, wd, ws, seval, wi, er_nil, e_api_Disk, e_api_Write]
-- 21 consignor/ledger.Steps
def c21r0 : List Opn := [
  ⟨(some 3), none, .box 6 (.t 0)⟩, 
  ⟨(some 6), none, .mv (.c (.s .nils))⟩, 
  ⟨(some 7), none, .mv (.c (.s (.d (.int .i64 0))))⟩]
def c21r1 : List Opn := [
  ⟨(some 15), none, .load true 6 (.t 3)⟩, 
  ⟨(some 16), none, .call (.fn 16) [(.t 15)]⟩, 
  ⟨(some 17), none, .un .not (.t 16)⟩]
def c21r2 : List Opn := [
  ⟨(some 6), none, .mv (.c (.s .nils))⟩, 
  ⟨(some 7), none, .mv (.c (.s (.d (.int .i64 1))))⟩]
def c21r3 : List Opn := [
  ⟨(some 19), none, .mv (.t 2)⟩, 
  ⟨(some 20), none, .call (.fn 44) [(.t 19)]⟩, 
  ⟨(some 18), none, .mv (.t 20)⟩, 
  ⟨(some 21), none, .ext (.t 18) 0⟩, 
  ⟨(some 22), none, .ext (.t 18) 1⟩, 
  ⟨(some 8), none, .mv (.t 21)⟩, 
  ⟨(some 9), none, .mv (.t 22)⟩]
def c21r4 : List Opn := [
  ⟨(some 23), none, .mv (.t 9)⟩, 
  ⟨(some 24), none, .bin .neq (.t 23) (.c (.s (.d (.int .i64 0))))⟩]
def c21r5 : List Opn := [
  ⟨(some 25), none, .mv (.t 9)⟩, 
  ⟨(some 6), none, .mv (.c (.s .nils))⟩, 
  ⟨(some 7), none, .mv (.t 25)⟩]
def c21r6 : List Opn := [
  ⟨(some 26), none, .fadr 2 (.t 3)⟩, 
  ⟨(some 27), none, .load false 1 (.t 26)⟩, 
  ⟨(some 28), none, .fadr 3 (.t 3)⟩, 
  ⟨(some 29), none, .load false 1 (.t 28)⟩, 
  ⟨(some 30), none, .fadr 4 (.t 3)⟩, 
  ⟨(some 31), none, .load false 1 (.t 30)⟩, 
  ⟨(some 10), none, .mv (.t 27)⟩, 
  ⟨(some 11), none, .mv (.t 29)⟩, 
  ⟨(some 12), none, .mv (.t 31)⟩]
def c21r7 : List Opn := [
  ⟨(some 32), none, .mv (.t 1)⟩]
def c21r8 : List Opn := [
  ⟨(some 33), none, .fadr 2 (.t 3)⟩, 
  ⟨(some 34), none, .load false 1 (.t 33)⟩, 
  ⟨(some 35), none, .bin .sub (.c (.s (.d (.int .i64 1)))) (.t 34)⟩, 
  ⟨(some 36), none, .fadr 3 (.t 3)⟩, 
  ⟨(some 37), none, .load false 1 (.t 36)⟩, 
  ⟨(some 38), none, .bin .add (.t 37) (.c (.s (.d (.int .i64 1))))⟩, 
  ⟨(some 10), none, .mv (.t 35)⟩, 
  ⟨(some 11), none, .mv (.t 38)⟩, 
  ⟨(some 12), none, .mv (.c (.s (.d (.int .i64 0))))⟩]
def c21r9 : List Opn := [
  ⟨(some 40), none, .fadr 0 (.t 3)⟩, 
  ⟨(some 41), none, .load true 2 (.t 40)⟩, 
  ⟨(some 42), none, .mv (.t 10)⟩, 
  ⟨(some 43), none, .call (.fn 33) [(.t 41), (.t 42)]⟩, 
  ⟨(some 39), none, .mv (.t 43)⟩, 
  ⟨(some 44), none, .ext (.t 39) 0⟩, 
  ⟨(some 45), none, .ext (.t 39) 1⟩, 
  ⟨(some 13), none, .mv (.t 44)⟩, 
  ⟨(some 14), none, .mv (.t 45)⟩]
def c21r10 : List Opn := [
  ⟨(some 46), none, .mv (.t 8)⟩, 
  ⟨(some 47), none, .len .str (.t 46)⟩, 
  ⟨(some 48), none, .mv (.t 14)⟩, 
  ⟨(some 49), none, .len .str (.t 48)⟩, 
  ⟨(some 50), none, .mv (.t 12)⟩, 
  ⟨(some 51), none, .bin .sub (.t 49) (.t 50)⟩, 
  ⟨(some 52), none, .bin .gtr (.t 47) (.t 51)⟩, 
  ⟨(some 53), none, .mv (.t 52)⟩, 
  ⟨(some 54), some (53, false), .mv (.t 11)⟩, 
  ⟨(some 55), some (53, false), .bin .gtr (.t 54) (.c (.s (.d (.int .i64 1099511627776))))⟩, 
  ⟨(some 56), none, .pick (.t 53) (.c (.s (.d (.bool true)))) (.t 55)⟩]
def c21r11 : List Opn := [
  ⟨(some 6), none, .mv (.c (.s .nils))⟩, 
  ⟨(some 7), none, .mv (.c (.s (.d (.int .i64 13))))⟩]
def c21r12 : List Opn := [
  ⟨(some 57), none, .fadr 0 (.t 3)⟩, 
  ⟨(some 58), none, .load true 2 (.t 57)⟩, 
  ⟨(some 59), none, .mv (.t 10)⟩, 
  ⟨(some 60), none, .mv (.t 11)⟩, 
  ⟨(some 61), none, .mv (.t 12)⟩, 
  ⟨(some 62), none, .mv (.t 8)⟩, 
  ⟨(some 63), none, .call (.fn 45) [(.t 58), (.t 59), (.t 60), (.t 61), (.t 62)]⟩, 
  ⟨(some 6), none, .mv (.t 63)⟩, 
  ⟨(some 7), none, .mv (.c (.s (.d (.int .i64 0))))⟩]
def c21 : C := .seq (.reg c21r0 none [1, 2, 3]) (.seq (.seq (.reg c21r1 none [1, 2, 3, 17]) (.cond (.t 17) (.seq (.reg c21r2 none [6, 7]) (.ret)) (.skip))) (.seq (.reg c21r3 none [1, 3, 8, 9]) (.seq (.seq (.reg c21r4 none [1, 3, 8, 9, 24]) (.cond (.t 24) (.seq (.reg c21r5 none [6, 7]) (.ret)) (.skip))) (.seq (.reg c21r6 (some [0, 1, 0, 4, 0, 16, 3, 79, 255]) [1, 3, 8, 10, 11, 12]) (.seq (.seq (.reg c21r7 none [3, 8, 10, 11, 12, 32]) (.cond (.t 32) (.reg c21r8 (some [0, 1, 3, 0, 8, 24, 7, 127, 255]) [3, 8, 10, 11, 12]) (.skip))) (.seq (.seq (.reg c21r9 none [3, 8, 10, 11, 12, 14]) (.seq (.reg c21r10 none [3, 8, 10, 11, 12, 56]) (.cond (.t 56) (.seq (.reg c21r11 none [6, 7]) (.ret)) (.skip)))) (.seq (.reg c21r12 none [6, 7]) (.ret))))))))
def k21 : List (Nat × List Nat) := [(12, [6, 7]), (11, [6, 7]), (10, [3, 8, 10, 11, 12, 56]), (9, [3, 8, 10, 11, 12, 14]), (8, [3, 8, 10, 11, 12]), (7, [3, 8, 10, 11, 12, 32]), (6, [1, 3, 8, 10, 11, 12]), (5, [6, 7]), (4, [1, 3, 8, 9, 24]), (3, [1, 3, 8, 9]), (2, [6, 7]), (1, [1, 2, 3, 17]), (0, [1, 2, 3])]
theorem cc21 : (Try.f21.body).bind (cC Try.prog 64 k21) = some c21 := by kernel_rfl
def rv21 : List RV := [.t 6, .t 7]
theorem cr21 : cRVs Try.prog Try.f21.results.toList = some rv21 := by kernel_rfl
theorem f_ledger_Steps_ok (l : api_Ledger) (renew : Bool) (news : (List Str)) (y_ : (List (List api_Write)) × Int) (h : f_ledger_Steps l renew news = some y_) : Fun Try.prog glP 21 [.b (.agg ((e_api_Ledger l).map Lc.d)), .b (.s (.d (.bool renew))), .b (.s (.d (.sl (news.map eS))))] (.tup [.s (.d (.sl (y_.1.map (eL e_api_Write)))), .s (.d (.int .i64 y_.2))]) := by
  refine fun_walk [] Try.func21 Try.ntmps21 cc21 cr21 (by kernel_rfl) (by simp only [List.length_cons, List.length_nil]; decide) ?_
  generalize hR : Ret _ _ _ _ _ = R_
  simp only [wz, wd, ws, seval, e_api_Ledger, e_api_Disk, e_api_Write]
  unfold f_ledger_Steps at h; unfold c21
  refine .seq ?_
  refine Rw.walk ?_
  simp only [wz, wd, ws, seval, c21r0, semI.eq_10, semI.eq_11, semI.eq_3, semI.eq_5, semI.eq_7, e_api_Ledger, e_api_Disk, e_api_Write]
  refine .seq ?_
  refine .seq ?_
  refine Rw.walk ?_
  simp only [wz, wd, ws, seval, c21r1, semI.eq_10, semI.eq_11, semI.eq_3, semI.eq_5, semI.eq_7, e_api_Ledger, e_api_Disk, e_api_Write]
  obtain ⟨t, e1, h⟩ := Option.bind_eq_some_iff.1 h
  refine call_fun [] false ⟨trivial, trivial, trivial⟩ rfl ?_ (f_ledger_Right_ok _ _ e1) (fun _ => rfl) (fun i hi => by cases hi) ?_
  · simp only [wz, wd, ws, seval, e_api_Ledger, e_api_Disk, e_api_Write]
  simp only [wz, wd, ws, seval, c21r1, semI.eq_10, semI.eq_11, semI.eq_3, semI.eq_5, semI.eq_7, e_api_Ledger, e_api_Disk, e_api_Write]
  refine .cond (p := (!t)) (by first | rfl | simp only [wz, wd, ws, seval]) (fun h1 => ?_) (fun h1 => ?_)
  · rw [ite_t h1] at h
    refine .seq ?_
    refine Rw.walk ?_
    simp only [wz, wd, ws, seval, c21r2, semI.eq_10, semI.eq_11, semI.eq_3, semI.eq_5, semI.eq_7, e_api_Ledger, e_api_Disk, e_api_Write]
    obtain rfl := Option.some.inj h
    refine .ret ?_
    rw [← hR]
    simp only [wz, wd, ws, seval, rv21, e_api_Ledger, e_api_Disk, e_api_Write]
  · rw [ite_f h1] at h
    refine .skip ?_
    refine .seq ?_
    refine Rw.walk ?_
    simp only [wz, wd, ws, seval, c21r3, semI.eq_10, semI.eq_11, semI.eq_3, semI.eq_5, semI.eq_7, e_api_Ledger, e_api_Disk, e_api_Write]
    obtain ⟨t2, e2, h⟩ := Option.bind_eq_some_iff.1 h
    refine call_fun [] false ⟨trivial, trivial, trivial⟩ rfl ?_ (f_octet_Bind_ok _ _ e2) (fun _ => rfl) (fun i hi => by cases hi) ?_
    · simp only [wz, wd, ws, seval, e_api_Ledger, e_api_Disk, e_api_Write]
    simp only [wz, wd, ws, seval, c21r3, semI.eq_10, semI.eq_11, semI.eq_3, semI.eq_5, semI.eq_7, e_api_Ledger, e_api_Disk, e_api_Write]
    refine .seq ?_
    refine .seq ?_
    refine Rw.walk ?_
    simp only [wz, wd, ws, seval, c21r4, semI.eq_10, semI.eq_11, semI.eq_3, semI.eq_5, semI.eq_7, e_api_Ledger, e_api_Disk, e_api_Write]
    refine .cond (p := (t2.2 != 0)) (by first | rfl | simp only [wz, wd, ws, seval]) (fun h1 => ?_) (fun h1 => ?_)
    · rw [ite_t h1] at h
      refine .seq ?_
      refine Rw.walk ?_
      simp only [wz, wd, ws, seval, c21r5, semI.eq_10, semI.eq_11, semI.eq_3, semI.eq_5, semI.eq_7, e_api_Ledger, e_api_Disk, e_api_Write]
      obtain rfl := Option.some.inj h
      refine .ret ?_
      rw [← hR]
      simp only [wz, wd, ws, seval, rv21, e_api_Ledger, e_api_Disk, e_api_Write]
    · rw [ite_f h1] at h
      refine .skip ?_
      refine .seq ?_
      refine RwD.walk ?_
      simp only [wz, wd, ws, seval, c21r6, semI.eq_10, semI.eq_11, semI.eq_3, semI.eq_5, semI.eq_7, e_api_Ledger, e_api_Disk, e_api_Write]
      refine .seq ?_
      obtain ⟨s, hf, h⟩ := Option.bind_eq_some_iff.1 h
      refine W.cut1 ⟨lkT [(3, .b (.s (.ptr 3 1 0 0))), (8, .b (.s (.d (.str t2.1)))), (10, .b (.s (.d (.int .i64 s.1)))), (11, .b (.s (.d (.int .i64 s.2.1)))), (12, .b (.s (.d (.int .i64 s.2.2))))], lkG [(3, ⟨6, [[(.d (.sl (l.Disk.Sectors.map eS))), (.d (.sl (l.Disk.Dirty.map e_api_Write))), (.d (.int .i64 l.Half)), (.d (.int .i64 l.Gen)), (.d (.int .i64 l.Used)), (.d (.sl (l.Entries.map eS)))]], false⟩)]⟩ ?_ (fun tail => ?_)
      · skip
        refine .seq ?_
        refine .seq ?_
        refine Rw.walk ?_
        simp only [wz, wd, ws, seval, c21r9, semI.eq_10, semI.eq_11, semI.eq_3, semI.eq_5, semI.eq_7, e_api_Ledger, e_api_Disk, e_api_Write]
        obtain ⟨t3, e3, h⟩ := Option.bind_eq_some_iff.1 h
        refine call_fun [] false ⟨trivial, trivial, trivial, trivial⟩ rfl ?_ (f_ledger_room_ok _ _ _ e3) (fun _ => rfl) (fun i hi => by cases hi) ?_
        · simp only [wz, wd, ws, seval, e_api_Ledger, e_api_Disk, e_api_Write]
        simp only [wz, wd, ws, seval, c21r9, semI.eq_10, semI.eq_11, semI.eq_3, semI.eq_5, semI.eq_7, e_api_Ledger, e_api_Disk, e_api_Write]
        refine .seq ?_
        refine Rw.walk ?_
        simp only [wz, wd, ws, seval, c21r10, semI.eq_10, semI.eq_11, semI.eq_3, semI.eq_5, semI.eq_7, e_api_Ledger, e_api_Disk, e_api_Write]
        repeat (refine And.intro ?_ ?_; · first | omega | (simp only [List.length_append, List.length_cons, List.length_nil] at *; omega) | (intro q; simp only [wz, wd, ws, seval, q]; done))
        refine .cond (p := ((decide ((t2.1.length : Int) > (IntKind.i64.wrap ((t3.2.length : Int) - s.2.2)))) || (decide (s.2.1 > 1099511627776)))) (by first | rfl | simp only [wz, wd, ws, seval]) (fun h1 => ?_) (fun h1 => ?_)
        · rw [ite_t h1] at h
          refine .seq ?_
          refine Rw.walk ?_
          simp only [wz, wd, ws, seval, c21r11, semI.eq_10, semI.eq_11, semI.eq_3, semI.eq_5, semI.eq_7, e_api_Ledger, e_api_Disk, e_api_Write]
          obtain rfl := Option.some.inj h
          refine .ret ?_
          rw [← hR]
          simp only [wz, wd, ws, seval, rv21, e_api_Ledger, e_api_Disk, e_api_Write]
        · rw [ite_f h1] at h
          refine .skip ?_
          refine .seq ?_
          refine Rw.walk ?_
          simp only [wz, wd, ws, seval, c21r12, semI.eq_10, semI.eq_11, semI.eq_3, semI.eq_5, semI.eq_7, e_api_Ledger, e_api_Disk, e_api_Write]
          obtain ⟨t4, e4, h⟩ := Option.bind_eq_some_iff.1 h
          refine call_fun [] true ⟨trivial, trivial, trivial, trivial, trivial, trivial, trivial⟩ rfl ?_ (f_ledger_lay_ok _ _ _ _ _ _ e4) (fun h => by cases h) (fun i hi => by cases hi) ?_
          · simp only [wz, wd, ws, seval, e_api_Ledger, e_api_Disk, e_api_Write]
          simp only [wz, wd, ws, seval, c21r12, semI.eq_10, semI.eq_11, semI.eq_3, semI.eq_5, semI.eq_7, e_api_Ledger, e_api_Disk, e_api_Write]
          obtain rfl := Option.some.inj h
          refine .ret ?_
          rw [← hR]
          simp only [wz, wd, ws, seval, rv21, e_api_Ledger, e_api_Disk, e_api_Write]
      replace h := hf
      refine .seq ?_
      refine Rw.walk ?_
      simp only [wz, wd, ws, seval, c21r7, semI.eq_10, semI.eq_11, semI.eq_3, semI.eq_5, semI.eq_7, e_api_Ledger, e_api_Disk, e_api_Write]
      refine .cond (p := renew) (by first | rfl | simp only [wz, wd, ws, seval]) (fun h1 => ?_) (fun h1 => ?_)
      · rw [ite_t h1] at h
        refine RwD.walk ?_
        simp only [wz, wd, ws, seval, c21r8, semI.eq_10, semI.eq_11, semI.eq_3, semI.eq_5, semI.eq_7, e_api_Ledger, e_api_Disk, e_api_Write]
        obtain rfl := Option.some.inj h
        refine .weak (Imp.co [] _ _ ?_ ?_ ?_ ?_ ?_) (tail) <;> simp only [wz, wd, ws, seval, wi, er_nil, e_api_Ledger, e_api_Disk, e_api_Write]
      · rw [ite_f h1] at h
        refine .skip ?_
        obtain rfl := Option.some.inj h
        refine .weak (Imp.co [] _ _ ?_ ?_ ?_ ?_ ?_) (tail) <;> simp only [wz, wd, ws, seval, wi, er_nil, e_api_Ledger, e_api_Disk, e_api_Write]
-- 47 slices.Clip[[]consignor/api.Write,consignor/api.Write]
def c47r0 : List Opn := [
  ⟨(some 2), none, .mv (.c (.s .nils))⟩]
def c47r1 : List Opn := [
  ⟨(some 3), none, .mv (.t 0)⟩, 
  ⟨(some 4), none, .mv (.t 0)⟩, 
  ⟨(some 5), none, .len (.sl 0) (.t 4)⟩, 
  ⟨(some 6), none, .mv (.t 0)⟩, 
  ⟨(some 7), none, .len (.sl 0) (.t 6)⟩, 
  ⟨(some 8), none, .slc (.sl 2) (.t 3) none (some (.t 5)) (some (.t 7))⟩, 
  ⟨(some 2), none, .mv (.t 8)⟩]
def c47 : C := .seq (.reg c47r0 none [0]) (.seq (.reg c47r1 none [2]) (.ret))
def k47 : List (Nat × List Nat) := [(1, [2]), (0, [0])]
theorem cc47 : (Try.f47.body).bind (cC Try.prog 9 k47) = some c47 := by kernel_rfl
def rv47 : List RV := [.t 2]
theorem cr47 : cRVs Try.prog Try.f47.results.toList = some rv47 := by kernel_rfl
theorem f_slices_Clip_api_Write_api_Write_ok (s : (List api_Write)) (y_ : (List api_Write)) (h : f_slices_Clip_api_Write_api_Write s = some y_) : Fun Try.prog glP 47 [.b (.s (.d (.sl (s.map e_api_Write))))] (.b (.s (.full (y_.map e_api_Write)))) := by
  refine fun_walk [] Try.func47 Try.ntmps47 cc47 cr47 (by kernel_rfl) (by simp only [List.length_cons, List.length_nil]; decide) ?_
  generalize hR : Ret _ _ _ _ _ = R_
  simp only [wz, wd, ws, seval, e_api_Write]
  unfold f_slices_Clip_api_Write_api_Write at h; unfold c47
  refine .seq ?_
  refine Rw.walk ?_
  simp only [wz, wd, ws, seval, c47r0, semI.eq_10, semI.eq_11, semI.eq_3, semI.eq_5, semI.eq_7]
  refine .seq ?_
  refine Rw.walk ?_
  simp only [wz, wd, ws, seval, c47r1, semI.eq_10, semI.eq_11, semI.eq_3, semI.eq_5, semI.eq_7]
  obtain ⟨g1, h⟩ := gd_iff.1 h
  repeat (refine And.intro ?_ ?_; · first | omega | (simp only [List.length_append, List.length_cons, List.length_nil] at *; omega) | (intro q; simp only [wz, wd, ws, seval, q]; done))
  refine Go1.of (sem_slc3 (hi := none) (p := 0) (q := (s.length : Int)) (r := (s.length : Int)) e_api_Write_len (by rfl) (by rfl) (by rfl) (by rfl)) ?_
  simp only [wz, wd, ws, seval, c47r1, semI.eq_10, semI.eq_11, semI.eq_3, semI.eq_5, semI.eq_7]
  repeat (refine And.intro ?_ ?_; · first | omega | (simp only [List.length_append, List.length_cons, List.length_nil] at *; omega) | (intro q; simp only [wz, wd, ws, seval, q]; done))
  obtain rfl := Option.some.inj h
  refine .ret ?_
  rw [← hR]
  simp only [wz, wd, ws, seval, rv47]
-- 27 consignor/disk.Save
def c27r0 : List Opn := [
  ⟨(some 2), none, .box 2 (.t 0)⟩, 
  ⟨(some 4), none, .new [.nils, .nils]⟩, 
  ⟨(some 5), none, .mv (.c (.s (.d (.int .i64 0))))⟩]
def c27r1 : List Opn := [
  ⟨(some 7), none, .load true 2 (.t 2)⟩, 
  ⟨(some 8), none, .call (.fn 31) [(.t 7)]⟩, 
  ⟨(some 9), none, .un .not (.t 8)⟩, 
  ⟨(some 10), none, .mv (.t 9)⟩, 
  ⟨(some 11), some (10, false), .mv (.t 1)⟩, 
  ⟨(some 12), some (10, false), .fadr 0 (.t 2)⟩, 
  ⟨(some 13), some (10, false), .load false 1 (.t 12)⟩, 
  ⟨(some 14), some (10, false), .len (.sl 0) (.t 13)⟩, 
  ⟨(some 15), some (10, false), .call (.fn 46) [(.t 11), (.t 14)]⟩, 
  ⟨(some 16), some (10, false), .un .not (.t 15)⟩, 
  ⟨(some 17), none, .pick (.t 10) (.c (.s (.d (.bool true)))) (.t 16)⟩, 
  ⟨(some 6), none, .mv (.t 17)⟩]
def c27r2 : List Opn := [
  ⟨(some 18), none, .build [.nils, .nils] []⟩, 
  ⟨none, none, .store 2 (.t 4) (.t 18)⟩, 
  ⟨(some 5), none, .mv (.c (.s (.d (.int .i64 1))))⟩]
def c27r3 : List Opn := [
  ⟨(some 20), none, .fadr 1 (.t 2)⟩, 
  ⟨(some 21), none, .load false 1 (.t 20)⟩, 
  ⟨(some 22), none, .len (.sl 0) (.t 21)⟩, 
  ⟨(some 23), none, .mv (.t 1)⟩, 
  ⟨(some 24), none, .len (.sl 0) (.t 23)⟩, 
  ⟨(some 25), none, .bin .add (.t 22) (.t 24)⟩, 
  ⟨(some 26), none, .bin .gtr (.t 25) (.c (.s (.d (.int .i64 200))))⟩, 
  ⟨(some 19), none, .mv (.t 26)⟩]
def c27r4 : List Opn := [
  ⟨(some 27), none, .build [.nils, .nils] []⟩, 
  ⟨none, none, .store 2 (.t 4) (.t 27)⟩, 
  ⟨(some 5), none, .mv (.c (.s (.d (.int .i64 13))))⟩]
def c27r5 : List Opn := [
  ⟨(some 28), none, .fadr 1 (.t 2)⟩, 
  ⟨(some 29), none, .load false 1 (.t 28)⟩, 
  ⟨(some 30), none, .call (.fn 47) [(.t 29)]⟩, 
  ⟨(some 31), none, .mv (.t 1)⟩, 
  ⟨(some 32), none, .app 2 24 false (.t 30) (.t 31)⟩, 
  ⟨(some 33), none, .fadr 1 (.t 2)⟩, 
  ⟨none, none, .store 1 (.t 33) (.t 32)⟩]
def c27r6 : List Opn := [
  ⟨(some 34), none, .load true 2 (.t 2)⟩, 
  ⟨none, none, .store 2 (.t 4) (.t 34)⟩, 
  ⟨(some 5), none, .mv (.c (.s (.d (.int .i64 0))))⟩]
def c27 : C := .seq (.reg c27r0 none [1, 2, 4]) (.seq (.blk 0 (.seq (.reg c27r1 none [1, 2, 4, 6]) (.cond (.t 6) (.seq (.reg c27r2 none [4, 5]) (.ret)) (.seq (.reg c27r3 none [1, 2, 4, 19]) (.cond (.t 19) (.seq (.reg c27r4 none [4, 5]) (.ret)) (.skip)))))) (.seq (.reg c27r5 none [2, 4]) (.seq (.reg c27r6 none [4, 5]) (.ret))))
def k27 : List (Nat × List Nat) := [(6, [4, 5]), (5, [2, 4]), (2, [4, 5]), (4, [4, 5]), (3, [1, 2, 4, 19]), (1, [1, 2, 4, 6]), (0, [1, 2, 4])]
theorem cc27 : (Try.f27.body).bind (cC Try.prog 35 k27) = some c27 := by kernel_rfl
def rv27 : List RV := [.c 4 true 2, .t 5]
theorem cr27 : cRVs Try.prog Try.f27.results.toList = some rv27 := by kernel_rfl
theorem f_disk_Save_ok (d : api_Disk) (w : (List api_Write)) (y_ : api_Disk × Int) (h : f_disk_Save d w = some y_) : Fun Try.prog glP 27 [.b (.agg ((e_api_Disk d).map Lc.d)), .b (.s (.d (.sl (w.map e_api_Write))))] (.tup [.agg ((e_api_Disk y_.1).map Lc.d), .s (.d (.int .i64 y_.2))]) := by
  refine fun_walk [] Try.func27 Try.ntmps27 cc27 cr27 (by kernel_rfl) (by simp only [List.length_cons, List.length_nil]; decide) ?_
  generalize hR : Ret _ _ _ _ _ = R_
  simp only [wz, wd, ws, seval, e_api_Disk, e_api_Write]
  unfold f_disk_Save at h; unfold c27
  refine .seq ?_
  refine Rw.walk ?_
  simp only [wz, wd, ws, seval, c27r0, semI.eq_10, semI.eq_11, semI.eq_3, semI.eq_5, semI.eq_7, e_api_Disk, e_api_Write]
  refine .seq ?_
  refine .blk ?_
  refine .seq ?_
  refine Rw.walk ?_
  simp only [wz, wd, ws, seval, c27r1, semI.eq_10, semI.eq_11, semI.eq_3, semI.eq_5, semI.eq_7, e_api_Disk, e_api_Write]
  obtain ⟨t, e1, h⟩ := Option.bind_eq_some_iff.1 h
  refine call_fun [] false ⟨trivial, trivial, trivial⟩ rfl ?_ (f_disk_Right_ok _ _ e1) (fun _ => rfl) (fun i hi => by cases hi) ?_
  · simp only [wz, wd, ws, seval, e_api_Disk, e_api_Write]
  simp only [wz, wd, ws, seval, c27r1, semI.eq_10, semI.eq_11, semI.eq_3, semI.eq_5, semI.eq_7, e_api_Disk, e_api_Write]
  refine call_alt (v := .b (.s (.d (.sl (d.Sectors.map eS))))) rfl rfl (by simp only [wz, wd, ws, seval]) (fun q => ⟨_, by simp only [wz, wd, ws, seval, semI.eq_10, e_api_Disk, e_api_Write], trivial⟩) ?_
  simp only [wz, wd, ws, seval, c27r1, semI.eq_10, semI.eq_11, semI.eq_3, semI.eq_5, semI.eq_7, e_api_Disk, e_api_Write]
  obtain ⟨t2, e2, h⟩ := Option.bind_eq_some_iff.1 h
  refine call_funG [] rfl (by simp only [wz, wd, ws, seval]) rfl ?_ (fun q => (f_disk_well_ok _ _ _ (gx_iff e2 (by simpa using q)))) rfl (fun i hi => by cases hi) ?_
  · simp only [wz, wd, ws, seval, e_api_Disk, e_api_Write]
  simp only [wz, wd, ws, seval, c27r1, semI.eq_10, semI.eq_11, semI.eq_3, semI.eq_5, semI.eq_7, e_api_Disk, e_api_Write]
  repeat (refine And.intro ?_ ?_; · first | omega | (simp only [List.length_append, List.length_cons, List.length_nil] at *; omega) | (intro q; simp only [wz, wd, ws, seval, q]; done))
  refine .cond (p := ((!t) || (!t2))) (by first | rfl | simp only [wz, wd, ws, seval]) (fun h1 => ?_) (fun h1 => ?_)
  · rw [ite_t h1] at h
    refine .seq ?_
    refine Rw.walk ?_
    simp only [wz, wd, ws, seval, c27r2, semI.eq_10, semI.eq_11, semI.eq_3, semI.eq_5, semI.eq_7, e_api_Disk, e_api_Write]
    obtain rfl := Option.some.inj h
    refine .ret ?_
    rw [← hR]
    simp only [wz, wd, ws, seval, rv27, semI.eq_10, e_api_Disk, e_api_Write]
  · rw [ite_f h1] at h
    refine .seq ?_
    refine Rw.walk ?_
    simp only [wz, wd, ws, seval, c27r3, semI.eq_10, semI.eq_11, semI.eq_3, semI.eq_5, semI.eq_7, e_api_Disk, e_api_Write]
    refine .cond (p := (decide ((IntKind.i64.wrap ((d.Dirty.length : Int) + (w.length : Int))) > 200))) (by first | rfl | simp only [wz, wd, ws, seval]) (fun h1 => ?_) (fun h1 => ?_)
    · rw [ite_t h1] at h
      refine .seq ?_
      refine Rw.walk ?_
      simp only [wz, wd, ws, seval, c27r4, semI.eq_10, semI.eq_11, semI.eq_3, semI.eq_5, semI.eq_7, e_api_Disk, e_api_Write]
      obtain rfl := Option.some.inj h
      refine .ret ?_
      rw [← hR]
      simp only [wz, wd, ws, seval, rv27, semI.eq_10, e_api_Disk, e_api_Write]
    · rw [ite_f h1] at h
      refine .skip ?_
      refine .eblk ?_
      refine .seq ?_
      refine Rw.walk ?_
      simp only [wz, wd, ws, seval, c27r5, semI.eq_10, semI.eq_11, semI.eq_3, semI.eq_5, semI.eq_7, e_api_Disk, e_api_Write]
      obtain ⟨t3, e3, h⟩ := Option.bind_eq_some_iff.1 h
      refine call_fun [] true ⟨trivial, trivial, trivial⟩ rfl ?_ (f_slices_Clip_api_Write_api_Write_ok _ _ e3) (fun h => by cases h) (fun i hi => by cases hi) ?_
      · simp only [wz, wd, ws, seval, e_api_Disk, e_api_Write]
      simp only [wz, wd, ws, seval, c27r5, semI.eq_10, semI.eq_11, semI.eq_3, semI.eq_5, semI.eq_7, e_api_Disk, e_api_Write]
      obtain ⟨g4, h⟩ := gd_iff.1 h
      refine Go1.of (sem_appF (enc := e_api_Write) (m := w) e_api_Write_len (by rfl) ((by rfl))) ?_
      simp only [wz, wd, ws, seval, c27r5, semI.eq_10, semI.eq_11, semI.eq_3, semI.eq_5, semI.eq_7, e_api_Disk, e_api_Write]
      repeat (refine And.intro ?_ ?_; · first | omega | (simp only [List.length_append, List.length_cons, List.length_nil] at *; omega) | (intro q; simp only [wz, wd, ws, seval, q]; done))
      refine .seq ?_
      refine Rw.walk ?_
      simp only [wz, wd, ws, seval, c27r6, semI.eq_10, semI.eq_11, semI.eq_3, semI.eq_5, semI.eq_7, e_api_Disk, e_api_Write]
      obtain rfl := Option.some.inj h
      refine .ret ?_
      rw [← hR]
      simp only [wz, wd, ws, seval, rv27, semI.eq_10, e_api_Disk, e_api_Write]
-- 48 consignor/disk.ends
def c48r0 : List Opn := [
  ⟨(some 2), none, .box 2 (.t 0)⟩, 
  ⟨(some 4), none, .new [.nils, .nils]⟩]
def c48r1 : List Opn := [
  ⟨(some 9), none, .fadr 0 (.t 2)⟩, 
  ⟨(some 10), none, .load false 1 (.t 9)⟩, 
  ⟨(some 11), none, .call (.fn 63) [(.t 10)]⟩, 
  ⟨(some 5), none, .mv (.t 11)⟩]
def c48r2 : List Opn := [
  ⟨(some 12), none, .fadr 1 (.t 2)⟩, 
  ⟨(some 13), none, .load false 1 (.t 12)⟩, 
  ⟨(some 14), none, .len (.sl 0) (.t 13)⟩, 
  ⟨(some 15), none, .mv (.c (.s (.d (.int .i64 0))))⟩]
def c48r3 : List Opn := [
  ⟨(some 16), none, .bin .lss (.t 15) (.t 14)⟩]
def c48r4 : List Opn := [
  ⟨(some 17), none, .mv (.t 15)⟩, 
  ⟨(some 18), none, .iadr (.sl 2) (.t 13) (.t 15)⟩, 
  ⟨(some 19), none, .load true 2 (.t 18)⟩, 
  ⟨(some 7), none, .new [(.d (.int .i64 0)), (.d (.str []))]⟩, 
  ⟨(some 6), none, .mv (.t 17)⟩, 
  ⟨none, none, .store 2 (.t 7) (.t 19)⟩]
def c48r5 : List Opn := [
  ⟨(some 8), none, .mv (.c (.s (.d (.str []))))⟩]
def c48r6 : List Opn := [
  ⟨(some 20), none, .mv (.t 1)⟩, 
  ⟨(some 21), none, .mv (.t 6)⟩, 
  ⟨(some 22), none, .call (.t 20) [(.t 21)]⟩]
def c48r7 : List Opn := [
  ⟨(some 24), none, .bin .eql (.t 22) (.c (.s (.d (.int .i64 2))))⟩, 
  ⟨(some 23), none, .mv (.t 24)⟩]
def c48r8 : List Opn := [
  ⟨(some 26), none, .bin .eql (.t 22) (.c (.s (.d (.int .i64 1))))⟩, 
  ⟨(some 25), none, .mv (.t 26)⟩]
def c48r9 : List Opn := [
  ⟨(some 27), none, .mv (.t 5)⟩, 
  ⟨(some 28), none, .fadr 0 (.t 7)⟩, 
  ⟨(some 29), none, .load false 1 (.t 28)⟩, 
  ⟨(some 30), none, .iadr (.sl 1) (.t 27) (.t 29)⟩, 
  ⟨(some 31), none, .load false 1 (.t 30)⟩, 
  ⟨(some 32), none, .slc .str (.t 31) (some (.c (.s (.d (.int .i64 64))))) none none⟩, 
  ⟨(some 8), none, .mv (.t 32)⟩]
def c48r10 : List Opn := [
  ⟨(some 33), none, .mv (.t 5)⟩, 
  ⟨(some 34), none, .fadr 0 (.t 7)⟩, 
  ⟨(some 35), none, .load false 1 (.t 34)⟩, 
  ⟨(some 36), none, .fadr 1 (.t 7)⟩, 
  ⟨(some 37), none, .load false 1 (.t 36)⟩, 
  ⟨(some 38), none, .mv (.t 8)⟩, 
  ⟨(some 39), none, .len .str (.t 38)⟩, 
  ⟨(some 40), none, .bin .sub (.c (.s (.d (.int .i64 128)))) (.t 39)⟩, 
  ⟨(some 41), none, .slc .str (.t 37) none (some (.t 40)) none⟩, 
  ⟨(some 42), none, .mv (.t 8)⟩, 
  ⟨(some 43), none, .bin .add (.t 41) (.t 42)⟩, 
  ⟨(some 44), none, .iadr (.sl 1) (.t 33) (.t 35)⟩, 
  ⟨none, none, .store 1 (.t 44) (.t 43)⟩]
def c48r11 : List Opn := [
  ⟨(some 45), none, .bin .add (.t 15) (.c (.s (.d (.int .i64 1))))⟩, 
  ⟨(some 15), none, .mv (.t 45)⟩]
def c48l12 : C := .seq (.reg c48r3 none [1, 4, 5, 13, 14, 15, 16]) (.seq (.cond (.t 16) (.skip) (.exit 0)) (.seq (.blk 1 (.seq (.reg c48r4 none [1, 4, 5, 6, 7, 13, 14, 15]) (.seq (.reg c48r5 none [1, 4, 5, 6, 7, 8, 13, 14, 15]) (.seq (.reg c48r6 none [1, 4, 5, 7, 8, 13, 14, 15, 22]) (.blk 2 (.seq (.blk 4 (.seq (.blk 3 (.seq (.seq (.seq (.reg c48r7 none [1, 4, 5, 7, 8, 13, 14, 15, 22, 23]) (.cond (.t 23) (.exit 3) (.skip))) (.seq (.reg c48r8 none [1, 4, 5, 7, 8, 13, 14, 15, 25]) (.cond (.t 25) (.exit 4) (.skip)))) (.exit 2))) (.reg c48r9 none [1, 4, 5, 7, 8, 13, 14, 15]))) (.seq (.reg c48r10 (some [0, 0, 2, 0, 8, 0, 32, 96, 248, 0, 1016, 2047, 4095]) [1, 4, 5, 13, 14, 15]) (.exit 2)))))))) (.reg c48r11 none [1, 4, 5, 13, 14, 15])))
def c48r12 : List Opn := [
  ⟨(some 46), none, .mv (.t 5)⟩, 
  ⟨(some 47), none, .build [.nils, .nils] [(0, 1, (.t 46))]⟩, 
  ⟨none, none, .store 2 (.t 4) (.t 47)⟩]
def c48 : C := .seq (.reg c48r0 none [1, 2, 4]) (.seq (.reg c48r1 none [1, 2, 4, 5]) (.seq (.seq (.reg c48r2 none [1, 4, 5, 13, 14, 15]) (.blk 0 (.loop c48l12))) (.seq (.reg c48r12 none [4]) (.ret))))
def k48 : List (Nat × List Nat) := [(12, [4]), (11, [1, 4, 5, 13, 14, 15]), (10, [1, 4, 5, 13, 14, 15]), (9, [1, 4, 5, 7, 8, 13, 14, 15]), (8, [1, 4, 5, 7, 8, 13, 14, 15, 25]), (7, [1, 4, 5, 7, 8, 13, 14, 15, 22, 23]), (6, [1, 4, 5, 7, 8, 13, 14, 15, 22]), (5, [1, 4, 5, 6, 7, 8, 13, 14, 15]), (4, [1, 4, 5, 6, 7, 13, 14, 15]), (3, [1, 4, 5, 13, 14, 15, 16]), (2, [1, 4, 5, 13, 14, 15]), (1, [1, 2, 4, 5]), (0, [1, 2, 4])]
theorem cc48 : (Try.f48.body).bind (cC Try.prog 48 k48) = some c48 := by kernel_rfl
def rv48 : List RV := [.c 4 true 2]
theorem cr48 : cRVs Try.prog Try.f48.results.toList = some rv48 := by kernel_rfl
theorem f_disk_ends_l12_ok (d : api_Disk) (fate_f : FuncId) (fate_c : List Sc) (fate : Int → Option (Int)) (fate_h : ∀ (a0 : Int) (r : Int), fate a0 = some r → Fun Try.prog glP fate_f (.b (.s (.d (.int .i64 a0))) :: fate_c.map fun x => .b (.s (.d x))) (.b (.s (.d (.int .i64 r))))) (y_ : api_Disk) (R_ : St → Prop) (hR : (Ret Try.prog glP [11] rv48 (.b (.agg ((e_api_Disk y_).map Lc.d)))) = R_) : ∀ (m_ : Nat) (v15 : Int) (l : (List Str)) (res_ : Int × (List Str)) (h : f_disk_ends_l12 d fate m_ v15 l = some res_) (k_ : List It) (hx : ∀ s_ : Int × (List Str), res_ = s_ → W Try.prog glP 48 k_ ⟨lkT [(1, .b (.s (.d (.clo fate_f fate_c)))), (4, .b (.s (.ptr 4 1 0 0))), (5, .b (.s (.own 11 s_.2.length))), (13, .b (.s (.d (.sl (d.Dirty.map e_api_Write))))), (14, .b (.s (.d (.int .i64 (d.Dirty.length : Int))))), (15, .b (.s (.d (.int .i64 s_.1))))], lkG [(4, ⟨2, [[.nils, .nils]], false⟩), (11, ⟨1, er eS s_.2, false⟩)]⟩ R_), W Try.prog glP 48 (.c c48l12 :: .lp c48l12 :: .blk 0 :: k_) ⟨lkT [(1, .b (.s (.d (.clo fate_f fate_c)))), (4, .b (.s (.ptr 4 1 0 0))), (5, .b (.s (.own 11 l.length))), (13, .b (.s (.d (.sl (d.Dirty.map e_api_Write))))), (14, .b (.s (.d (.int .i64 (d.Dirty.length : Int))))), (15, .b (.s (.d (.int .i64 v15))))], lkG [(4, ⟨2, [[.nils, .nils]], false⟩), (11, ⟨1, er eS l, false⟩)]⟩ R_ := by
  intro m_; induction m_ with
  | zero => intro v15 l res_ h; rw [f_disk_ends_l12.eq_1] at h; cases h
  | succ m_ ih =>
    intro v15 l res_ h k_ hx; rw [f_disk_ends_l12.eq_2] at h; refine W.cdef c48l12.eq_1 ?_
    refine .seq ?_
    refine Rw.walk ?_
    simp only [wz, wd, ws, Nat.reduceAdd, Nat.reduceSub, Nat.reduceMul, Nat.reduceLeDiff, Nat.reduceEqDiff, Nat.reduceLT, Nat.reduceBEq, reduceIte, reduceCtorEq, Int.reduceToNat, Nat.reduceShiftRight, Nat.reduceAnd, Nat.reduceBneDiff, Nat.reduceBNe, c48r3, semI.eq_10, semI.eq_11, semI.eq_3, semI.eq_5, semI.eq_7, e_api_Disk, e_api_Write]
    refine .seq ?_
    refine .cond (p := (decide (v15 < (d.Dirty.length : Int)))) (by first | rfl | simp only [wz, wd, ws, Nat.reduceAdd, Nat.reduceSub, Nat.reduceMul, Nat.reduceLeDiff, Nat.reduceEqDiff, Nat.reduceLT, Nat.reduceBEq, reduceIte, reduceCtorEq, Int.reduceToNat, Nat.reduceShiftRight, Nat.reduceAnd, Nat.reduceBneDiff, Nat.reduceBNe]) (fun h1 => ?_) (fun h1 => ?_)
    · rw [ite_t h1] at h
      refine .skip ?_
      refine .seq ?_
      refine .blk ?_
      refine .seq ?_
      refine Rw.walk ?_
      simp only [wz, wd, ws, Nat.reduceAdd, Nat.reduceSub, Nat.reduceMul, Nat.reduceLeDiff, Nat.reduceEqDiff, Nat.reduceLT, Nat.reduceBEq, reduceIte, reduceCtorEq, Int.reduceToNat, Nat.reduceShiftRight, Nat.reduceAnd, Nat.reduceBneDiff, Nat.reduceBNe, c48r4, semI.eq_3, semI.eq_5, semI.eq_7, e_api_Disk, e_api_Write]
      obtain ⟨x, e2, h⟩ := Option.bind_eq_some_iff.1 h
      refine Go1.of (sem_iadr e_api_Write_len e2 (by rfl) (by rfl)) ?_
      simp only [wz, wd, ws, Nat.reduceAdd, Nat.reduceSub, Nat.reduceMul, Nat.reduceLeDiff, Nat.reduceEqDiff, Nat.reduceLT, Nat.reduceBEq, reduceIte, reduceCtorEq, Int.reduceToNat, Nat.reduceShiftRight, Nat.reduceAnd, Nat.reduceBneDiff, Nat.reduceBNe, c48r4, semI.eq_3, semI.eq_5, semI.eq_7, e_api_Disk, e_api_Write]
      refine Go1.of (semI.eq_10 ..) ?_
      simp only [wz, wd, ws, Nat.reduceAdd, Nat.reduceSub, Nat.reduceMul, Nat.reduceLeDiff, Nat.reduceEqDiff, Nat.reduceLT, Nat.reduceBEq, reduceIte, reduceCtorEq, Int.reduceToNat, Nat.reduceShiftRight, Nat.reduceAnd, Nat.reduceBneDiff, Nat.reduceBNe, c48r4, semI.eq_3, semI.eq_5, semI.eq_7, e_api_Disk, e_api_Write]
      refine Go1.of (semI.eq_11 ..) ?_
      simp only [wz, wd, ws, Nat.reduceAdd, Nat.reduceSub, Nat.reduceMul, Nat.reduceLeDiff, Nat.reduceEqDiff, Nat.reduceLT, Nat.reduceBEq, reduceIte, reduceCtorEq, Int.reduceToNat, Nat.reduceShiftRight, Nat.reduceAnd, Nat.reduceBneDiff, Nat.reduceBNe, c48r4, semI.eq_3, semI.eq_5, semI.eq_7, e_api_Disk, e_api_Write]
      refine .seq ?_
      refine Rw.walk ?_
      simp only [wz, wd, ws, Nat.reduceAdd, Nat.reduceSub, Nat.reduceMul, Nat.reduceLeDiff, Nat.reduceEqDiff, Nat.reduceLT, Nat.reduceBEq, reduceIte, reduceCtorEq, Int.reduceToNat, Nat.reduceShiftRight, Nat.reduceAnd, Nat.reduceBneDiff, Nat.reduceBNe, c48r5, semI.eq_10, semI.eq_11, semI.eq_3, semI.eq_5, semI.eq_7, e_api_Disk, e_api_Write]
      refine .seq ?_
      refine Rw.walk ?_
      simp only [wz, wd, ws, Nat.reduceAdd, Nat.reduceSub, Nat.reduceMul, Nat.reduceLeDiff, Nat.reduceEqDiff, Nat.reduceLT, Nat.reduceBEq, reduceIte, reduceCtorEq, Int.reduceToNat, Nat.reduceShiftRight, Nat.reduceAnd, Nat.reduceBneDiff, Nat.reduceBNe, c48r6, semI.eq_10, semI.eq_11, semI.eq_3, semI.eq_5, semI.eq_7, e_api_Disk, e_api_Write]
      obtain ⟨b, e3, h⟩ := Option.bind_eq_some_iff.1 h
      refine call_fun [] false ⟨trivial, trivial, trivial⟩ rfl ?_ (fate_h _ _ e3) (fun _ => rfl) (fun i hi => by cases hi) ?_
      · simp only [wz, wd, ws, Nat.reduceAdd, Nat.reduceSub, Nat.reduceMul, Nat.reduceLeDiff, Nat.reduceEqDiff, Nat.reduceLT, Nat.reduceBEq, reduceIte, reduceCtorEq, Int.reduceToNat, Nat.reduceShiftRight, Nat.reduceAnd, Nat.reduceBneDiff, Nat.reduceBNe, e_api_Disk, e_api_Write]
      simp only [wz, wd, ws, Nat.reduceAdd, Nat.reduceSub, Nat.reduceMul, Nat.reduceLeDiff, Nat.reduceEqDiff, Nat.reduceLT, Nat.reduceBEq, reduceIte, reduceCtorEq, Int.reduceToNat, Nat.reduceShiftRight, Nat.reduceAnd, Nat.reduceBneDiff, Nat.reduceBNe, c48r6, semI.eq_10, semI.eq_11, semI.eq_3, semI.eq_5, semI.eq_7, e_api_Disk, e_api_Write]
      refine .blk ?_
      refine .seq ?_
      refine .blk ?_
      refine .seq ?_
      refine .blk ?_
      refine .seq ?_
      refine .seq ?_
      refine .seq ?_
      refine Rw.walk ?_
      simp only [wz, wd, ws, Nat.reduceAdd, Nat.reduceSub, Nat.reduceMul, Nat.reduceLeDiff, Nat.reduceEqDiff, Nat.reduceLT, Nat.reduceBEq, reduceIte, reduceCtorEq, Int.reduceToNat, Nat.reduceShiftRight, Nat.reduceAnd, Nat.reduceBneDiff, Nat.reduceBNe, c48r7, semI.eq_10, semI.eq_11, semI.eq_3, semI.eq_5, semI.eq_7, e_api_Disk, e_api_Write]
      refine .cond (p := (b == 2)) (by first | rfl | simp only [wz, wd, ws, Nat.reduceAdd, Nat.reduceSub, Nat.reduceMul, Nat.reduceLeDiff, Nat.reduceEqDiff, Nat.reduceLT, Nat.reduceBEq, reduceIte, reduceCtorEq, Int.reduceToNat, Nat.reduceShiftRight, Nat.reduceAnd, Nat.reduceBneDiff, Nat.reduceBNe]) (fun h1 => ?_) (fun h1 => ?_)
      · rw [ite_t h1] at h
        refine .exit rfl ?_
        refine Rw.walk ?_
        simp only [wz, wd, ws, Nat.reduceAdd, Nat.reduceSub, Nat.reduceMul, Nat.reduceLeDiff, Nat.reduceEqDiff, Nat.reduceLT, Nat.reduceBEq, reduceIte, reduceCtorEq, Int.reduceToNat, Nat.reduceShiftRight, Nat.reduceAnd, Nat.reduceBneDiff, Nat.reduceBNe, c48r9, semI.eq_10, semI.eq_11, semI.eq_3, semI.eq_5, semI.eq_7, e_api_Disk, e_api_Write]
        obtain ⟨x2, e4, h⟩ := Option.bind_eq_some_iff.1 h
        refine Go1.of (sem_iadrO (l := l) e4 (by rfl) (by rfl) (by rfl)) ?_
        simp only [wz, wd, ws, Nat.reduceAdd, Nat.reduceSub, Nat.reduceMul, Nat.reduceLeDiff, Nat.reduceEqDiff, Nat.reduceLT, Nat.reduceBEq, reduceIte, reduceCtorEq, Int.reduceToNat, Nat.reduceShiftRight, Nat.reduceAnd, Nat.reduceBneDiff, Nat.reduceBNe, c48r9, semI.eq_10, semI.eq_11, semI.eq_3, semI.eq_5, semI.eq_7, e_api_Disk, e_api_Write, er_get e4]
        obtain ⟨g5, h⟩ := gd_iff.1 h
        repeat (refine And.intro ?_ ?_; · first | omega | (simp only [List.length_append, List.length_cons, List.length_nil] at *; omega) | (intro q; simp only [wz, wd, ws, Nat.reduceAdd, Nat.reduceSub, Nat.reduceMul, Nat.reduceLeDiff, Nat.reduceEqDiff, Nat.reduceLT, Nat.reduceBEq, reduceIte, reduceCtorEq, Int.reduceToNat, Nat.reduceShiftRight, Nat.reduceAnd, Nat.reduceBneDiff, Nat.reduceBNe, q]; done))
        refine .eblk ?_
        refine .seq ?_
        refine RwD.walk ?_
        simp only [wz, wd, ws, Nat.reduceAdd, Nat.reduceSub, Nat.reduceMul, Nat.reduceLeDiff, Nat.reduceEqDiff, Nat.reduceLT, Nat.reduceBEq, reduceIte, reduceCtorEq, Int.reduceToNat, Nat.reduceShiftRight, Nat.reduceAnd, Nat.reduceBneDiff, Nat.reduceBNe, c48r10, semI.eq_3, semI.eq_5, semI.eq_7, e_api_Disk, e_api_Write, er_get e4]
        refine GoD1.of (semI.eq_10 ..) ?_
        simp only [wz, wd, ws, Nat.reduceAdd, Nat.reduceSub, Nat.reduceMul, Nat.reduceLeDiff, Nat.reduceEqDiff, Nat.reduceLT, Nat.reduceBEq, reduceIte, reduceCtorEq, Int.reduceToNat, Nat.reduceShiftRight, Nat.reduceAnd, Nat.reduceBneDiff, Nat.reduceBNe, c48r10, semI.eq_3, semI.eq_5, semI.eq_7, e_api_Disk, e_api_Write, er_get e4]
        refine GoD1.of (semI.eq_10 ..) ?_
        simp only [wz, wd, ws, Nat.reduceAdd, Nat.reduceSub, Nat.reduceMul, Nat.reduceLeDiff, Nat.reduceEqDiff, Nat.reduceLT, Nat.reduceBEq, reduceIte, reduceCtorEq, Int.reduceToNat, Nat.reduceShiftRight, Nat.reduceAnd, Nat.reduceBneDiff, Nat.reduceBNe, c48r10, semI.eq_3, semI.eq_5, semI.eq_7, e_api_Disk, e_api_Write, er_get e4]
        obtain ⟨g6, h⟩ := gd_iff.1 h
        obtain ⟨g7, h⟩ := gd_iff.1 h
        repeat (refine And.intro ?_ ?_; · first | omega | (simp only [List.length_append, List.length_cons, List.length_nil] at *; omega) | (intro q; simp only [wz, wd, ws, Nat.reduceAdd, Nat.reduceSub, Nat.reduceMul, Nat.reduceLeDiff, Nat.reduceEqDiff, Nat.reduceLT, Nat.reduceBEq, reduceIte, reduceCtorEq, Int.reduceToNat, Nat.reduceShiftRight, Nat.reduceAnd, Nat.reduceBneDiff, Nat.reduceBNe, q]; done))
        obtain ⟨x3, e8, h⟩ := Option.bind_eq_some_iff.1 h
        refine GoD1.of (sem_iadrO (l := l) e8 (by rfl) (by rfl) (by rfl)) ?_
        simp only [wz, wd, ws, Nat.reduceAdd, Nat.reduceSub, Nat.reduceMul, Nat.reduceLeDiff, Nat.reduceEqDiff, Nat.reduceLT, Nat.reduceBEq, reduceIte, reduceCtorEq, Int.reduceToNat, Nat.reduceShiftRight, Nat.reduceAnd, Nat.reduceBneDiff, Nat.reduceBNe, c48r10, semI.eq_3, semI.eq_5, semI.eq_7, e_api_Disk, e_api_Write, er_get e4, er_get e8]
        refine GoD1.of (sem_store (enc := eS) (l := l) (a := x3) (a' := ((cut x.Data 0 (IntKind.i64.wrap (128 - ((cut x2 64 (x2.length : Int)).length : Int)))) ++ (cut x2 64 (x2.length : Int)))) (v := .b (.s (.d (.str ((cut x.Data 0 (IntKind.i64.wrap (128 - ((cut x2 64 (x2.length : Int)).length : Int)))) ++ (cut x2 64 (x2.length : Int))))))) (by rfl) (by rfl) (er_get e8) (by rfl) (by trivial) (by rfl) (Nat.le_of_ble_eq_true (by rfl)) (by rfl)) ?_
        simp only [wz, wd, ws, Nat.reduceAdd, Nat.reduceSub, Nat.reduceMul, Nat.reduceLeDiff, Nat.reduceEqDiff, Nat.reduceLT, Nat.reduceBEq, reduceIte, reduceCtorEq, Int.reduceToNat, Nat.reduceShiftRight, Nat.reduceAnd, Nat.reduceBneDiff, Nat.reduceBNe, c48r10, semI.eq_3, semI.eq_5, semI.eq_7, e_api_Disk, e_api_Write, er_get e4, er_get e8]
        refine .exit rfl ?_
        refine .eblk ?_
        refine Rw.walk ?_
        simp only [wz, wd, ws, Nat.reduceAdd, Nat.reduceSub, Nat.reduceMul, Nat.reduceLeDiff, Nat.reduceEqDiff, Nat.reduceLT, Nat.reduceBEq, reduceIte, reduceCtorEq, Int.reduceToNat, Nat.reduceShiftRight, Nat.reduceAnd, Nat.reduceBneDiff, Nat.reduceBNe, c48r11, semI.eq_10, semI.eq_11, semI.eq_3, semI.eq_5, semI.eq_7, e_api_Disk, e_api_Write, er_get e4, er_get e8]
        refine .lp ?_
        refine .weak (Imp.co [] _ _ ?_ ?_ ?_ ?_ ?_) (ih (IntKind.i64.wrap (v15 + 1)) (l.set x.At.toNat ((cut x.Data 0 (IntKind.i64.wrap (128 - ((cut x2 64 (x2.length : Int)).length : Int)))) ++ (cut x2 64 (x2.length : Int)))) _ h k_ hx) <;> simp only [wz, wd, ws, Nat.reduceAdd, Nat.reduceSub, Nat.reduceMul, Nat.reduceLeDiff, Nat.reduceEqDiff, Nat.reduceLT, Nat.reduceBEq, reduceIte, reduceCtorEq, Int.reduceToNat, Nat.reduceShiftRight, Nat.reduceAnd, Nat.reduceBneDiff, Nat.reduceBNe, wi, er_nil, e_api_Disk, e_api_Write]
      · rw [ite_f h1] at h
        refine .skip ?_
        refine .seq ?_
        refine Rw.walk ?_
        simp only [wz, wd, ws, Nat.reduceAdd, Nat.reduceSub, Nat.reduceMul, Nat.reduceLeDiff, Nat.reduceEqDiff, Nat.reduceLT, Nat.reduceBEq, reduceIte, reduceCtorEq, Int.reduceToNat, Nat.reduceShiftRight, Nat.reduceAnd, Nat.reduceBneDiff, Nat.reduceBNe, c48r8, semI.eq_10, semI.eq_11, semI.eq_3, semI.eq_5, semI.eq_7, e_api_Disk, e_api_Write]
        refine .cond (p := (b == 1)) (by first | rfl | simp only [wz, wd, ws, Nat.reduceAdd, Nat.reduceSub, Nat.reduceMul, Nat.reduceLeDiff, Nat.reduceEqDiff, Nat.reduceLT, Nat.reduceBEq, reduceIte, reduceCtorEq, Int.reduceToNat, Nat.reduceShiftRight, Nat.reduceAnd, Nat.reduceBneDiff, Nat.reduceBNe]) (fun h1 => ?_) (fun h1 => ?_)
        · rw [ite_t h1] at h
          refine .exit rfl ?_
          refine .seq ?_
          refine RwD.walk ?_
          simp only [wz, wd, ws, Nat.reduceAdd, Nat.reduceSub, Nat.reduceMul, Nat.reduceLeDiff, Nat.reduceEqDiff, Nat.reduceLT, Nat.reduceBEq, reduceIte, reduceCtorEq, Int.reduceToNat, Nat.reduceShiftRight, Nat.reduceAnd, Nat.reduceBneDiff, Nat.reduceBNe, c48r10, semI.eq_3, semI.eq_5, semI.eq_7, e_api_Disk, e_api_Write]
          refine GoD1.of (semI.eq_10 ..) ?_
          simp only [wz, wd, ws, Nat.reduceAdd, Nat.reduceSub, Nat.reduceMul, Nat.reduceLeDiff, Nat.reduceEqDiff, Nat.reduceLT, Nat.reduceBEq, reduceIte, reduceCtorEq, Int.reduceToNat, Nat.reduceShiftRight, Nat.reduceAnd, Nat.reduceBneDiff, Nat.reduceBNe, c48r10, semI.eq_3, semI.eq_5, semI.eq_7, e_api_Disk, e_api_Write]
          refine GoD1.of (semI.eq_10 ..) ?_
          simp only [wz, wd, ws, Nat.reduceAdd, Nat.reduceSub, Nat.reduceMul, Nat.reduceLeDiff, Nat.reduceEqDiff, Nat.reduceLT, Nat.reduceBEq, reduceIte, reduceCtorEq, Int.reduceToNat, Nat.reduceShiftRight, Nat.reduceAnd, Nat.reduceBneDiff, Nat.reduceBNe, c48r10, semI.eq_3, semI.eq_5, semI.eq_7, e_api_Disk, e_api_Write]
          obtain ⟨g9, h⟩ := gd_iff.1 h
          obtain ⟨g10, h⟩ := gd_iff.1 h
          repeat (refine And.intro ?_ ?_; · first | omega | (simp only [List.length_append, List.length_cons, List.length_nil] at *; omega) | (intro q; simp only [wz, wd, ws, Nat.reduceAdd, Nat.reduceSub, Nat.reduceMul, Nat.reduceLeDiff, Nat.reduceEqDiff, Nat.reduceLT, Nat.reduceBEq, reduceIte, reduceCtorEq, Int.reduceToNat, Nat.reduceShiftRight, Nat.reduceAnd, Nat.reduceBneDiff, Nat.reduceBNe, q]; done))
          obtain ⟨x2, e11, h⟩ := Option.bind_eq_some_iff.1 h
          refine GoD1.of (sem_iadrO (l := l) e11 (by rfl) (by rfl) (by rfl)) ?_
          simp only [wz, wd, ws, Nat.reduceAdd, Nat.reduceSub, Nat.reduceMul, Nat.reduceLeDiff, Nat.reduceEqDiff, Nat.reduceLT, Nat.reduceBEq, reduceIte, reduceCtorEq, Int.reduceToNat, Nat.reduceShiftRight, Nat.reduceAnd, Nat.reduceBneDiff, Nat.reduceBNe, c48r10, semI.eq_3, semI.eq_5, semI.eq_7, e_api_Disk, e_api_Write, er_get e11]
          refine GoD1.of (sem_store (enc := eS) (l := l) (a := x2) (a' := (cut x.Data 0 (IntKind.i64.wrap (128 - 0)))) (v := .b (.s (.d (.str (cut x.Data 0 (IntKind.i64.wrap (128 - 0))))))) (by rfl) (by rfl) (er_get e11) (by rfl) (by trivial) (by rfl) (Nat.le_of_ble_eq_true (by rfl)) (by rfl)) ?_
          simp only [wz, wd, ws, Nat.reduceAdd, Nat.reduceSub, Nat.reduceMul, Nat.reduceLeDiff, Nat.reduceEqDiff, Nat.reduceLT, Nat.reduceBEq, reduceIte, reduceCtorEq, Int.reduceToNat, Nat.reduceShiftRight, Nat.reduceAnd, Nat.reduceBneDiff, Nat.reduceBNe, c48r10, semI.eq_3, semI.eq_5, semI.eq_7, e_api_Disk, e_api_Write, er_get e11]
          refine .exit rfl ?_
          refine .eblk ?_
          refine Rw.walk ?_
          simp only [wz, wd, ws, Nat.reduceAdd, Nat.reduceSub, Nat.reduceMul, Nat.reduceLeDiff, Nat.reduceEqDiff, Nat.reduceLT, Nat.reduceBEq, reduceIte, reduceCtorEq, Int.reduceToNat, Nat.reduceShiftRight, Nat.reduceAnd, Nat.reduceBneDiff, Nat.reduceBNe, c48r11, semI.eq_10, semI.eq_11, semI.eq_3, semI.eq_5, semI.eq_7, e_api_Disk, e_api_Write, er_get e11]
          refine .lp ?_
          refine .weak (Imp.co [] _ _ ?_ ?_ ?_ ?_ ?_) (ih (IntKind.i64.wrap (v15 + 1)) (l.set x.At.toNat (cut x.Data 0 (IntKind.i64.wrap (128 - 0)))) _ h k_ hx) <;> simp only [wz, wd, ws, Nat.reduceAdd, Nat.reduceSub, Nat.reduceMul, Nat.reduceLeDiff, Nat.reduceEqDiff, Nat.reduceLT, Nat.reduceBEq, reduceIte, reduceCtorEq, Int.reduceToNat, Nat.reduceShiftRight, Nat.reduceAnd, Nat.reduceBneDiff, Nat.reduceBNe, wi, er_nil, e_api_Disk, e_api_Write]
        · rw [ite_f h1] at h
          refine .skip ?_
          refine .exit rfl ?_
          refine .eblk ?_
          refine Rw.walk ?_
          simp only [wz, wd, ws, Nat.reduceAdd, Nat.reduceSub, Nat.reduceMul, Nat.reduceLeDiff, Nat.reduceEqDiff, Nat.reduceLT, Nat.reduceBEq, reduceIte, reduceCtorEq, Int.reduceToNat, Nat.reduceShiftRight, Nat.reduceAnd, Nat.reduceBneDiff, Nat.reduceBNe, c48r11, semI.eq_10, semI.eq_11, semI.eq_3, semI.eq_5, semI.eq_7, e_api_Disk, e_api_Write]
          refine .lp ?_
          refine .weak (Imp.co [] _ _ ?_ ?_ ?_ ?_ ?_) (ih (IntKind.i64.wrap (v15 + 1)) l _ h k_ hx) <;> simp only [wz, wd, ws, Nat.reduceAdd, Nat.reduceSub, Nat.reduceMul, Nat.reduceLeDiff, Nat.reduceEqDiff, Nat.reduceLT, Nat.reduceBEq, reduceIte, reduceCtorEq, Int.reduceToNat, Nat.reduceShiftRight, Nat.reduceAnd, Nat.reduceBneDiff, Nat.reduceBNe, wi, er_nil, e_api_Disk, e_api_Write]
    · rw [ite_f h1] at h
      refine .exit rfl ?_
      obtain rfl := Option.some.inj h
      refine .weak (Imp.co [] _ _ ?_ ?_ ?_ ?_ ?_) (hx _ rfl) <;> simp only [wz, wd, ws, Nat.reduceAdd, Nat.reduceSub, Nat.reduceMul, Nat.reduceLeDiff, Nat.reduceEqDiff, Nat.reduceLT, Nat.reduceBEq, reduceIte, reduceCtorEq, Int.reduceToNat, Nat.reduceShiftRight, Nat.reduceAnd, Nat.reduceBneDiff, Nat.reduceBNe, wi, er_nil, e_api_Disk, e_api_Write]
theorem f_disk_ends_ok (d : api_Disk) (fate_f : FuncId) (fate_c : List Sc) (fate : Int → Option (Int)) (fate_h : ∀ (a0 : Int) (r : Int), fate a0 = some r → Fun Try.prog glP fate_f (.b (.s (.d (.int .i64 a0))) :: fate_c.map fun x => .b (.s (.d x))) (.b (.s (.d (.int .i64 r))))) (y_ : api_Disk) (h : f_disk_ends d fate = some y_) : Fun Try.prog glP 48 [.b (.agg ((e_api_Disk d).map Lc.d)), .b (.s (.d (.clo fate_f fate_c)))] (.b (.agg ((e_api_Disk y_).map Lc.d))) := by
  refine fun_walk [11] Try.func48 Try.ntmps48 cc48 cr48 (by kernel_rfl) (by simp only [List.length_cons, List.length_nil]; decide) ?_
  generalize hR : Ret _ _ _ _ _ = R_
  simp only [wz, wd, ws, Nat.reduceAdd, Nat.reduceSub, Nat.reduceMul, Nat.reduceLeDiff, Nat.reduceEqDiff, Nat.reduceLT, Nat.reduceBEq, reduceIte, reduceCtorEq, Int.reduceToNat, Nat.reduceShiftRight, Nat.reduceAnd, Nat.reduceBneDiff, Nat.reduceBNe, e_api_Disk, e_api_Write]
  unfold f_disk_ends at h; unfold c48
  refine .seq ?_
  refine Rw.walk ?_
  simp only [wz, wd, ws, Nat.reduceAdd, Nat.reduceSub, Nat.reduceMul, Nat.reduceLeDiff, Nat.reduceEqDiff, Nat.reduceLT, Nat.reduceBEq, reduceIte, reduceCtorEq, Int.reduceToNat, Nat.reduceShiftRight, Nat.reduceAnd, Nat.reduceBneDiff, Nat.reduceBNe, c48r0, semI.eq_10, semI.eq_11, semI.eq_3, semI.eq_5, semI.eq_7, e_api_Disk, e_api_Write]
  refine .seq ?_
  refine Rw.walk ?_
  simp only [wz, wd, ws, Nat.reduceAdd, Nat.reduceSub, Nat.reduceMul, Nat.reduceLeDiff, Nat.reduceEqDiff, Nat.reduceLT, Nat.reduceBEq, reduceIte, reduceCtorEq, Int.reduceToNat, Nat.reduceShiftRight, Nat.reduceAnd, Nat.reduceBneDiff, Nat.reduceBNe, c48r1, semI.eq_10, semI.eq_11, semI.eq_3, semI.eq_5, semI.eq_7, e_api_Disk, e_api_Write]
  obtain ⟨t, e1, h⟩ := Option.bind_eq_some_iff.1 h
  refine call_funO' [] ⟨trivial, trivial, trivial⟩ rfl ?_ (f_slices_Clone_string_string_ok _ _ e1) rfl (.inl rfl) ?_
  · simp only [wz, wd, ws, Nat.reduceAdd, Nat.reduceSub, Nat.reduceMul, Nat.reduceLeDiff, Nat.reduceEqDiff, Nat.reduceLT, Nat.reduceBEq, reduceIte, reduceCtorEq, Int.reduceToNat, Nat.reduceShiftRight, Nat.reduceAnd, Nat.reduceBneDiff, Nat.reduceBNe, e_api_Disk, e_api_Write]
  simp only [wz, wd, ws, Nat.reduceAdd, Nat.reduceSub, Nat.reduceMul, Nat.reduceLeDiff, Nat.reduceEqDiff, Nat.reduceLT, Nat.reduceBEq, reduceIte, reduceCtorEq, Int.reduceToNat, Nat.reduceShiftRight, Nat.reduceAnd, Nat.reduceBneDiff, Nat.reduceBNe, c48r1, semI.eq_10, semI.eq_11, semI.eq_3, semI.eq_5, semI.eq_7, e_api_Disk, e_api_Write]
  refine .seq ?_
  refine .seq ?_
  refine Rw.walk ?_
  simp only [wz, wd, ws, Nat.reduceAdd, Nat.reduceSub, Nat.reduceMul, Nat.reduceLeDiff, Nat.reduceEqDiff, Nat.reduceLT, Nat.reduceBEq, reduceIte, reduceCtorEq, Int.reduceToNat, Nat.reduceShiftRight, Nat.reduceAnd, Nat.reduceBneDiff, Nat.reduceBNe, c48r2, semI.eq_10, semI.eq_11, semI.eq_3, semI.eq_5, semI.eq_7, e_api_Disk, e_api_Write]
  refine .blk ?_
  obtain ⟨s, hf, h⟩ := Option.bind_eq_some_iff.1 h
  refine .loop (.weak (Imp.co [] _ _ ?c1 ?c2 ?c3 ?c4 ?c5) (f_disk_ends_l12_ok d fate_f fate_c fate fate_h _ _ hR _ _ _ _ hf _ ?_))
  case c1 | c2 | c3 | c4 | c5 => simp only [wz, wd, ws, Nat.reduceAdd, Nat.reduceSub, Nat.reduceMul, Nat.reduceLeDiff, Nat.reduceEqDiff, Nat.reduceLT, Nat.reduceBEq, reduceIte, reduceCtorEq, Int.reduceToNat, Nat.reduceShiftRight, Nat.reduceAnd, Nat.reduceBneDiff, Nat.reduceBNe, wi, er_nil, e_api_Disk, e_api_Write]
  · intro s_ hs; subst hs
    refine .seq ?_
    refine Rw.walk ?_
    simp only [wz, wd, ws, Nat.reduceAdd, Nat.reduceSub, Nat.reduceMul, Nat.reduceLeDiff, Nat.reduceEqDiff, Nat.reduceLT, Nat.reduceBEq, reduceIte, reduceCtorEq, Int.reduceToNat, Nat.reduceShiftRight, Nat.reduceAnd, Nat.reduceBneDiff, Nat.reduceBNe, c48r12, semI.eq_10, semI.eq_11, semI.eq_3, semI.eq_5, semI.eq_7, e_api_Disk, e_api_Write]
    obtain rfl := Option.some.inj h
    refine .ret ?_
    rw [← hR]
    simp only [wz, wd, ws, Nat.reduceAdd, Nat.reduceSub, Nat.reduceMul, Nat.reduceLeDiff, Nat.reduceEqDiff, Nat.reduceLT, Nat.reduceBEq, reduceIte, reduceCtorEq, Int.reduceToNat, Nat.reduceShiftRight, Nat.reduceAnd, Nat.reduceBneDiff, Nat.reduceBNe, rv48, semI.eq_10, e_api_Disk, e_api_Write]
-- 49 consignor/disk.Flush$1
def c49r0 : List Opn := [
  ⟨(some 2), none, .mv (.c (.s (.d (.int .i64 0))))⟩]
def c49r1 : List Opn := [
  ⟨(some 2), none, .mv (.c (.s (.d (.int .i64 1))))⟩]
def c49 : C := .seq (.reg c49r0 none []) (.seq (.reg c49r1 none [2]) (.ret))
def k49 : List (Nat × List Nat) := [(1, [2]), (0, [])]
theorem cc49 : (Try.f49.body).bind (cC Try.prog 3 k49) = some c49 := by kernel_rfl
def rv49 : List RV := [.t 2]
theorem cr49 : cRVs Try.prog Try.f49.results.toList = some rv49 := by kernel_rfl
theorem f_disk_Flush_1_ok (p0 : Int) (y_ : Int) (h : f_disk_Flush_1 p0 = some y_) : Fun Try.prog glP 49 [.b (.s (.d (.int .i64 p0)))] (.b (.s (.d (.int .i64 y_)))) := by
  refine fun_walk [] Try.func49 Try.ntmps49 cc49 cr49 (by kernel_rfl) (by simp only [List.length_cons, List.length_nil]; decide) ?_
  generalize hR : Ret _ _ _ _ _ = R_
  simp only [wz, wd, ws, seval]
  unfold f_disk_Flush_1 at h; unfold c49
  refine .seq ?_
  refine Rw.walk ?_
  simp only [wz, wd, ws, seval, c49r0, semI.eq_10, semI.eq_11, semI.eq_3, semI.eq_5, semI.eq_7]
  refine .seq ?_
  refine Rw.walk ?_
  simp only [wz, wd, ws, seval, c49r1, semI.eq_10, semI.eq_11, semI.eq_3, semI.eq_5, semI.eq_7]
  obtain rfl := Option.some.inj h
  refine .ret ?_
  rw [← hR]
  simp only [wz, wd, ws, seval, rv49]
-- 28 consignor/disk.Flush
def c28r0 : List Opn := [
  ⟨(some 1), none, .box 2 (.t 0)⟩, 
  ⟨(some 2), none, .new [.nils, .nils]⟩, 
  ⟨(some 3), none, .mv (.c (.s (.d (.int .i64 0))))⟩]
def c28r1 : List Opn := [
  ⟨(some 4), none, .load true 2 (.t 1)⟩, 
  ⟨(some 5), none, .call (.fn 31) [(.t 4)]⟩, 
  ⟨(some 6), none, .un .not (.t 5)⟩]
def c28r2 : List Opn := [
  ⟨(some 7), none, .build [.nils, .nils] []⟩, 
  ⟨none, none, .store 2 (.t 2) (.t 7)⟩, 
  ⟨(some 3), none, .mv (.c (.s (.d (.int .i64 1))))⟩]
def c28r3 : List Opn := [
  ⟨(some 8), none, .load true 2 (.t 1)⟩, 
  ⟨(some 9), none, .call (.fn 48) [(.t 8), (.fn 49)]⟩, 
  ⟨none, none, .store 2 (.t 2) (.t 9)⟩, 
  ⟨(some 3), none, .mv (.c (.s (.d (.int .i64 0))))⟩]
def c28 : C := .seq (.reg c28r0 none [1, 2]) (.seq (.seq (.reg c28r1 none [1, 2, 6]) (.cond (.t 6) (.seq (.reg c28r2 none [2, 3]) (.ret)) (.skip))) (.seq (.reg c28r3 none [2, 3]) (.ret)))
def k28 : List (Nat × List Nat) := [(3, [2, 3]), (2, [2, 3]), (1, [1, 2, 6]), (0, [1, 2])]
theorem cc28 : (Try.f28.body).bind (cC Try.prog 10 k28) = some c28 := by kernel_rfl
def rv28 : List RV := [.c 2 true 2, .t 3]
theorem cr28 : cRVs Try.prog Try.f28.results.toList = some rv28 := by kernel_rfl
theorem f_disk_Flush_ok (d : api_Disk) (y_ : api_Disk × Int) (h : f_disk_Flush d = some y_) : Fun Try.prog glP 28 [.b (.agg ((e_api_Disk d).map Lc.d))] (.tup [.agg ((e_api_Disk y_.1).map Lc.d), .s (.d (.int .i64 y_.2))]) := by
  refine fun_walk [] Try.func28 Try.ntmps28 cc28 cr28 (by kernel_rfl) (by simp only [List.length_cons, List.length_nil]; decide) ?_
  generalize hR : Ret _ _ _ _ _ = R_
  simp only [wz, wd, ws, seval, e_api_Disk, e_api_Write]
  unfold f_disk_Flush at h; unfold c28
  refine .seq ?_
  refine Rw.walk ?_
  simp only [wz, wd, ws, seval, c28r0, semI.eq_10, semI.eq_11, semI.eq_3, semI.eq_5, semI.eq_7, e_api_Disk, e_api_Write]
  refine .seq ?_
  refine .seq ?_
  refine Rw.walk ?_
  simp only [wz, wd, ws, seval, c28r1, semI.eq_10, semI.eq_11, semI.eq_3, semI.eq_5, semI.eq_7, e_api_Disk, e_api_Write]
  obtain ⟨t, e1, h⟩ := Option.bind_eq_some_iff.1 h
  refine call_fun [] false ⟨trivial, trivial, trivial⟩ rfl ?_ (f_disk_Right_ok _ _ e1) (fun _ => rfl) (fun i hi => by cases hi) ?_
  · simp only [wz, wd, ws, seval, e_api_Disk, e_api_Write]
  simp only [wz, wd, ws, seval, c28r1, semI.eq_10, semI.eq_11, semI.eq_3, semI.eq_5, semI.eq_7, e_api_Disk, e_api_Write]
  refine .cond (p := (!t)) (by first | rfl | simp only [wz, wd, ws, seval]) (fun h1 => ?_) (fun h1 => ?_)
  · rw [ite_t h1] at h
    refine .seq ?_
    refine Rw.walk ?_
    simp only [wz, wd, ws, seval, c28r2, semI.eq_10, semI.eq_11, semI.eq_3, semI.eq_5, semI.eq_7, e_api_Disk, e_api_Write]
    obtain rfl := Option.some.inj h
    refine .ret ?_
    rw [← hR]
    simp only [wz, wd, ws, seval, rv28, semI.eq_10, e_api_Disk, e_api_Write]
  · rw [ite_f h1] at h
    refine .skip ?_
    refine .seq ?_
    refine Rw.walk ?_
    simp only [wz, wd, ws, seval, c28r3, semI.eq_10, semI.eq_11, semI.eq_3, semI.eq_5, semI.eq_7, e_api_Disk, e_api_Write]
    obtain ⟨t2, e2, h⟩ := Option.bind_eq_some_iff.1 h
    refine call_fun [] true ⟨trivial, trivial, trivial, trivial⟩ rfl ?_ (f_disk_ends_ok _ 49 [] f_disk_Flush_1 (fun a0 r hr => f_disk_Flush_1_ok a0 r hr) _ e2) (fun h => by cases h) (fun i hi => by cases hi) ?_
    · simp only [wz, wd, ws, seval, e_api_Disk, e_api_Write]
    simp only [wz, wd, ws, seval, c28r3, semI.eq_10, semI.eq_11, semI.eq_3, semI.eq_5, semI.eq_7, e_api_Disk, e_api_Write]
    obtain rfl := Option.some.inj h
    refine .ret ?_
    rw [← hR]
    simp only [wz, wd, ws, seval, rv28, semI.eq_10, e_api_Disk, e_api_Write]
-- 43 consignor/ledger.done
def c43r0 : List Opn := [
  ⟨(some 3), none, .box 6 (.t 0)⟩, 
  ⟨(some 6), none, .new [.nils, .nils, (.d (.int .i64 0)), (.d (.int .i64 0)), (.d (.int .i64 0)), .nils]⟩, 
  ⟨(some 7), none, .mv (.c (.s (.d (.int .i64 0))))⟩]
def c43r1 : List Opn := [
  ⟨(some 14), none, .load true 6 (.t 3)⟩, 
  ⟨(some 15), none, .mv (.t 1)⟩, 
  ⟨(some 16), none, .mv (.t 2)⟩, 
  ⟨(some 17), none, .call (.fn 21) [(.t 14), (.t 15), (.t 16)]⟩, 
  ⟨(some 13), none, .mv (.t 17)⟩, 
  ⟨(some 18), none, .ext (.t 13) 0⟩, 
  ⟨(some 19), none, .ext (.t 13) 1⟩, 
  ⟨(some 8), none, .mv (.t 18)⟩, 
  ⟨(some 9), none, .mv (.t 19)⟩]
def c43r2 : List Opn := [
  ⟨(some 20), none, .mv (.t 9)⟩, 
  ⟨(some 21), none, .bin .neq (.t 20) (.c (.s (.d (.int .i64 0))))⟩]
def c43r3 : List Opn := [
  ⟨(some 22), none, .build [.nils, .nils, (.d (.int .i64 0)), (.d (.int .i64 0)), (.d (.int .i64 0)), .nils] []⟩, 
  ⟨(some 23), none, .mv (.t 9)⟩, 
  ⟨none, none, .store 6 (.t 6) (.t 22)⟩, 
  ⟨(some 7), none, .mv (.t 23)⟩]
def c43r4 : List Opn := [
  ⟨(some 24), none, .fadr 0 (.t 3)⟩, 
  ⟨(some 25), none, .load true 2 (.t 24)⟩, 
  ⟨(some 10), none, .new [.nils, .nils]⟩, 
  ⟨none, none, .store 2 (.t 10) (.t 25)⟩]
def c43r5 : List Opn := [
  ⟨(some 26), none, .mv (.t 8)⟩, 
  ⟨(some 27), none, .len (.sl 0) (.t 26)⟩, 
  ⟨(some 28), none, .mv (.c (.s (.d (.int .i64 0))))⟩]
def c43r6 : List Opn := [
  ⟨(some 29), none, .bin .lss (.t 28) (.t 27)⟩]
def c43r7 : List Opn := [
  ⟨(some 30), none, .iadr (.sl 1) (.t 26) (.t 28)⟩, 
  ⟨(some 31), none, .load false 1 (.t 30)⟩, 
  ⟨(some 12), none, .mv (.t 31)⟩]
def c43r8 : List Opn := [
  ⟨(some 33), none, .load true 2 (.t 10)⟩, 
  ⟨(some 34), none, .mv (.t 12)⟩, 
  ⟨(some 35), none, .call (.fn 27) [(.t 33), (.t 34)]⟩, 
  ⟨(some 32), none, .mv (.t 35)⟩, 
  ⟨(some 36), none, .ext (.t 32) 0⟩, 
  ⟨(some 37), none, .ext (.t 32) 1⟩, 
  ⟨none, none, .store 2 (.t 10) (.t 36)⟩]
def c43r9 : List Opn := [
  ⟨(some 39), none, .load true 2 (.t 10)⟩, 
  ⟨(some 40), none, .call (.fn 28) [(.t 39)]⟩, 
  ⟨(some 38), none, .mv (.t 40)⟩, 
  ⟨(some 41), none, .ext (.t 38) 0⟩, 
  ⟨(some 42), none, .ext (.t 38) 1⟩, 
  ⟨none, none, .store 2 (.t 10) (.t 41)⟩]
def c43r10 : List Opn := [
  ⟨(some 43), none, .bin .add (.t 28) (.c (.s (.d (.int .i64 1))))⟩, 
  ⟨(some 28), none, .mv (.t 43)⟩]
def c43l11 : C := .seq (.reg c43r6 none [6, 10, 26, 27, 28, 29]) (.seq (.cond (.t 29) (.skip) (.exit 0)) (.seq (.blk 1 (.seq (.reg c43r7 none [6, 10, 12, 26, 27, 28]) (.seq (.reg c43r8 none [6, 10, 26, 27, 28]) (.reg c43r9 none [6, 10, 26, 27, 28])))) (.reg c43r10 none [6, 10, 26, 27, 28])))
def c43r11 : List Opn := [
  ⟨(some 44), none, .load true 2 (.t 10)⟩, 
  ⟨(some 45), none, .call (.fn 10) [(.t 44)]⟩, 
  ⟨(some 46), none, .ext (.t 45) 0⟩, 
  ⟨(some 47), none, .ext (.t 45) 1⟩, 
  ⟨none, none, .store 6 (.t 6) (.t 46)⟩, 
  ⟨(some 7), none, .mv (.t 47)⟩]
def c43 : C := .seq (.reg c43r0 none [1, 2, 3, 6]) (.seq (.reg c43r1 none [3, 6, 8, 9]) (.seq (.seq (.reg c43r2 none [3, 6, 8, 9, 21]) (.cond (.t 21) (.seq (.reg c43r3 none [6, 7]) (.ret)) (.skip))) (.seq (.reg c43r4 none [6, 8, 10]) (.seq (.seq (.reg c43r5 none [6, 10, 26, 27, 28]) (.blk 0 (.loop c43l11))) (.seq (.reg c43r11 none [6, 7]) (.ret))))))
def k43 : List (Nat × List Nat) := [(11, [6, 7]), (10, [6, 10, 26, 27, 28]), (9, [6, 10, 26, 27, 28]), (8, [6, 10, 26, 27, 28]), (7, [6, 10, 12, 26, 27, 28]), (6, [6, 10, 26, 27, 28, 29]), (5, [6, 10, 26, 27, 28]), (4, [6, 8, 10]), (3, [6, 7]), (2, [3, 6, 8, 9, 21]), (1, [3, 6, 8, 9]), (0, [1, 2, 3, 6])]
theorem cc43 : (Try.f43.body).bind (cC Try.prog 48 k43) = some c43 := by kernel_rfl
def rv43 : List RV := [.c 6 true 6, .t 7]
theorem cr43 : cRVs Try.prog Try.f43.results.toList = some rv43 := by kernel_rfl
theorem f_ledger_done_l11_ok (t : (List (List api_Write)) × Int) (y_ : api_Ledger × Int) (R_ : St → Prop) (hR : (Ret Try.prog glP [] rv43 (.tup [.agg ((e_api_Ledger y_.1).map Lc.d), .s (.d (.int .i64 y_.2))])) = R_) : ∀ (m_ : Nat) (v28 : Int) (d : (List Str)) (d2 : (List api_Write)) (res_ : Int × (List Str) × (List api_Write)) (h : f_ledger_done_l11 t m_ v28 d d2 = some res_) (k_ : List It) (hx : ∀ s_ : Int × (List Str) × (List api_Write), res_ = s_ → W Try.prog glP 48 k_ ⟨lkT [(6, .b (.s (.ptr 6 1 0 0))), (10, .b (.s (.ptr 10 1 0 0))), (26, .b (.s (.d (.sl (t.1.map (eL e_api_Write)))))), (27, .b (.s (.d (.int .i64 (t.1.length : Int))))), (28, .b (.s (.d (.int .i64 s_.1))))], lkG [(6, ⟨6, [[.nils, .nils, (.d (.int .i64 0)), (.d (.int .i64 0)), (.d (.int .i64 0)), .nils]], false⟩), (10, ⟨2, [[(.d (.sl (s_.2.1.map eS))), (.d (.sl (s_.2.2.map e_api_Write)))]], false⟩)]⟩ R_), W Try.prog glP 48 (.c c43l11 :: .lp c43l11 :: .blk 0 :: k_) ⟨lkT [(6, .b (.s (.ptr 6 1 0 0))), (10, .b (.s (.ptr 10 1 0 0))), (26, .b (.s (.d (.sl (t.1.map (eL e_api_Write)))))), (27, .b (.s (.d (.int .i64 (t.1.length : Int))))), (28, .b (.s (.d (.int .i64 v28))))], lkG [(6, ⟨6, [[.nils, .nils, (.d (.int .i64 0)), (.d (.int .i64 0)), (.d (.int .i64 0)), .nils]], false⟩), (10, ⟨2, [[(.d (.sl (d.map eS))), (.d (.sl (d2.map e_api_Write)))]], false⟩)]⟩ R_ := by
  intro m_; induction m_ with
  | zero => intro v28 d d2 res_ h; rw [f_ledger_done_l11.eq_1] at h; cases h
  | succ m_ ih =>
    intro v28 d d2 res_ h k_ hx; rw [f_ledger_done_l11.eq_2] at h; refine W.cdef c43l11.eq_1 ?_
    refine .seq ?_
    refine Rw.walk ?_
    simp only [wz, wd, ws, seval, c43r6, semI.eq_10, semI.eq_11, semI.eq_3, semI.eq_5, semI.eq_7, e_api_Ledger, e_api_Disk, e_api_Write]
    refine .seq ?_
    refine .cond (p := (decide (v28 < (t.1.length : Int)))) (by first | rfl | simp only [wz, wd, ws, seval]) (fun h1 => ?_) (fun h1 => ?_)
    · rw [ite_t h1] at h
      refine .skip ?_
      refine .seq ?_
      refine .blk ?_
      refine .seq ?_
      refine Rw.walk ?_
      simp only [wz, wd, ws, seval, c43r7, semI.eq_10, semI.eq_11, semI.eq_3, semI.eq_5, semI.eq_7, e_api_Ledger, e_api_Disk, e_api_Write]
      obtain ⟨x, e2, h⟩ := Option.bind_eq_some_iff.1 h
      refine Go1.of (sem_iadr (eL_len _) e2 (by rfl) (by rfl)) ?_
      simp only [wz, wd, ws, seval, c43r7, semI.eq_10, semI.eq_11, semI.eq_3, semI.eq_5, semI.eq_7, e_api_Ledger, e_api_Disk, e_api_Write]
      refine .seq ?_
      refine Rw.walk ?_
      simp only [wz, wd, ws, seval, c43r8, semI.eq_10, semI.eq_11, semI.eq_3, semI.eq_5, semI.eq_7, e_api_Ledger, e_api_Disk, e_api_Write]
      obtain ⟨t2, e3, h⟩ := Option.bind_eq_some_iff.1 h
      refine call_fun [] true ⟨trivial, trivial, trivial, trivial⟩ rfl ?_ (f_disk_Save_ok _ _ _ e3) (fun h => by cases h) (fun i hi => by cases hi) ?_
      · simp only [wz, wd, ws, seval, e_api_Ledger, e_api_Disk, e_api_Write]
      simp only [wz, wd, ws, seval, c43r8, semI.eq_10, semI.eq_11, semI.eq_3, semI.eq_5, semI.eq_7, e_api_Ledger, e_api_Disk, e_api_Write]
      refine Rw.walk ?_
      simp only [wz, wd, ws, seval, c43r9, semI.eq_10, semI.eq_11, semI.eq_3, semI.eq_5, semI.eq_7, e_api_Ledger, e_api_Disk, e_api_Write]
      obtain ⟨t3, e4, h⟩ := Option.bind_eq_some_iff.1 h
      refine call_fun [] true ⟨trivial, trivial, trivial⟩ rfl ?_ (f_disk_Flush_ok _ _ e4) (fun h => by cases h) (fun i hi => by cases hi) ?_
      · simp only [wz, wd, ws, seval, e_api_Ledger, e_api_Disk, e_api_Write]
      simp only [wz, wd, ws, seval, c43r9, semI.eq_10, semI.eq_11, semI.eq_3, semI.eq_5, semI.eq_7, e_api_Ledger, e_api_Disk, e_api_Write]
      refine .eblk ?_
      refine Rw.walk ?_
      simp only [wz, wd, ws, seval, c43r10, semI.eq_10, semI.eq_11, semI.eq_3, semI.eq_5, semI.eq_7, e_api_Ledger, e_api_Disk, e_api_Write]
      refine .lp ?_
      refine .weak (Imp.co [] _ _ ?_ ?_ ?_ ?_ ?_) (ih (IntKind.i64.wrap (v28 + 1)) t3.1.Sectors t3.1.Dirty _ h k_ hx) <;> simp only [wz, wd, ws, seval, wi, er_nil, e_api_Ledger, e_api_Disk, e_api_Write]
    · rw [ite_f h1] at h
      refine .exit rfl ?_
      obtain rfl := Option.some.inj h
      refine .weak (Imp.co [] _ _ ?_ ?_ ?_ ?_ ?_) (hx _ rfl) <;> simp only [wz, wd, ws, seval, wi, er_nil, e_api_Ledger, e_api_Disk, e_api_Write]
theorem f_ledger_done_ok (l : api_Ledger) (renew : Bool) (news : (List Str)) (y_ : api_Ledger × Int) (h : f_ledger_done l renew news = some y_) : Fun Try.prog glP 43 [.b (.agg ((e_api_Ledger l).map Lc.d)), .b (.s (.d (.bool renew))), .b (.s (.d (.sl (news.map eS))))] (.tup [.agg ((e_api_Ledger y_.1).map Lc.d), .s (.d (.int .i64 y_.2))]) := by
  refine fun_walk [] Try.func43 Try.ntmps43 cc43 cr43 (by kernel_rfl) (by simp only [List.length_cons, List.length_nil]; decide) ?_
  generalize hR : Ret _ _ _ _ _ = R_
  simp only [wz, wd, ws, seval, e_api_Ledger, e_api_Disk, e_api_Write]
  unfold f_ledger_done at h; unfold c43
  refine .seq ?_
  refine Rw.walk ?_
  simp only [wz, wd, ws, seval, c43r0, semI.eq_10, semI.eq_11, semI.eq_3, semI.eq_5, semI.eq_7, e_api_Ledger, e_api_Disk, e_api_Write]
  refine .seq ?_
  refine Rw.walk ?_
  simp only [wz, wd, ws, seval, c43r1, semI.eq_10, semI.eq_11, semI.eq_3, semI.eq_5, semI.eq_7, e_api_Ledger, e_api_Disk, e_api_Write]
  obtain ⟨t, e1, h⟩ := Option.bind_eq_some_iff.1 h
  refine call_fun [] true ⟨trivial, trivial, trivial, trivial, trivial⟩ rfl ?_ (f_ledger_Steps_ok _ _ _ _ e1) (fun h => by cases h) (fun i hi => by cases hi) ?_
  · simp only [wz, wd, ws, seval, e_api_Ledger, e_api_Disk, e_api_Write]
  simp only [wz, wd, ws, seval, c43r1, semI.eq_10, semI.eq_11, semI.eq_3, semI.eq_5, semI.eq_7, e_api_Ledger, e_api_Disk, e_api_Write]
  refine .seq ?_
  refine .seq ?_
  refine Rw.walk ?_
  simp only [wz, wd, ws, seval, c43r2, semI.eq_10, semI.eq_11, semI.eq_3, semI.eq_5, semI.eq_7, e_api_Ledger, e_api_Disk, e_api_Write]
  refine .cond (p := (t.2 != 0)) (by first | rfl | simp only [wz, wd, ws, seval]) (fun h1 => ?_) (fun h1 => ?_)
  · rw [ite_t h1] at h
    refine .seq ?_
    refine Rw.walk ?_
    simp only [wz, wd, ws, seval, c43r3, semI.eq_10, semI.eq_11, semI.eq_3, semI.eq_5, semI.eq_7, e_api_Ledger, e_api_Disk, e_api_Write]
    obtain rfl := Option.some.inj h
    refine .ret ?_
    rw [← hR]
    simp only [wz, wd, ws, seval, rv43, semI.eq_10, e_api_Ledger, e_api_Disk, e_api_Write]
  · rw [ite_f h1] at h
    refine .skip ?_
    refine .seq ?_
    refine Rw.walk ?_
    simp only [wz, wd, ws, seval, c43r4, semI.eq_10, semI.eq_11, semI.eq_3, semI.eq_5, semI.eq_7, e_api_Ledger, e_api_Disk, e_api_Write]
    refine .seq ?_
    refine .seq ?_
    refine Rw.walk ?_
    simp only [wz, wd, ws, seval, c43r5, semI.eq_10, semI.eq_11, semI.eq_3, semI.eq_5, semI.eq_7, e_api_Ledger, e_api_Disk, e_api_Write]
    refine .blk ?_
    obtain ⟨s, hf, h⟩ := Option.bind_eq_some_iff.1 h
    refine .loop (.weak (Imp.co [] _ _ ?c1 ?c2 ?c3 ?c4 ?c5) (f_ledger_done_l11_ok t _ _ hR _ _ _ _ _ hf _ ?_))
    case c1 | c2 | c3 | c4 | c5 => simp only [wz, wd, ws, seval, wi, er_nil, e_api_Ledger, e_api_Disk, e_api_Write]
    · intro s_ hs; subst hs
      refine .seq ?_
      refine Rw.walk ?_
      simp only [wz, wd, ws, seval, c43r11, semI.eq_10, semI.eq_11, semI.eq_3, semI.eq_5, semI.eq_7, e_api_Ledger, e_api_Disk, e_api_Write]
      obtain ⟨t2, e5, h⟩ := Option.bind_eq_some_iff.1 h
      refine call_fun [] true ⟨trivial, trivial, trivial⟩ rfl ?_ (f_ledger_Open_ok _ _ e5) (fun h => by cases h) (fun i hi => by cases hi) ?_
      · simp only [wz, wd, ws, seval, e_api_Ledger, e_api_Disk, e_api_Write]
      simp only [wz, wd, ws, seval, c43r11, semI.eq_10, semI.eq_11, semI.eq_3, semI.eq_5, semI.eq_7, e_api_Ledger, e_api_Disk, e_api_Write]
      obtain rfl := Option.some.inj h
      refine .ret ?_
      rw [← hR]
      simp only [wz, wd, ws, seval, rv43, semI.eq_10, e_api_Ledger, e_api_Disk, e_api_Write]
end Go.Proofs.Ytjhelpeglgigbaa.V
end

section
/- Go functions compute what Lean functions do. -/
namespace Go.Proofs.Ytjhelpeglgigbaa.V
open Go Go.RowKit
set_option linter.unusedVariables false
set_option linter.unusedSimpArgs false
set_option maxHeartbeats 1000000
set_option maxRecDepth 20000
-- 22 consignor/ledger.Renew
def c22r0 : List Opn := [
  ⟨(some 2), none, .box 6 (.t 0)⟩, 
  ⟨(some 4), none, .new [.nils, .nils, (.d (.int .i64 0)), (.d (.int .i64 0)), (.d (.int .i64 0)), .nils]⟩, 
  ⟨(some 5), none, .mv (.c (.s (.d (.int .i64 0))))⟩]
def c22r1 : List Opn := [
  ⟨(some 6), none, .load true 6 (.t 2)⟩, 
  ⟨(some 7), none, .mv (.t 1)⟩, 
  ⟨(some 8), none, .call (.fn 43) [(.t 6), (.c (.s (.d (.bool true)))), (.t 7)]⟩, 
  ⟨(some 9), none, .ext (.t 8) 0⟩, 
  ⟨(some 10), none, .ext (.t 8) 1⟩, 
  ⟨none, none, .store 6 (.t 4) (.t 9)⟩, 
  ⟨(some 5), none, .mv (.t 10)⟩]
def c22 : C := .seq (.reg c22r0 none [1, 2, 4]) (.seq (.reg c22r1 none [4, 5]) (.ret))
def k22 : List (Nat × List Nat) := [(1, [4, 5]), (0, [1, 2, 4])]
theorem cc22 : (Try.f22.body).bind (cC Try.prog 11 k22) = some c22 := by kernel_rfl
def rv22 : List RV := [.c 4 true 6, .t 5]
theorem cr22 : cRVs Try.prog Try.f22.results.toList = some rv22 := by kernel_rfl
theorem f_ledger_Renew_ok (l : api_Ledger) (news : (List Str)) (y_ : api_Ledger × Int) (h : f_ledger_Renew l news = some y_) : Fun Try.prog glP 22 [.b (.agg ((e_api_Ledger l).map Lc.d)), .b (.s (.d (.sl (news.map eS))))] (.tup [.agg ((e_api_Ledger y_.1).map Lc.d), .s (.d (.int .i64 y_.2))]) := by
  refine fun_walk [] Try.func22 Try.ntmps22 cc22 cr22 (by kernel_rfl) (by simp only [List.length_cons, List.length_nil]; decide) ?_
  generalize hR : Ret _ _ _ _ _ = R_
  simp only [wz, wd, ws, seval, e_api_Ledger, e_api_Disk, e_api_Write]
  unfold f_ledger_Renew at h; unfold c22
  refine .seq ?_
  refine Rw.walk ?_
  simp only [wz, wd, ws, seval, c22r0, semI.eq_10, semI.eq_11, semI.eq_3, semI.eq_5, semI.eq_7, e_api_Ledger, e_api_Disk, e_api_Write]
  refine .seq ?_
  refine Rw.walk ?_
  simp only [wz, wd, ws, seval, c22r1, semI.eq_10, semI.eq_11, semI.eq_3, semI.eq_5, semI.eq_7, e_api_Ledger, e_api_Disk, e_api_Write]
  obtain ⟨t, e1, h⟩ := Option.bind_eq_some_iff.1 h
  refine call_fun [] true ⟨trivial, trivial, trivial, trivial, trivial⟩ rfl ?_ (f_ledger_done_ok _ _ _ _ e1) (fun h => by cases h) (fun i hi => by cases hi) ?_
  · simp only [wz, wd, ws, seval, e_api_Ledger, e_api_Disk, e_api_Write]
  simp only [wz, wd, ws, seval, c22r1, semI.eq_10, semI.eq_11, semI.eq_3, semI.eq_5, semI.eq_7, e_api_Ledger, e_api_Disk, e_api_Write]
  obtain rfl := Option.some.inj h
  refine .ret ?_
  rw [← hR]
  simp only [wz, wd, ws, seval, rv22, semI.eq_10, e_api_Ledger, e_api_Disk, e_api_Write]
-- 18 consignor/ledger.Add
def c18r0 : List Opn := [
  ⟨(some 2), none, .box 6 (.t 0)⟩, 
  ⟨(some 4), none, .new [.nils, .nils, (.d (.int .i64 0)), (.d (.int .i64 0)), (.d (.int .i64 0)), .nils]⟩, 
  ⟨(some 5), none, .mv (.c (.s (.d (.int .i64 0))))⟩]
def c18r1 : List Opn := [
  ⟨(some 6), none, .load true 6 (.t 2)⟩, 
  ⟨(some 7), none, .mv (.t 1)⟩, 
  ⟨(some 8), none, .call (.fn 43) [(.t 6), (.c (.s (.d (.bool false)))), (.t 7)]⟩, 
  ⟨(some 9), none, .ext (.t 8) 0⟩, 
  ⟨(some 10), none, .ext (.t 8) 1⟩, 
  ⟨none, none, .store 6 (.t 4) (.t 9)⟩, 
  ⟨(some 5), none, .mv (.t 10)⟩]
def c18 : C := .seq (.reg c18r0 none [1, 2, 4]) (.seq (.reg c18r1 none [4, 5]) (.ret))
def k18 : List (Nat × List Nat) := [(1, [4, 5]), (0, [1, 2, 4])]
theorem cc18 : (Try.f18.body).bind (cC Try.prog 11 k18) = some c18 := by kernel_rfl
def rv18 : List RV := [.c 4 true 6, .t 5]
theorem cr18 : cRVs Try.prog Try.f18.results.toList = some rv18 := by kernel_rfl
theorem f_ledger_Add_ok (l : api_Ledger) (news : (List Str)) (y_ : api_Ledger × Int) (h : f_ledger_Add l news = some y_) : Fun Try.prog glP 18 [.b (.agg ((e_api_Ledger l).map Lc.d)), .b (.s (.d (.sl (news.map eS))))] (.tup [.agg ((e_api_Ledger y_.1).map Lc.d), .s (.d (.int .i64 y_.2))]) := by
  refine fun_walk [] Try.func18 Try.ntmps18 cc18 cr18 (by kernel_rfl) (by simp only [List.length_cons, List.length_nil]; decide) ?_
  generalize hR : Ret _ _ _ _ _ = R_
  simp only [wz, wd, ws, seval, e_api_Ledger, e_api_Disk, e_api_Write]
  unfold f_ledger_Add at h; unfold c18
  refine .seq ?_
  refine Rw.walk ?_
  simp only [wz, wd, ws, seval, c18r0, semI.eq_10, semI.eq_11, semI.eq_3, semI.eq_5, semI.eq_7, e_api_Ledger, e_api_Disk, e_api_Write]
  refine .seq ?_
  refine Rw.walk ?_
  simp only [wz, wd, ws, seval, c18r1, semI.eq_10, semI.eq_11, semI.eq_3, semI.eq_5, semI.eq_7, e_api_Ledger, e_api_Disk, e_api_Write]
  obtain ⟨t, e1, h⟩ := Option.bind_eq_some_iff.1 h
  refine call_fun [] true ⟨trivial, trivial, trivial, trivial, trivial⟩ rfl ?_ (f_ledger_done_ok _ _ _ _ e1) (fun h => by cases h) (fun i hi => by cases hi) ?_
  · simp only [wz, wd, ws, seval, e_api_Ledger, e_api_Disk, e_api_Write]
  simp only [wz, wd, ws, seval, c18r1, semI.eq_10, semI.eq_11, semI.eq_3, semI.eq_5, semI.eq_7, e_api_Ledger, e_api_Disk, e_api_Write]
  obtain rfl := Option.some.inj h
  refine .ret ?_
  rw [← hR]
  simp only [wz, wd, ws, seval, rv18, semI.eq_10, e_api_Ledger, e_api_Disk, e_api_Write]
theorem Fun.strAt1 {P : Program} {gl : Gl} {f : FuncId} {xs : List Va} {s : List UInt8} {w w1 : World} {S : Nat → Prop} {vs : Array Value} (h : Fun P gl f xs (.b (.s (.d (.str s))))) (hS : ∀ k, S k → k < w.heap.size) (hG : GlOk gl w S) (hb : Below w.heap.size w w1) (hA : RepA w1 S xs vs) : Calls P f vs w1 fun e w' => e = .returned (.string ⟨⟨s⟩⟩) ∧ Below w1.heap.size w1 w' :=
  (h.2 w1 S vs (fun k hk => Nat.lt_of_lt_of_le (hS k hk) hb.size) (hG.later hS hb) hA).mono fun e w' => by
    rintro ⟨u, S1, rfl, _, _, hr, hb⟩
    refine ⟨?_, hb⟩
    cases hr with
    | d _ _ h => cases h; rfl
theorem repl_row {w : World} {S : Nat → Prop} {g : Nat} {l : List Str} {n : Nat} {arr : Array Value} {t : TypeId} (hS : S g) (hn : l.length = n) (hb : w.heap[g]? = some (.cells arr t (0, 0))) (ha : arr = (l.map strV).toArray) : RepD w S (.sl (l.map eS)) (.slice (some ⟨g, 0, none⟩) n n) := by
  subst hn; subst ha
  have e1 : (l.map eS).length = l.length := List.length_map _
  rw [← e1]
  refine .sl (l.map eS) _ _ 1 g 0 (fun j => strV (l.getD j [])) (by rw [e1]; exact Nat.le_refl _) (fun h => by cases h) (fun r hr => by obtain ⟨x, _, rfl⟩ := List.mem_map.1 hr; rfl) (fun _ => ⟨rfl, hS⟩) (fun j sc hj => ?_) (fun j sc hj => ?_)
  · rw [flat_eS, List.getElem?_map, Option.map_eq_some_iff] at hj
    obtain ⟨x, hx, rfl⟩ := hj
    rw [blk_cell_n hb, Nat.zero_add, List.getElem?_toArray, List.getElem?_map, hx, List.getD_eq_getElem?_getD, hx]; rfl
  · rw [flat_eS, List.getElem?_map, Option.map_eq_some_iff] at hj
    obtain ⟨x, hx, rfl⟩ := hj
    rw [List.getD_eq_getElem?_getD, hx]; exact .str _
theorem rep_none0 {w : World} {S : Nat → Prop} : RepD w S (.sl []) (.slice none 0 0) := RepD.sl [] none 0 0 0 0 (fun _ => undef) (Nat.le_refl _) (fun _ => rfl) (fun r h => by cases h) (fun h => absurd rfl h) (fun j sc h => by simp at h) (fun j sc h => by simp at h)
theorem repv_led {w : World} {S : Nat → Prop} {x : api_Ledger} {n : Int} {u v0 v1 v2 v3 v4 v5 : Value} (h : u = .tuple #[.agg #[v0, v1, v2, v3, v4, v5], .int .i64 n]) (h0 : RepD w S (.sl (x.Disk.Sectors.map eS)) v0) (h1 : RepD w S (.sl (x.Disk.Dirty.map e_api_Write)) v1)
    (h2 : RepD w S (.int .i64 x.Half) v2) (h3 : RepD w S (.int .i64 x.Gen) v3) (h4 : RepD w S (.int .i64 x.Used) v4) (h5 : RepD w S (.sl (x.Entries.map eS)) v5) : RepV w S (fun _ => none) (fun _ => none) (.tup [.agg ((e_api_Ledger x).map Lc.d), .s (.d (.int .i64 n))]) u := by
  subst h
  refine ⟨_, rfl, rfl, fun j z hj => ?_⟩
  match j, hj with
  | 0, hj =>
    cases hj
    refine ⟨_, rfl, rfl, fun j lc hj => ?_⟩
    match j, hj with
    | 0, hj => cases hj; exact .d _ _ h0
    | 1, hj => cases hj; exact .d _ _ h1
    | 2, hj => cases hj; exact .d _ _ h2
    | 3, hj => cases hj; exact .d _ _ h3
    | 4, hj => cases hj; exact .d _ _ h4
    | 5, hj => cases hj; exact .d _ _ h5
  | 1, hj => cases hj; exact .d _ _ (.int _ _)
theorem set6 (w : World) (b : Nat) (v0 v1 v2 v3 v4 v5 : Value) (k : Nat) (h : k ≠ b) : ((((((w.setCell ⟨b, 0, none⟩ v0).setCell ⟨b, 1, none⟩ v1).setCell ⟨b, 2, none⟩ v2).setCell ⟨b, 3, none⟩ v3).setCell ⟨b, 4, none⟩ v4).setCell ⟨b, 5, none⟩ v5).heap[k]? = w.heap[k]? :=
  (Below.heap_setCell _ _ _ k h).trans ((Below.heap_setCell _ _ _ k h).trans ((Below.heap_setCell _ _ _ k h).trans ((Below.heap_setCell _ _ _ k h).trans ((Below.heap_setCell _ _ _ k h).trans (Below.heap_setCell _ _ _ k h)))))
theorem sl_of {w : World} {S : Nat → Prop} {rows : List (List Sc)} {v : Value} (h : RepD w S (.sl rows) v) : ∃ a n c, v = .slice a n c := by cases h; exact ⟨_, _, _, rfl⟩
theorem led_repv {w : World} {S : Nat → Prop} {x : api_Ledger} {n : Int} {u : Value} (h : RepV w S (fun _ => none) (fun _ => none) (.tup [.agg ((e_api_Ledger x).map Lc.d), .s (.d (.int .i64 n))]) u) :
    ∃ v0 v1 v2 v3 v4 v5, u = .tuple #[.agg #[v0, v1, v2, v3, v4, v5], .int .i64 n] ∧ RepD w S (.sl (x.Disk.Sectors.map eS)) v0 ∧ RepD w S (.sl (x.Disk.Dirty.map e_api_Write)) v1 ∧ RepD w S (.int .i64 x.Half) v2 ∧ RepD w S (.int .i64 x.Gen) v3 ∧ RepD w S (.int .i64 x.Used) v4 ∧ RepD w S (.sl (x.Entries.map eS)) v5 := by
  obtain ⟨⟨vs⟩, rfl, hl, hv⟩ := h
  match vs, hl with
  | [a, b], _ =>
    obtain ⟨⟨ws⟩, ha, hl2, hw⟩ := hv 0 _ rfl
    have ha : a = .agg ⟨ws⟩ := ha
    subst ha
    have hb : RepL w S (fun _ => none) (fun _ => none) (.d (.int .i64 n)) b := hv 1 _ rfl
    match ws, hl2 with
    | [v0, v1, v2, v3, v4, v5], _ =>
      have g : ∀ (j : Nat) (sc : Sc), ((e_api_Ledger x).map Lc.d)[j]? = some (.d sc) → RepD w S sc ((#[v0, v1, v2, v3, v4, v5] : Array Value).getD j undef) := fun j sc hj => by
        have := hw j _ hj
        cases this with | d _ _ q => exact q
      refine ⟨v0, v1, v2, v3, v4, v5, ?_, g 0 _ rfl, g 1 _ rfl, g 2 _ rfl, g 3 _ rfl, g 4 _ rfl, g 5 _ rfl⟩
      cases hb with | d _ _ q => cases q; rfl
set_option maxHeartbeats 4000000 in
set_option maxRecDepth 100000 in
theorem f_ledger_Format_ok (n : Int) (y_ : api_Ledger × Int) (h : f_ledger_Format n = some y_) : Fun Try.prog glP 12 [.b (.s (.d (.int .i64 n)))] (.tup [.agg ((e_api_Ledger y_.1).map Lc.d), .s (.d (.int .i64 y_.2))]) := by
  refine ⟨by kernel_rfl, fun w S vs hS hG hA => ?_⟩
  obtain ⟨v, rfl, h1⟩ := args1 hA
  obtain rfl := repv_int h1
  clear h1 hA
  go_enter Try.func12, Try.ntmps12
  go_wp2_with fail
  refine (disk_New_s n _).mono ?_
  rintro e w1 ⟨⟨hn, g, rfl, hg, hrow⟩ | ⟨hn, rfl⟩, b1⟩
  · rw [f_ledger_Format, if_pos (show 4 ≤ n ∧ n ≤ 64 from hn)] at h
    obtain ⟨hd, eh, h⟩ := Option.bind_eq_some_iff.1 h
    have hz1 := b1.size
    simp only [World.size_alloc] at hz1 hg
    obtain ⟨m, hm⟩ := Int.eq_ofNat_of_zero_le (show 0 ≤ n by have := hn.1; omega)
    obtain rfl : n = (m : Int) := hm
    have hm4 : 4 ≤ m := by have := hn.1; omega
    rw [Int.toNat_natCast] at hrow
    have Z0 : Cl w1 ⟨w.heap.size, 0, none⟩ (.slice none 0 0) := Cl.below b1 ⟨by simp, by simp⟩
    have Z1 : Cl w1 ⟨w.heap.size, 1, none⟩ (.slice none 0 0) := Cl.below b1 ⟨by simp, by simp⟩
    have Z2 : Cl w1 ⟨w.heap.size, 2, none⟩ (.int .i64 0) := Cl.below b1 ⟨by simp, by simp⟩
    have Z3 : Cl w1 ⟨w.heap.size, 3, none⟩ (.int .i64 0) := Cl.below b1 ⟨by simp, by simp⟩
    have Z4 : Cl w1 ⟨w.heap.size, 4, none⟩ (.int .i64 0) := Cl.below b1 ⟨by simp, by simp⟩
    have Z5 : Cl w1 ⟨w.heap.size, 5, none⟩ (.slice none 0 0) := Cl.below b1 ⟨by simp, by simp⟩
    have R0 : Cl w1 ⟨g, 0, none⟩ (.string ⟨⟨sect0⟩⟩) := ⟨(blk_cell_n hrow 0).trans (by rw [List.getElem?_toArray, List.getElem?_replicate, if_pos (by omega)]), blk_frozen_n hrow 0⟩
    have RB : Rb w1 g (.cells (List.replicate m (Value.string ⟨⟨sect0⟩⟩)).toArray 9 (0, 0)) := ⟨hrow⟩
    have hgl : g < w1.heap.size := blk_lt_n hrow
    have X0 : Cl (w1.alloc (.cells #[.slice (some ⟨g, 0, none⟩) m m, .slice none 0 0] 25)) ⟨w1.heap.size, 0, none⟩ (.slice (some ⟨g, 0, none⟩) m m) := ⟨by simp, by simp⟩
    have X1 : Cl (w1.alloc (.cells #[.slice (some ⟨g, 0, none⟩) m m, .slice none 0 0] 25)) ⟨w1.heap.size, 1, none⟩ (.slice none 0 0) := ⟨by simp, by simp⟩
    have B1 : Below w.heap.size w (w1.alloc (.cells #[.slice (some ⟨g, 0, none⟩) m m, .slice none 0 0] 25)) := bl_al (bl_st (bl_al (Below.refl _ _) _) b1) _
    go_upto_region 4 with (fail)
    clear hrow
    have R0 := R0.al (o := .cells #[.slice (some ⟨g, 0, none⟩) m m, .slice none 0 0] 25)
    have RB := RB.al (o2 := .cells #[.slice (some ⟨g, 0, none⟩) m m, .slice none 0 0] 25)
    have Z0 := Z0.al (o := .cells #[.slice (some ⟨g, 0, none⟩) m m, .slice none 0 0] 25)
    have Z1 := Z1.al (o := .cells #[.slice (some ⟨g, 0, none⟩) m m, .slice none 0 0] 25)
    have Z2 := Z2.al (o := .cells #[.slice (some ⟨g, 0, none⟩) m m, .slice none 0 0] 25)
    have Z3 := Z3.al (o := .cells #[.slice (some ⟨g, 0, none⟩) m m, .slice none 0 0] 25)
    have Z4 := Z4.al (o := .cells #[.slice (some ⟨g, 0, none⟩) m m, .slice none 0 0] 25)
    have Z5 := Z5.al (o := .cells #[.slice (some ⟨g, 0, none⟩) m m, .slice none 0 0] 25)
    have X0_c := X0.cell
    have R0_c := R0.cell
    have R0_f := R0.free
    generalize hW : w1.alloc (.cells #[.slice (some ⟨g, 0, none⟩) m m, .slice none 0 0] 25) = W at *
    have hsW : w1.heap.size < W.heap.size := by rw [← hW]; simp
    clear hW
    go_cut [17] (fun v17 wc => v17 = .string ⟨⟨hd⟩⟩ ∧ Cl wc ⟨w1.heap.size, 0, none⟩ (.slice (some ⟨g, 0, none⟩) m m) ∧ Cl wc ⟨w1.heap.size, 1, none⟩ (.slice none 0 0) ∧ Cl wc ⟨w.heap.size, 0, none⟩ (.slice none 0 0) ∧ Cl wc ⟨w.heap.size, 1, none⟩ (.slice none 0 0) ∧ Cl wc ⟨w.heap.size, 2, none⟩ (.int .i64 0) ∧ Cl wc ⟨w.heap.size, 3, none⟩ (.int .i64 0) ∧ Cl wc ⟨w.heap.size, 4, none⟩ (.int .i64 0) ∧ Cl wc ⟨w.heap.size, 5, none⟩ (.slice none 0 0) ∧ Rb wc g (.cells ((List.replicate m (Value.string ⟨⟨sect0⟩⟩)).toArray.setIfInBounds 0 (.string ⟨⟨hd⟩⟩)) 9 (0, 0)) ∧ Below w.heap.size w wc)
    case first =>
      go_region_with (first
        | (go_at_call 40; refine (Fun.strAt1 (f_ledger_head_ok 1 0 hd eh) hS hG (by repeat (first | exact Below.refl _ _ | (with_reducible assumption) | refine bl_al ?_ _ | refine bl_dN ?_ _ | refine bl_dr ?_ | refine Below.setCell ?_ (by dsimp only; omega) _ | refine bl_st ?_ (by assumption))) (repA_two (.d _ _ (.int _ _)) (.d _ _ (.int _ _)))).mono ?_; rintro e w2 ⟨rfl, b2⟩; have sz2 := b2.size; (first | (replace X0 := Cl.below b2 X0) | (replace X0 := Cl.below b2 X0.al) | (replace X0 := Cl.below b2 X0.dr) | (replace X0 := Cl.below b2 X0.drN) | (replace X0 := Cl.below b2 X0.al.al) | (replace X0 := Cl.below b2 X0.al.dr) | (replace X0 := Cl.below b2 X0.al.drN) | (replace X0 := Cl.below b2 X0.dr.al) | (replace X0 := Cl.below b2 X0.dr.dr) | (replace X0 := Cl.below b2 X0.dr.drN) | (replace X0 := Cl.below b2 X0.drN.al) | (replace X0 := Cl.below b2 X0.drN.dr) | (replace X0 := Cl.below b2 X0.drN.drN) | (replace X0 := Cl.below b2 X0.al.al.al) | (replace X0 := Cl.below b2 X0.al.al.dr) | (replace X0 := Cl.below b2 X0.al.al.drN) | (replace X0 := Cl.below b2 X0.al.dr.al) | (replace X0 := Cl.below b2 X0.al.dr.dr) | (replace X0 := Cl.below b2 X0.al.dr.drN) | (replace X0 := Cl.below b2 X0.al.drN.al) | (replace X0 := Cl.below b2 X0.al.drN.dr) | (replace X0 := Cl.below b2 X0.al.drN.drN) | (replace X0 := Cl.below b2 X0.dr.al.al) | (replace X0 := Cl.below b2 X0.dr.al.dr) | (replace X0 := Cl.below b2 X0.dr.al.drN) | (replace X0 := Cl.below b2 X0.dr.dr.al) | (replace X0 := Cl.below b2 X0.dr.dr.dr) | (replace X0 := Cl.below b2 X0.dr.dr.drN) | (replace X0 := Cl.below b2 X0.dr.drN.al) | (replace X0 := Cl.below b2 X0.dr.drN.dr) | (replace X0 := Cl.below b2 X0.dr.drN.drN) | (replace X0 := Cl.below b2 X0.drN.al.al) | (replace X0 := Cl.below b2 X0.drN.al.dr) | (replace X0 := Cl.below b2 X0.drN.al.drN) | (replace X0 := Cl.below b2 X0.drN.dr.al) | (replace X0 := Cl.below b2 X0.drN.dr.dr) | (replace X0 := Cl.below b2 X0.drN.dr.drN) | (replace X0 := Cl.below b2 X0.drN.drN.al) | (replace X0 := Cl.below b2 X0.drN.drN.dr) | (replace X0 := Cl.below b2 X0.drN.drN.drN)); (have X0_c := X0.cell); (have X0_f := X0.free); (have X0_l := X0.lt); (dsimp only at X0_l); (first | (replace X1 := Cl.below b2 X1) | (replace X1 := Cl.below b2 X1.al) | (replace X1 := Cl.below b2 X1.dr) | (replace X1 := Cl.below b2 X1.drN) | (replace X1 := Cl.below b2 X1.al.al) | (replace X1 := Cl.below b2 X1.al.dr) | (replace X1 := Cl.below b2 X1.al.drN) | (replace X1 := Cl.below b2 X1.dr.al) | (replace X1 := Cl.below b2 X1.dr.dr) | (replace X1 := Cl.below b2 X1.dr.drN) | (replace X1 := Cl.below b2 X1.drN.al) | (replace X1 := Cl.below b2 X1.drN.dr) | (replace X1 := Cl.below b2 X1.drN.drN) | (replace X1 := Cl.below b2 X1.al.al.al) | (replace X1 := Cl.below b2 X1.al.al.dr) | (replace X1 := Cl.below b2 X1.al.al.drN) | (replace X1 := Cl.below b2 X1.al.dr.al) | (replace X1 := Cl.below b2 X1.al.dr.dr) | (replace X1 := Cl.below b2 X1.al.dr.drN) | (replace X1 := Cl.below b2 X1.al.drN.al) | (replace X1 := Cl.below b2 X1.al.drN.dr) | (replace X1 := Cl.below b2 X1.al.drN.drN) | (replace X1 := Cl.below b2 X1.dr.al.al) | (replace X1 := Cl.below b2 X1.dr.al.dr) | (replace X1 := Cl.below b2 X1.dr.al.drN) | (replace X1 := Cl.below b2 X1.dr.dr.al) | (replace X1 := Cl.below b2 X1.dr.dr.dr) | (replace X1 := Cl.below b2 X1.dr.dr.drN) | (replace X1 := Cl.below b2 X1.dr.drN.al) | (replace X1 := Cl.below b2 X1.dr.drN.dr) | (replace X1 := Cl.below b2 X1.dr.drN.drN) | (replace X1 := Cl.below b2 X1.drN.al.al) | (replace X1 := Cl.below b2 X1.drN.al.dr) | (replace X1 := Cl.below b2 X1.drN.al.drN) | (replace X1 := Cl.below b2 X1.drN.dr.al) | (replace X1 := Cl.below b2 X1.drN.dr.dr) | (replace X1 := Cl.below b2 X1.drN.dr.drN) | (replace X1 := Cl.below b2 X1.drN.drN.al) | (replace X1 := Cl.below b2 X1.drN.drN.dr) | (replace X1 := Cl.below b2 X1.drN.drN.drN)); (have X1_c := X1.cell); (have X1_f := X1.free); (have X1_l := X1.lt); (dsimp only at X1_l); (first | (replace Z0 := Cl.below b2 Z0) | (replace Z0 := Cl.below b2 Z0.al) | (replace Z0 := Cl.below b2 Z0.dr) | (replace Z0 := Cl.below b2 Z0.drN) | (replace Z0 := Cl.below b2 Z0.al.al) | (replace Z0 := Cl.below b2 Z0.al.dr) | (replace Z0 := Cl.below b2 Z0.al.drN) | (replace Z0 := Cl.below b2 Z0.dr.al) | (replace Z0 := Cl.below b2 Z0.dr.dr) | (replace Z0 := Cl.below b2 Z0.dr.drN) | (replace Z0 := Cl.below b2 Z0.drN.al) | (replace Z0 := Cl.below b2 Z0.drN.dr) | (replace Z0 := Cl.below b2 Z0.drN.drN) | (replace Z0 := Cl.below b2 Z0.al.al.al) | (replace Z0 := Cl.below b2 Z0.al.al.dr) | (replace Z0 := Cl.below b2 Z0.al.al.drN) | (replace Z0 := Cl.below b2 Z0.al.dr.al) | (replace Z0 := Cl.below b2 Z0.al.dr.dr) | (replace Z0 := Cl.below b2 Z0.al.dr.drN) | (replace Z0 := Cl.below b2 Z0.al.drN.al) | (replace Z0 := Cl.below b2 Z0.al.drN.dr) | (replace Z0 := Cl.below b2 Z0.al.drN.drN) | (replace Z0 := Cl.below b2 Z0.dr.al.al) | (replace Z0 := Cl.below b2 Z0.dr.al.dr) | (replace Z0 := Cl.below b2 Z0.dr.al.drN) | (replace Z0 := Cl.below b2 Z0.dr.dr.al) | (replace Z0 := Cl.below b2 Z0.dr.dr.dr) | (replace Z0 := Cl.below b2 Z0.dr.dr.drN) | (replace Z0 := Cl.below b2 Z0.dr.drN.al) | (replace Z0 := Cl.below b2 Z0.dr.drN.dr) | (replace Z0 := Cl.below b2 Z0.dr.drN.drN) | (replace Z0 := Cl.below b2 Z0.drN.al.al) | (replace Z0 := Cl.below b2 Z0.drN.al.dr) | (replace Z0 := Cl.below b2 Z0.drN.al.drN) | (replace Z0 := Cl.below b2 Z0.drN.dr.al) | (replace Z0 := Cl.below b2 Z0.drN.dr.dr) | (replace Z0 := Cl.below b2 Z0.drN.dr.drN) | (replace Z0 := Cl.below b2 Z0.drN.drN.al) | (replace Z0 := Cl.below b2 Z0.drN.drN.dr) | (replace Z0 := Cl.below b2 Z0.drN.drN.drN)); (have Z0_c := Z0.cell); (have Z0_f := Z0.free); (have Z0_l := Z0.lt); (dsimp only at Z0_l); (first | (replace Z1 := Cl.below b2 Z1) | (replace Z1 := Cl.below b2 Z1.al) | (replace Z1 := Cl.below b2 Z1.dr) | (replace Z1 := Cl.below b2 Z1.drN) | (replace Z1 := Cl.below b2 Z1.al.al) | (replace Z1 := Cl.below b2 Z1.al.dr) | (replace Z1 := Cl.below b2 Z1.al.drN) | (replace Z1 := Cl.below b2 Z1.dr.al) | (replace Z1 := Cl.below b2 Z1.dr.dr) | (replace Z1 := Cl.below b2 Z1.dr.drN) | (replace Z1 := Cl.below b2 Z1.drN.al) | (replace Z1 := Cl.below b2 Z1.drN.dr) | (replace Z1 := Cl.below b2 Z1.drN.drN) | (replace Z1 := Cl.below b2 Z1.al.al.al) | (replace Z1 := Cl.below b2 Z1.al.al.dr) | (replace Z1 := Cl.below b2 Z1.al.al.drN) | (replace Z1 := Cl.below b2 Z1.al.dr.al) | (replace Z1 := Cl.below b2 Z1.al.dr.dr) | (replace Z1 := Cl.below b2 Z1.al.dr.drN) | (replace Z1 := Cl.below b2 Z1.al.drN.al) | (replace Z1 := Cl.below b2 Z1.al.drN.dr) | (replace Z1 := Cl.below b2 Z1.al.drN.drN) | (replace Z1 := Cl.below b2 Z1.dr.al.al) | (replace Z1 := Cl.below b2 Z1.dr.al.dr) | (replace Z1 := Cl.below b2 Z1.dr.al.drN) | (replace Z1 := Cl.below b2 Z1.dr.dr.al) | (replace Z1 := Cl.below b2 Z1.dr.dr.dr) | (replace Z1 := Cl.below b2 Z1.dr.dr.drN) | (replace Z1 := Cl.below b2 Z1.dr.drN.al) | (replace Z1 := Cl.below b2 Z1.dr.drN.dr) | (replace Z1 := Cl.below b2 Z1.dr.drN.drN) | (replace Z1 := Cl.below b2 Z1.drN.al.al) | (replace Z1 := Cl.below b2 Z1.drN.al.dr) | (replace Z1 := Cl.below b2 Z1.drN.al.drN) | (replace Z1 := Cl.below b2 Z1.drN.dr.al) | (replace Z1 := Cl.below b2 Z1.drN.dr.dr) | (replace Z1 := Cl.below b2 Z1.drN.dr.drN) | (replace Z1 := Cl.below b2 Z1.drN.drN.al) | (replace Z1 := Cl.below b2 Z1.drN.drN.dr) | (replace Z1 := Cl.below b2 Z1.drN.drN.drN)); (have Z1_c := Z1.cell); (have Z1_f := Z1.free); (have Z1_l := Z1.lt); (dsimp only at Z1_l); (first | (replace Z2 := Cl.below b2 Z2) | (replace Z2 := Cl.below b2 Z2.al) | (replace Z2 := Cl.below b2 Z2.dr) | (replace Z2 := Cl.below b2 Z2.drN) | (replace Z2 := Cl.below b2 Z2.al.al) | (replace Z2 := Cl.below b2 Z2.al.dr) | (replace Z2 := Cl.below b2 Z2.al.drN) | (replace Z2 := Cl.below b2 Z2.dr.al) | (replace Z2 := Cl.below b2 Z2.dr.dr) | (replace Z2 := Cl.below b2 Z2.dr.drN) | (replace Z2 := Cl.below b2 Z2.drN.al) | (replace Z2 := Cl.below b2 Z2.drN.dr) | (replace Z2 := Cl.below b2 Z2.drN.drN) | (replace Z2 := Cl.below b2 Z2.al.al.al) | (replace Z2 := Cl.below b2 Z2.al.al.dr) | (replace Z2 := Cl.below b2 Z2.al.al.drN) | (replace Z2 := Cl.below b2 Z2.al.dr.al) | (replace Z2 := Cl.below b2 Z2.al.dr.dr) | (replace Z2 := Cl.below b2 Z2.al.dr.drN) | (replace Z2 := Cl.below b2 Z2.al.drN.al) | (replace Z2 := Cl.below b2 Z2.al.drN.dr) | (replace Z2 := Cl.below b2 Z2.al.drN.drN) | (replace Z2 := Cl.below b2 Z2.dr.al.al) | (replace Z2 := Cl.below b2 Z2.dr.al.dr) | (replace Z2 := Cl.below b2 Z2.dr.al.drN) | (replace Z2 := Cl.below b2 Z2.dr.dr.al) | (replace Z2 := Cl.below b2 Z2.dr.dr.dr) | (replace Z2 := Cl.below b2 Z2.dr.dr.drN) | (replace Z2 := Cl.below b2 Z2.dr.drN.al) | (replace Z2 := Cl.below b2 Z2.dr.drN.dr) | (replace Z2 := Cl.below b2 Z2.dr.drN.drN) | (replace Z2 := Cl.below b2 Z2.drN.al.al) | (replace Z2 := Cl.below b2 Z2.drN.al.dr) | (replace Z2 := Cl.below b2 Z2.drN.al.drN) | (replace Z2 := Cl.below b2 Z2.drN.dr.al) | (replace Z2 := Cl.below b2 Z2.drN.dr.dr) | (replace Z2 := Cl.below b2 Z2.drN.dr.drN) | (replace Z2 := Cl.below b2 Z2.drN.drN.al) | (replace Z2 := Cl.below b2 Z2.drN.drN.dr) | (replace Z2 := Cl.below b2 Z2.drN.drN.drN)); (have Z2_c := Z2.cell); (have Z2_f := Z2.free); (have Z2_l := Z2.lt); (dsimp only at Z2_l); (first | (replace Z3 := Cl.below b2 Z3) | (replace Z3 := Cl.below b2 Z3.al) | (replace Z3 := Cl.below b2 Z3.dr) | (replace Z3 := Cl.below b2 Z3.drN) | (replace Z3 := Cl.below b2 Z3.al.al) | (replace Z3 := Cl.below b2 Z3.al.dr) | (replace Z3 := Cl.below b2 Z3.al.drN) | (replace Z3 := Cl.below b2 Z3.dr.al) | (replace Z3 := Cl.below b2 Z3.dr.dr) | (replace Z3 := Cl.below b2 Z3.dr.drN) | (replace Z3 := Cl.below b2 Z3.drN.al) | (replace Z3 := Cl.below b2 Z3.drN.dr) | (replace Z3 := Cl.below b2 Z3.drN.drN) | (replace Z3 := Cl.below b2 Z3.al.al.al) | (replace Z3 := Cl.below b2 Z3.al.al.dr) | (replace Z3 := Cl.below b2 Z3.al.al.drN) | (replace Z3 := Cl.below b2 Z3.al.dr.al) | (replace Z3 := Cl.below b2 Z3.al.dr.dr) | (replace Z3 := Cl.below b2 Z3.al.dr.drN) | (replace Z3 := Cl.below b2 Z3.al.drN.al) | (replace Z3 := Cl.below b2 Z3.al.drN.dr) | (replace Z3 := Cl.below b2 Z3.al.drN.drN) | (replace Z3 := Cl.below b2 Z3.dr.al.al) | (replace Z3 := Cl.below b2 Z3.dr.al.dr) | (replace Z3 := Cl.below b2 Z3.dr.al.drN) | (replace Z3 := Cl.below b2 Z3.dr.dr.al) | (replace Z3 := Cl.below b2 Z3.dr.dr.dr) | (replace Z3 := Cl.below b2 Z3.dr.dr.drN) | (replace Z3 := Cl.below b2 Z3.dr.drN.al) | (replace Z3 := Cl.below b2 Z3.dr.drN.dr) | (replace Z3 := Cl.below b2 Z3.dr.drN.drN) | (replace Z3 := Cl.below b2 Z3.drN.al.al) | (replace Z3 := Cl.below b2 Z3.drN.al.dr) | (replace Z3 := Cl.below b2 Z3.drN.al.drN) | (replace Z3 := Cl.below b2 Z3.drN.dr.al) | (replace Z3 := Cl.below b2 Z3.drN.dr.dr) | (replace Z3 := Cl.below b2 Z3.drN.dr.drN) | (replace Z3 := Cl.below b2 Z3.drN.drN.al) | (replace Z3 := Cl.below b2 Z3.drN.drN.dr) | (replace Z3 := Cl.below b2 Z3.drN.drN.drN)); (have Z3_c := Z3.cell); (have Z3_f := Z3.free); (have Z3_l := Z3.lt); (dsimp only at Z3_l); (first | (replace Z4 := Cl.below b2 Z4) | (replace Z4 := Cl.below b2 Z4.al) | (replace Z4 := Cl.below b2 Z4.dr) | (replace Z4 := Cl.below b2 Z4.drN) | (replace Z4 := Cl.below b2 Z4.al.al) | (replace Z4 := Cl.below b2 Z4.al.dr) | (replace Z4 := Cl.below b2 Z4.al.drN) | (replace Z4 := Cl.below b2 Z4.dr.al) | (replace Z4 := Cl.below b2 Z4.dr.dr) | (replace Z4 := Cl.below b2 Z4.dr.drN) | (replace Z4 := Cl.below b2 Z4.drN.al) | (replace Z4 := Cl.below b2 Z4.drN.dr) | (replace Z4 := Cl.below b2 Z4.drN.drN) | (replace Z4 := Cl.below b2 Z4.al.al.al) | (replace Z4 := Cl.below b2 Z4.al.al.dr) | (replace Z4 := Cl.below b2 Z4.al.al.drN) | (replace Z4 := Cl.below b2 Z4.al.dr.al) | (replace Z4 := Cl.below b2 Z4.al.dr.dr) | (replace Z4 := Cl.below b2 Z4.al.dr.drN) | (replace Z4 := Cl.below b2 Z4.al.drN.al) | (replace Z4 := Cl.below b2 Z4.al.drN.dr) | (replace Z4 := Cl.below b2 Z4.al.drN.drN) | (replace Z4 := Cl.below b2 Z4.dr.al.al) | (replace Z4 := Cl.below b2 Z4.dr.al.dr) | (replace Z4 := Cl.below b2 Z4.dr.al.drN) | (replace Z4 := Cl.below b2 Z4.dr.dr.al) | (replace Z4 := Cl.below b2 Z4.dr.dr.dr) | (replace Z4 := Cl.below b2 Z4.dr.dr.drN) | (replace Z4 := Cl.below b2 Z4.dr.drN.al) | (replace Z4 := Cl.below b2 Z4.dr.drN.dr) | (replace Z4 := Cl.below b2 Z4.dr.drN.drN) | (replace Z4 := Cl.below b2 Z4.drN.al.al) | (replace Z4 := Cl.below b2 Z4.drN.al.dr) | (replace Z4 := Cl.below b2 Z4.drN.al.drN) | (replace Z4 := Cl.below b2 Z4.drN.dr.al) | (replace Z4 := Cl.below b2 Z4.drN.dr.dr) | (replace Z4 := Cl.below b2 Z4.drN.dr.drN) | (replace Z4 := Cl.below b2 Z4.drN.drN.al) | (replace Z4 := Cl.below b2 Z4.drN.drN.dr) | (replace Z4 := Cl.below b2 Z4.drN.drN.drN)); (have Z4_c := Z4.cell); (have Z4_f := Z4.free); (have Z4_l := Z4.lt); (dsimp only at Z4_l); (first | (replace Z5 := Cl.below b2 Z5) | (replace Z5 := Cl.below b2 Z5.al) | (replace Z5 := Cl.below b2 Z5.dr) | (replace Z5 := Cl.below b2 Z5.drN) | (replace Z5 := Cl.below b2 Z5.al.al) | (replace Z5 := Cl.below b2 Z5.al.dr) | (replace Z5 := Cl.below b2 Z5.al.drN) | (replace Z5 := Cl.below b2 Z5.dr.al) | (replace Z5 := Cl.below b2 Z5.dr.dr) | (replace Z5 := Cl.below b2 Z5.dr.drN) | (replace Z5 := Cl.below b2 Z5.drN.al) | (replace Z5 := Cl.below b2 Z5.drN.dr) | (replace Z5 := Cl.below b2 Z5.drN.drN) | (replace Z5 := Cl.below b2 Z5.al.al.al) | (replace Z5 := Cl.below b2 Z5.al.al.dr) | (replace Z5 := Cl.below b2 Z5.al.al.drN) | (replace Z5 := Cl.below b2 Z5.al.dr.al) | (replace Z5 := Cl.below b2 Z5.al.dr.dr) | (replace Z5 := Cl.below b2 Z5.al.dr.drN) | (replace Z5 := Cl.below b2 Z5.al.drN.al) | (replace Z5 := Cl.below b2 Z5.al.drN.dr) | (replace Z5 := Cl.below b2 Z5.al.drN.drN) | (replace Z5 := Cl.below b2 Z5.dr.al.al) | (replace Z5 := Cl.below b2 Z5.dr.al.dr) | (replace Z5 := Cl.below b2 Z5.dr.al.drN) | (replace Z5 := Cl.below b2 Z5.dr.dr.al) | (replace Z5 := Cl.below b2 Z5.dr.dr.dr) | (replace Z5 := Cl.below b2 Z5.dr.dr.drN) | (replace Z5 := Cl.below b2 Z5.dr.drN.al) | (replace Z5 := Cl.below b2 Z5.dr.drN.dr) | (replace Z5 := Cl.below b2 Z5.dr.drN.drN) | (replace Z5 := Cl.below b2 Z5.drN.al.al) | (replace Z5 := Cl.below b2 Z5.drN.al.dr) | (replace Z5 := Cl.below b2 Z5.drN.al.drN) | (replace Z5 := Cl.below b2 Z5.drN.dr.al) | (replace Z5 := Cl.below b2 Z5.drN.dr.dr) | (replace Z5 := Cl.below b2 Z5.drN.dr.drN) | (replace Z5 := Cl.below b2 Z5.drN.drN.al) | (replace Z5 := Cl.below b2 Z5.drN.drN.dr) | (replace Z5 := Cl.below b2 Z5.drN.drN.drN)); (have Z5_c := Z5.cell); (have Z5_f := Z5.free); (have Z5_l := Z5.lt); (dsimp only at Z5_l); (first | (replace R0 := Cl.below b2 R0) | (replace R0 := Cl.below b2 R0.al) | (replace R0 := Cl.below b2 R0.dr) | (replace R0 := Cl.below b2 R0.drN) | (replace R0 := Cl.below b2 R0.al.al) | (replace R0 := Cl.below b2 R0.al.dr) | (replace R0 := Cl.below b2 R0.al.drN) | (replace R0 := Cl.below b2 R0.dr.al) | (replace R0 := Cl.below b2 R0.dr.dr) | (replace R0 := Cl.below b2 R0.dr.drN) | (replace R0 := Cl.below b2 R0.drN.al) | (replace R0 := Cl.below b2 R0.drN.dr) | (replace R0 := Cl.below b2 R0.drN.drN) | (replace R0 := Cl.below b2 R0.al.al.al) | (replace R0 := Cl.below b2 R0.al.al.dr) | (replace R0 := Cl.below b2 R0.al.al.drN) | (replace R0 := Cl.below b2 R0.al.dr.al) | (replace R0 := Cl.below b2 R0.al.dr.dr) | (replace R0 := Cl.below b2 R0.al.dr.drN) | (replace R0 := Cl.below b2 R0.al.drN.al) | (replace R0 := Cl.below b2 R0.al.drN.dr) | (replace R0 := Cl.below b2 R0.al.drN.drN) | (replace R0 := Cl.below b2 R0.dr.al.al) | (replace R0 := Cl.below b2 R0.dr.al.dr) | (replace R0 := Cl.below b2 R0.dr.al.drN) | (replace R0 := Cl.below b2 R0.dr.dr.al) | (replace R0 := Cl.below b2 R0.dr.dr.dr) | (replace R0 := Cl.below b2 R0.dr.dr.drN) | (replace R0 := Cl.below b2 R0.dr.drN.al) | (replace R0 := Cl.below b2 R0.dr.drN.dr) | (replace R0 := Cl.below b2 R0.dr.drN.drN) | (replace R0 := Cl.below b2 R0.drN.al.al) | (replace R0 := Cl.below b2 R0.drN.al.dr) | (replace R0 := Cl.below b2 R0.drN.al.drN) | (replace R0 := Cl.below b2 R0.drN.dr.al) | (replace R0 := Cl.below b2 R0.drN.dr.dr) | (replace R0 := Cl.below b2 R0.drN.dr.drN) | (replace R0 := Cl.below b2 R0.drN.drN.al) | (replace R0 := Cl.below b2 R0.drN.drN.dr) | (replace R0 := Cl.below b2 R0.drN.drN.drN)); (have R0_c := R0.cell); (have R0_f := R0.free); (have R0_l := R0.lt); (dsimp only at R0_l); (first | (replace RB := Rb.below b2 RB) | (replace RB := Rb.below b2 RB.al) | (replace RB := Rb.below b2 RB.dr) | (replace RB := Rb.below b2 RB.drN) | (replace RB := Rb.below b2 RB.al.al) | (replace RB := Rb.below b2 RB.al.dr) | (replace RB := Rb.below b2 RB.al.drN) | (replace RB := Rb.below b2 RB.dr.al) | (replace RB := Rb.below b2 RB.dr.dr) | (replace RB := Rb.below b2 RB.dr.drN) | (replace RB := Rb.below b2 RB.drN.al) | (replace RB := Rb.below b2 RB.drN.dr) | (replace RB := Rb.below b2 RB.drN.drN) | (replace RB := Rb.below b2 RB.al.al.al) | (replace RB := Rb.below b2 RB.al.al.dr) | (replace RB := Rb.below b2 RB.al.al.drN) | (replace RB := Rb.below b2 RB.al.dr.al) | (replace RB := Rb.below b2 RB.al.dr.dr) | (replace RB := Rb.below b2 RB.al.dr.drN) | (replace RB := Rb.below b2 RB.al.drN.al) | (replace RB := Rb.below b2 RB.al.drN.dr) | (replace RB := Rb.below b2 RB.al.drN.drN) | (replace RB := Rb.below b2 RB.dr.al.al) | (replace RB := Rb.below b2 RB.dr.al.dr) | (replace RB := Rb.below b2 RB.dr.al.drN) | (replace RB := Rb.below b2 RB.dr.dr.al) | (replace RB := Rb.below b2 RB.dr.dr.dr) | (replace RB := Rb.below b2 RB.dr.dr.drN) | (replace RB := Rb.below b2 RB.dr.drN.al) | (replace RB := Rb.below b2 RB.dr.drN.dr) | (replace RB := Rb.below b2 RB.dr.drN.drN) | (replace RB := Rb.below b2 RB.drN.al.al) | (replace RB := Rb.below b2 RB.drN.al.dr) | (replace RB := Rb.below b2 RB.drN.al.drN) | (replace RB := Rb.below b2 RB.drN.dr.al) | (replace RB := Rb.below b2 RB.drN.dr.dr) | (replace RB := Rb.below b2 RB.drN.dr.drN) | (replace RB := Rb.below b2 RB.drN.drN.al) | (replace RB := Rb.below b2 RB.drN.drN.dr) | (replace RB := Rb.below b2 RB.drN.drN.drN)))
        | fail)
      all_goals
        go_wp2_with fail
        go_meet
        exact ⟨rfl, X0.far (by dsimp only; omega), X1.far (by dsimp only; omega), Z0.far (by dsimp only; omega), Z1.far (by dsimp only; omega), Z2.far (by dsimp only; omega), Z3.far (by dsimp only; omega), Z4.far (by dsimp only; omega), Z5.far (by dsimp only; omega), ⟨blk_set_n RB.blk 0 _⟩, (by repeat (first | exact Below.refl _ _ | (with_reducible assumption) | refine bl_al ?_ _ | refine bl_dN ?_ _ | refine bl_dr ?_ | refine Below.setCell ?_ (by dsimp only; omega) _ | refine bl_st ?_ (by assumption)))⟩
    case rest =>
      obtain ⟨rfl, X0, X1, Z0, Z1, Z2, Z3, Z4, Z5, RB, bc⟩ := hcut
      rw [Int.toNat_natCast] at h
      have X0_c := X0.cell
      have X1_c := X1.cell
      have szc := X0.lt
      have szg := blk_lt_n RB.blk
      have hrow : RepD wc (fun k => S k ∨ k = g) (.sl (((List.replicate m (List.replicate 128 0)).set 0 hd).map eS)) (.slice (some ⟨g, 0, none⟩) m m) :=
        repl_row (.inr rfl) (by simp) RB.blk (by rw [List.setIfInBounds_toArray, List.map_set, List.map_replicate]; rfl)
      have hG2 : GlOk glP wc (fun k => S k ∨ k = g) := fun q cs hq => ((hG.later hS bc) q cs hq).mono (fun k hk => .inl hk) (fun _ _ => rfl)
      have hS2 : ∀ k, (S k ∨ k = g) → k < wc.heap.size := fun k hk => by
        rcases hk with hk | rfl
        · exact Nat.lt_of_lt_of_le (hS k hk) bc.size
        · exact szg
      have hA2 : RepA wc (fun k => S k ∨ k = g) [.b (.agg ((e_api_Disk (api_Disk.mk ((List.replicate m (List.replicate 128 0)).set 0 hd) [])).map Lc.d))] #[.agg #[.slice (some ⟨g, 0, none⟩) m m, .slice none 0 0]] := by
        refine ⟨rfl, fun j x hj => ?_⟩
        match j, hj with
        | 0, hj =>
          cases hj
          refine ⟨_, rfl, rfl, fun j lc hj => ?_⟩
          match j, hj with
          | 0, hj => cases hj; exact .d _ _ hrow
          | 1, hj => cases hj; exact .d _ _ rep_none0
      go_wp2_with fail
      refine ((f_ledger_Open_ok _ _ h).2 wc (fun k => S k ∨ k = g) _ hS2 hG2 hA2).mono ?_
      rintro e w3 ⟨u, S1, rfl, hs1, hs2, hr, b3⟩
      obtain ⟨v0, v1, v2, v3, v4, v5, rfl, r0, r1, r2, r3, r4, r5⟩ := led_repv hr
      obtain ⟨a0, n0, k0, rfl⟩ := sl_of r0
      obtain ⟨a1, n1, k1, rfl⟩ := sl_of r1
      obtain ⟨a5, n5, k5, rfl⟩ := sl_of r5
      obtain rfl := repD_int r2
      obtain rfl := repD_int r3
      obtain rfl := repD_int r4
      have hz3 := b3.size
      replace Z0 := Cl.below b3 Z0
      replace Z1 := Cl.below b3 Z1
      replace Z2 := Cl.below b3 Z2
      replace Z3 := Cl.below b3 Z3
      replace Z4 := Cl.below b3 Z4
      replace Z5 := Cl.below b3 Z5
      have Z0_c := Z0.cell
      have Z1_c := Z1.cell
      have Z2_c := Z2.cell
      have Z3_c := Z3.cell
      have Z4_c := Z4.cell
      have Z5_c := Z5.cell
      have Z0_f := Z0.free
      have Z1_f := Z1.free
      have Z2_f := Z2.free
      have Z3_f := Z3.free
      have Z4_f := Z4.free
      have Z5_f := Z5.free
      have hfin : ∀ k, S1 k → k ≠ w.heap.size := fun k hk => by
        rcases (hs2 k hk).1 with (h1 | h1) | h1
        · have := hS k h1; omega
        · omega
        · have := bc.size; have := Z0.lt; omega
      clear X0 X1 Z0 Z1 Z2 Z3 Z4 Z5 RB hr
      go_wp2
      refine bodyPost_ret (v := .tuple #[.agg #[.slice a0 n0 k0, .slice a1 n1 k1, .int .i64 y_.1.Half, .int .i64 y_.1.Gen, .int .i64 y_.1.Used, .slice a5 n5 k5], .int .i64 y_.2]) (by simp [results, Try.results12, go_sem, *]) rfl ?_
      have mv := fun k hk => set6 w3 w.heap.size (.slice a0 n0 k0) (.slice a1 n1 k1) (.int .i64 y_.1.Half) (.int .i64 y_.1.Gen) (.int .i64 y_.1.Used) (.slice a5 n5 k5) k (hfin k hk)
      refine ⟨_, S1, rfl, fun k hk => hs1 k (.inl hk), fun k hk => ⟨?_, ?_⟩, repv_led rfl (r0.mono (fun _ h => h) mv) (r1.mono (fun _ h => h) mv) (.int _ _) (.int _ _) (.int _ _) (r5.mono (fun _ h => h) mv), ?_⟩
      · rcases (hs2 k hk).1 with (h1 | h1) | h1
        · exact .inl h1
        · right; omega
        · right; have := bc.size; omega
      · have := (hs2 k hk).2; simpa only [World.size_setCell] using this
      · exact ((((((bl_st bc b3).setCell (Nat.le_refl _) _).setCell (Nat.le_refl _) _).setCell (Nat.le_refl _) _).setCell (Nat.le_refl _) _).setCell (Nat.le_refl _) _).setCell (Nat.le_refl _) _
  · obtain rfl := Option.some.inj ((if_neg hn).symm.trans h)
    have hz1 := b1.size
    simp only [World.size_alloc] at hz1
    have e1 : ∀ o, w1.cell? ⟨w.heap.size, o, none⟩ = _ := fun o => b1.cell (p := ⟨w.heap.size, o, none⟩) (by simp only [World.size_alloc]; omega)
    have e2 : ∀ o, w1.frozen? ⟨w.heap.size, o, none⟩ = _ := fun o => b1.frozen (p := ⟨w.heap.size, o, none⟩) (by simp only [World.size_alloc]; omega)
    have c0 : w1.cell? ⟨w.heap.size, 0, none⟩ = some (.slice none 0 0) := (e1 0).trans (by simp)
    have c1 : w1.cell? ⟨w.heap.size, 1, none⟩ = some (.slice none 0 0) := (e1 1).trans (by simp)
    have c2 : w1.cell? ⟨w.heap.size, 2, none⟩ = some (.int .i64 0) := (e1 2).trans (by simp)
    have c3 : w1.cell? ⟨w.heap.size, 3, none⟩ = some (.int .i64 0) := (e1 3).trans (by simp)
    have c4 : w1.cell? ⟨w.heap.size, 4, none⟩ = some (.int .i64 0) := (e1 4).trans (by simp)
    have c5 : w1.cell? ⟨w.heap.size, 5, none⟩ = some (.slice none 0 0) := (e1 5).trans (by simp)
    have f0 : w1.frozen? ⟨w.heap.size, 0, none⟩ = false := (e2 0).trans (by simp)
    have f1 : w1.frozen? ⟨w.heap.size, 1, none⟩ = false := (e2 1).trans (by simp)
    have f2 : w1.frozen? ⟨w.heap.size, 2, none⟩ = false := (e2 2).trans (by simp)
    have f3 : w1.frozen? ⟨w.heap.size, 3, none⟩ = false := (e2 3).trans (by simp)
    have f4 : w1.frozen? ⟨w.heap.size, 4, none⟩ = false := (e2 4).trans (by simp)
    have f5 : w1.frozen? ⟨w.heap.size, 5, none⟩ = false := (e2 5).trans (by simp)
    have hlt : w.heap.size < w1.heap.size := by omega
    have hne : ¬ w.heap.size = w1.heap.size := by omega
    have al := fun (o : Nat) => ((Below.refl w1.heap.size w1).alloc (Nat.le_refl _) (.cells #[.slice none 0 0, .slice none 0 0] 25)).cell (p := ⟨w.heap.size, o, none⟩) hlt
    have fl := fun (o : Nat) => ((Below.refl w1.heap.size w1).alloc (Nat.le_refl _) (.cells #[.slice none 0 0, .slice none 0 0] 25)).frozen (p := ⟨w.heap.size, o, none⟩) hlt
    have d0 := (al 0).trans c0
    have h0' := (fl 0).trans f0
    have d1 := (al 1).trans c1
    have h1' := (fl 1).trans f1
    have d2 := (al 2).trans c2
    have h2' := (fl 2).trans f2
    have d3 := (al 3).trans c3
    have h3' := (fl 3).trans f3
    have d4 := (al 4).trans c4
    have h4' := (fl 4).trans f4
    have d5 := (al 5).trans c5
    have h5' := (fl 5).trans f5
    clear al fl
    clear e1 e2
    go_wp2
    refine bodyPost_ret (v := .tuple #[.agg #[.slice none 0 0, .slice none 0 0, .int .i64 0, .int .i64 0, .int .i64 0, .slice none 0 0], .int .i64 1]) (by simp [results, Try.results12, go_sem, *]) rfl ?_
    have BB := bl_st (bl_al (Below.refl w.heap.size w) _) b1
    refine ⟨_, rfl, S, fun k hk => hk, fun k hk => ⟨.inl hk, ?_⟩, repv_led (x := api_Ledger.mk (api_Disk.mk [] []) 0 0 0 []) rfl rep_none0 rep_none0 (.int _ _) (.int _ _) (.int _ _) rep_none0, ?_⟩
    · have := hS k hk
      simp only [World.size_alloc, World.size_setCell]
      omega
    · exact bl_al ((((((BB.setCell (Nat.le_refl _) _).setCell (Nat.le_refl _) _).setCell (Nat.le_refl _) _).setCell (Nat.le_refl _) _).setCell (Nat.le_refl _) _).setCell (Nat.le_refl _) _) _
-- 14 consignor/consignorlaw10.alive
def c14r0 : List Opn := [
  ⟨(some 0), none, .mv (.c (.s (.d (.bool false))))⟩]
def c14r1 : List Opn := [
  ⟨(some 5), none, .call (.fn 12) [(.c (.s (.d (.int .i64 8))))]⟩, 
  ⟨(some 4), none, .mv (.t 5)⟩, 
  ⟨(some 6), none, .ext (.t 4) 0⟩, 
  ⟨(some 7), none, .ext (.t 4) 1⟩, 
  ⟨(some 1), none, .new [.nils, .nils, (.d (.int .i64 0)), (.d (.int .i64 0)), (.d (.int .i64 0)), .nils]⟩, 
  ⟨none, none, .store 6 (.t 1) (.t 6)⟩, 
  ⟨(some 2), none, .mv (.t 7)⟩]
def c14r2 : List Opn := [
  ⟨(some 9), none, .load true 6 (.t 1)⟩, 
  ⟨(some 10), none, .bsl 1 [(.c (.s (.d (.str [97])))), (.c (.s (.d (.str [98]))))]⟩, 
  ⟨(some 11), none, .call (.fn 18) [(.t 9), (.t 10)]⟩, 
  ⟨(some 8), none, .mv (.t 11)⟩, 
  ⟨(some 12), none, .ext (.t 8) 0⟩, 
  ⟨(some 13), none, .ext (.t 8) 1⟩, 
  ⟨none, none, .store 6 (.t 1) (.t 12)⟩, 
  ⟨(some 3), none, .mv (.t 13)⟩]
def c14r3 : List Opn := [
  ⟨(some 14), none, .mv (.t 2)⟩, 
  ⟨(some 15), none, .bin .eql (.t 14) (.c (.s (.d (.int .i64 0))))⟩, 
  ⟨(some 16), none, .mv (.t 15)⟩, 
  ⟨(some 17), some (16, true), .mv (.t 3)⟩, 
  ⟨(some 18), some (16, true), .bin .eql (.t 17) (.c (.s (.d (.int .i64 0))))⟩, 
  ⟨(some 19), none, .pick (.t 16) (.t 18) (.c (.s (.d (.bool false))))⟩, 
  ⟨(some 20), none, .mv (.t 19)⟩, 
  ⟨(some 21), some (20, true), .fadr 5 (.t 1)⟩, 
  ⟨(some 22), some (20, true), .load false 1 (.t 21)⟩, 
  ⟨(some 23), some (20, true), .len (.sl 0) (.t 22)⟩, 
  ⟨(some 24), some (20, true), .bin .eql (.t 23) (.c (.s (.d (.int .i64 2))))⟩, 
  ⟨(some 25), none, .pick (.t 20) (.t 24) (.c (.s (.d (.bool false))))⟩, 
  ⟨(some 26), none, .mv (.t 25)⟩, 
  ⟨(some 27), some (26, true), .fadr 5 (.t 1)⟩, 
  ⟨(some 28), some (26, true), .load false 1 (.t 27)⟩, 
  ⟨(some 29), some (26, true), .iadr (.sl 1) (.t 28) (.c (.s (.d (.int .i64 1))))⟩, 
  ⟨(some 30), some (26, true), .load false 1 (.t 29)⟩, 
  ⟨(some 31), some (26, true), .bin .eql (.t 30) (.c (.s (.d (.str [98]))))⟩, 
  ⟨(some 32), none, .pick (.t 26) (.t 31) (.c (.s (.d (.bool false))))⟩, 
  ⟨(some 0), none, .mv (.t 32)⟩]
def c14 : C := .seq (.reg c14r0 none []) (.seq (.reg c14r1 none [1, 2]) (.seq (.reg c14r2 none [1, 2, 3]) (.seq (.reg c14r3 none [0]) (.ret))))
def k14 : List (Nat × List Nat) := [(3, [0]), (2, [1, 2, 3]), (1, [1, 2]), (0, [])]
theorem cc14 : (Try.f14.body).bind (cC Try.prog 33 k14) = some c14 := by kernel_rfl
def rv14 : List RV := [.t 0]
theorem cr14 : cRVs Try.prog Try.f14.results.toList = some rv14 := by kernel_rfl
theorem f_law10_alive_ok (y_ : Bool) (h : f_law10_alive = some y_) : Fun Try.prog glP 14 [] (.b (.s (.d (.bool y_)))) := by
  refine fun_walk [] Try.func14 Try.ntmps14 cc14 cr14 (by kernel_rfl) (by simp only [List.length_cons, List.length_nil]; decide) ?_
  generalize hR : Ret _ _ _ _ _ = R_
  simp only [wz, wd, ws, seval, e_api_Ledger, e_api_Disk, e_api_Write]
  unfold f_law10_alive at h; unfold c14
  refine .seq ?_
  refine Rw.walk ?_
  simp only [wz, wd, ws, seval, c14r0, semI.eq_10, semI.eq_11, semI.eq_3, semI.eq_5, semI.eq_7, e_api_Ledger, e_api_Disk, e_api_Write]
  refine .seq ?_
  refine Rw.walk ?_
  simp only [wz, wd, ws, seval, c14r1, semI.eq_10, semI.eq_11, semI.eq_3, semI.eq_5, semI.eq_7, e_api_Ledger, e_api_Disk, e_api_Write]
  obtain ⟨t, e1, h⟩ := Option.bind_eq_some_iff.1 h
  refine call_fun [] true ⟨trivial, trivial, trivial⟩ rfl ?_ (f_ledger_Format_ok _ _ e1) (fun h => by cases h) (fun i hi => by cases hi) ?_
  · simp only [wz, wd, ws, seval, e_api_Ledger, e_api_Disk, e_api_Write]
  simp only [wz, wd, ws, seval, c14r1, semI.eq_10, semI.eq_11, semI.eq_3, semI.eq_5, semI.eq_7, e_api_Ledger, e_api_Disk, e_api_Write]
  refine .seq ?_
  refine Rw.walk ?_
  simp only [wz, wd, ws, seval, c14r2, semI.eq_10, semI.eq_11, semI.eq_3, semI.eq_5, semI.eq_7, e_api_Ledger, e_api_Disk, e_api_Write]
  refine Go1.of (sem_bsl (enc := eS) (m := ([([97] : Str), ([98] : Str)] : List Str)) eS_len (by rfl) (by rfl) (by rfl) ⟨trivial, trivial, trivial⟩) ?_
  simp only [wz, wd, ws, seval, c14r2, semI.eq_10, semI.eq_11, semI.eq_3, semI.eq_5, semI.eq_7, e_api_Ledger, e_api_Disk, e_api_Write]
  obtain ⟨t2, e2, h⟩ := Option.bind_eq_some_iff.1 h
  refine call_fun [10] true ⟨trivial, trivial, trivial, trivial⟩ rfl ?_ (f_ledger_Add_ok _ _ _ e2) (fun h => by cases h) (fun i hi e he => coF_get (l := [10]) (by simp only [wz, wd, ws, seval, wi, e_api_Ledger, e_api_Disk, e_api_Write]) i e hi he) ?_
  · simp only [wz, wd, ws, seval, e_api_Ledger, e_api_Disk, e_api_Write, frz.eq_1, er_back]
  simp only [wz, wd, ws, seval, c14r2, semI.eq_10, semI.eq_11, semI.eq_3, semI.eq_5, semI.eq_7, e_api_Ledger, e_api_Disk, e_api_Write, frz.eq_1, er_back]
  refine .seq ?_
  refine Rw.walk ?_
  simp only [wz, wd, ws, seval, c14r3, semI.eq_10, semI.eq_11, semI.eq_3, semI.eq_5, semI.eq_7, e_api_Ledger, e_api_Disk, e_api_Write, frz.eq_1, er_back]
  repeat (refine And.intro ?_ ?_; · first | omega | (simp only [List.length_append, List.length_cons, List.length_nil] at *; omega) | (intro q; simp only [wz, wd, ws, seval, q]; done))
  refine call_alt (v := .b (.s (.d (.sl (t2.1.Entries.map eS))))) rfl rfl (by simp only [wz, wd, ws, seval]) (fun q => ⟨_, by simp only [wz, wd, ws, seval, semI.eq_10, e_api_Ledger, e_api_Disk, e_api_Write, frz.eq_1, er_back], trivial⟩) ?_
  simp only [wz, wd, ws, seval, c14r3, semI.eq_10, semI.eq_11, semI.eq_3, semI.eq_5, semI.eq_7, e_api_Ledger, e_api_Disk, e_api_Write, frz.eq_1, er_back]
  repeat (refine And.intro ?_ ?_; · first | omega | (simp only [List.length_append, List.length_cons, List.length_nil] at *; omega) | (intro q; simp only [wz, wd, ws, seval, q]; done))
  refine call_alt (v := .b (.s (.d (.sl (t2.1.Entries.map eS))))) rfl rfl (by simp only [wz, wd, ws, seval]) (fun q => ⟨_, by simp only [wz, wd, ws, seval, semI.eq_10, e_api_Ledger, e_api_Disk, e_api_Write, frz.eq_1, er_back], trivial⟩) ?_
  simp only [wz, wd, ws, seval, c14r3, semI.eq_10, semI.eq_11, semI.eq_3, semI.eq_5, semI.eq_7, e_api_Ledger, e_api_Disk, e_api_Write, frz.eq_1, er_back]
  obtain ⟨x, e3, h⟩ := Option.bind_eq_some_iff.1 h
  refine call_alt (v := .b (.s (.d (.ref [(.str x)] 0)))) rfl rfl (by simp only [wz, wd, ws, seval]) (fun q => ⟨_, sem_iadr (enc := eS) (l := t2.1.Entries) eS_len (gx_iff e3 (by simpa using q)) rfl rfl, trivial⟩) ?_
  simp only [wz, wd, ws, seval, c14r3, semI.eq_10, semI.eq_11, semI.eq_3, semI.eq_5, semI.eq_7, e_api_Ledger, e_api_Disk, e_api_Write, frz.eq_1, er_back]
  refine call_alt (v := .b (.s (.d (.str x)))) rfl rfl (by simp only [wz, wd, ws, seval]) (fun q => ⟨_, by simp only [wz, wd, ws, seval, semI.eq_10, e_api_Ledger, e_api_Disk, e_api_Write, frz.eq_1, er_back], trivial⟩) ?_
  simp only [wz, wd, ws, seval, c14r3, semI.eq_10, semI.eq_11, semI.eq_3, semI.eq_5, semI.eq_7, e_api_Ledger, e_api_Disk, e_api_Write, frz.eq_1, er_back]
  repeat (refine And.intro ?_ ?_; · first | omega | (simp only [List.length_append, List.length_cons, List.length_nil] at *; omega) | (intro q; simp only [wz, wd, ws, seval, q]; done))
  obtain rfl := Option.some.inj h
  refine .ret ?_
  rw [← hR]
  simp only [wz, wd, ws, seval, rv14, e_api_Ledger, e_api_Disk, e_api_Write, frz.eq_1, er_back]
-- 23 consignor/consignorref01.May
def c23r0 : List Opn := [
  ⟨(some 2), none, .mv (.c (.s (.d (.bool false))))⟩]
def c23r1 : List Opn := [
  ⟨(some 5), none, .mv (.t 0)⟩, 
  ⟨(some 6), none, .len (.sl 0) (.t 5)⟩, 
  ⟨(some 7), none, .mv (.c (.s (.d (.int .i64 0))))⟩]
def c23r2 : List Opn := [
  ⟨(some 8), none, .bin .lss (.t 7) (.t 6)⟩]
def c23r3 : List Opn := [
  ⟨(some 9), none, .iadr (.sl 1) (.t 5) (.t 7)⟩, 
  ⟨(some 10), none, .load false 1 (.t 9)⟩, 
  ⟨(some 4), none, .mv (.t 10)⟩]
def c23r4 : List Opn := [
  ⟨(some 11), none, .mv (.t 4)⟩, 
  ⟨(some 12), none, .len .str (.t 11)⟩, 
  ⟨(some 13), none, .bin .gtr (.t 12) (.c (.s (.d (.int .i64 4096))))⟩]
def c23r5 : List Opn := [
  ⟨(some 2), none, .mv (.c (.s (.d (.bool false))))⟩]
def c23r6 : List Opn := [
  ⟨(some 14), none, .bin .add (.t 7) (.c (.s (.d (.int .i64 1))))⟩, 
  ⟨(some 7), none, .mv (.t 14)⟩]
def c23l7 : C := .seq (.reg c23r2 none [0, 5, 6, 7, 8]) (.seq (.cond (.t 8) (.skip) (.exit 0)) (.seq (.blk 1 (.seq (.reg c23r3 none [0, 4, 5, 6, 7]) (.seq (.reg c23r4 none [0, 5, 6, 7, 13]) (.cond (.t 13) (.seq (.reg c23r5 none [2]) (.ret)) (.skip))))) (.reg c23r6 none [0, 5, 6, 7])))
def c23r7 : List Opn := [
  ⟨(some 15), none, .mv (.t 0)⟩, 
  ⟨(some 16), none, .len (.sl 0) (.t 15)⟩, 
  ⟨(some 17), none, .bin .leq (.t 16) (.c (.s (.d (.int .i64 64))))⟩, 
  ⟨(some 2), none, .mv (.t 17)⟩]
def c23 : C := .seq (.reg c23r0 none [0]) (.seq (.seq (.reg c23r1 none [0, 5, 6, 7]) (.blk 0 (.loop c23l7))) (.seq (.reg c23r7 none [2]) (.ret)))
def k23 : List (Nat × List Nat) := [(7, [2]), (6, [0, 5, 6, 7]), (5, [2]), (4, [0, 5, 6, 7, 13]), (3, [0, 4, 5, 6, 7]), (2, [0, 5, 6, 7, 8]), (1, [0, 5, 6, 7]), (0, [0])]
theorem cc23 : (Try.f23.body).bind (cC Try.prog 18 k23) = some c23 := by kernel_rfl
def rv23 : List RV := [.t 2]
theorem cr23 : cRVs Try.prog Try.f23.results.toList = some rv23 := by kernel_rfl
theorem f_ref01_May_l7_ok (l : (List Str)) (y_ : Bool) (R_ : St → Prop) (hR : (Ret Try.prog glP [] rv23 (.b (.s (.d (.bool y_))))) = R_) : ∀ (m_ : Nat) (v7 : Int) (res_ : (Int) ⊕ (Bool)) (h : f_ref01_May_l7 l m_ v7 = some res_) (k_ : List It) (hx : ∀ s_ : Int, res_ = .inl s_ → W Try.prog glP 18 k_ ⟨lkT [(0, .b (.s (.d (.sl (l.map eS))))), (5, .b (.s (.d (.sl (l.map eS))))), (6, .b (.s (.d (.int .i64 (l.length : Int))))), (7, .b (.s (.d (.int .i64 s_))))], lkG []⟩ R_) (hr : ∀ z_ : Bool, res_ = .inr z_ → z_ = y_), W Try.prog glP 18 (.c c23l7 :: .lp c23l7 :: .blk 0 :: k_) ⟨lkT [(0, .b (.s (.d (.sl (l.map eS))))), (5, .b (.s (.d (.sl (l.map eS))))), (6, .b (.s (.d (.int .i64 (l.length : Int))))), (7, .b (.s (.d (.int .i64 v7))))], lkG []⟩ R_ := by
  intro m_; induction m_ with
  | zero => intro v7 res_ h; rw [f_ref01_May_l7.eq_1] at h; cases h
  | succ m_ ih =>
    intro v7 res_ h k_ hx hr; rw [f_ref01_May_l7.eq_2] at h; refine W.cdef c23l7.eq_1 ?_
    refine .seq ?_
    refine Rw.walk ?_
    simp only [wz, wd, ws, seval, c23r2, semI.eq_10, semI.eq_11, semI.eq_3, semI.eq_5, semI.eq_7]
    refine .seq ?_
    refine .cond (p := (decide (v7 < (l.length : Int)))) (by first | rfl | simp only [wz, wd, ws, seval]) (fun h1 => ?_) (fun h1 => ?_)
    · rw [ite_t h1] at h
      refine .skip ?_
      refine .seq ?_
      refine .blk ?_
      refine .seq ?_
      refine Rw.walk ?_
      simp only [wz, wd, ws, seval, c23r3, semI.eq_10, semI.eq_11, semI.eq_3, semI.eq_5, semI.eq_7]
      obtain ⟨x, e1, h⟩ := Option.bind_eq_some_iff.1 h
      refine Go1.of (sem_iadr eS_len e1 (by rfl) (by rfl)) ?_
      simp only [wz, wd, ws, seval, c23r3, semI.eq_10, semI.eq_11, semI.eq_3, semI.eq_5, semI.eq_7]
      refine .seq ?_
      refine Rw.walk ?_
      simp only [wz, wd, ws, seval, c23r4, semI.eq_10, semI.eq_11, semI.eq_3, semI.eq_5, semI.eq_7]
      refine .cond (p := (decide ((x.length : Int) > 4096))) (by first | rfl | simp only [wz, wd, ws, seval]) (fun h1 => ?_) (fun h1 => ?_)
      · rw [ite_t h1] at h
        refine .seq ?_
        refine Rw.walk ?_
        simp only [wz, wd, ws, seval, c23r5, semI.eq_10, semI.eq_11, semI.eq_3, semI.eq_5, semI.eq_7]
        obtain rfl := Option.some.inj h; obtain rfl := hr _ rfl
        refine .ret ?_
        rw [← hR]
        simp only [wz, wd, ws, seval, rv23]
      · rw [ite_f h1] at h
        refine .skip ?_
        refine .eblk ?_
        refine Rw.walk ?_
        simp only [wz, wd, ws, seval, c23r6, semI.eq_10, semI.eq_11, semI.eq_3, semI.eq_5, semI.eq_7]
        refine .lp ?_
        refine .weak (Imp.co [] _ _ ?_ ?_ ?_ ?_ ?_) (ih (IntKind.i64.wrap (v7 + 1)) _ h k_ hx hr) <;> simp only [wz, wd, ws, seval, wi, er_nil]
    · rw [ite_f h1] at h
      refine .exit rfl ?_
      obtain rfl := Option.some.inj h
      refine .weak (Imp.co [] _ _ ?_ ?_ ?_ ?_ ?_) (hx _ rfl) <;> simp only [wz, wd, ws, seval, wi, er_nil]
theorem f_ref01_May_ok (l : (List Str)) (y_ : Bool) (h : f_ref01_May l = some y_) : Fun Try.prog glP 23 [.b (.s (.d (.sl (l.map eS))))] (.b (.s (.d (.bool y_)))) := by
  refine fun_walk [] Try.func23 Try.ntmps23 cc23 cr23 (by kernel_rfl) (by simp only [List.length_cons, List.length_nil]; decide) ?_
  generalize hR : Ret _ _ _ _ _ = R_
  simp only [wz, wd, ws, seval]
  unfold f_ref01_May at h; unfold c23
  refine .seq ?_
  refine Rw.walk ?_
  simp only [wz, wd, ws, seval, c23r0, semI.eq_10, semI.eq_11, semI.eq_3, semI.eq_5, semI.eq_7]
  refine .seq ?_
  refine .seq ?_
  refine Rw.walk ?_
  simp only [wz, wd, ws, seval, c23r1, semI.eq_10, semI.eq_11, semI.eq_3, semI.eq_5, semI.eq_7]
  refine .blk ?_
  obtain ⟨s, hf, h⟩ := Option.bind_eq_some_iff.1 h
  refine .loop (.weak (Imp.co [] _ _ ?c1 ?c2 ?c3 ?c4 ?c5) (f_ref01_May_l7_ok l _ _ hR _ _ _ hf _ ?_ ?_))
  case c1 | c2 | c3 | c4 | c5 => simp only [wz, wd, ws, seval, wi, er_nil]
  · intro s2 hs; subst hs; dsimp only at h
    refine .seq ?_
    refine Rw.walk ?_
    simp only [wz, wd, ws, seval, c23r7, semI.eq_10, semI.eq_11, semI.eq_3, semI.eq_5, semI.eq_7]
    obtain rfl := Option.some.inj h
    refine .ret ?_
    rw [← hR]
    simp only [wz, wd, ws, seval, rv23]
  · intro z hz; subst hz; dsimp only at h
    exact Option.some.inj h
-- 24 consignor/consignorref01.Bind
def c24r0 : List Opn := [
  ⟨(some 2), none, .mv (.c (.s (.d (.str []))))⟩]
def c24r1 : List Opn := [
  ⟨(some 3), none, .mv (.c (.s (.d (.str []))))⟩]
def c24r2 : List Opn := [
  ⟨(some 6), none, .mv (.t 0)⟩, 
  ⟨(some 7), none, .len (.sl 0) (.t 6)⟩, 
  ⟨(some 8), none, .mv (.c (.s (.d (.int .i64 0))))⟩]
def c24r3 : List Opn := [
  ⟨(some 9), none, .bin .lss (.t 8) (.t 7)⟩]
def c24r4 : List Opn := [
  ⟨(some 10), none, .iadr (.sl 1) (.t 6) (.t 8)⟩, 
  ⟨(some 11), none, .load false 1 (.t 10)⟩, 
  ⟨(some 5), none, .mv (.t 11)⟩]
def c24r5 : List Opn := [
  ⟨(some 12), none, .mv (.t 3)⟩, 
  ⟨(some 13), none, .mv (.t 5)⟩, 
  ⟨(some 14), none, .len .str (.t 13)⟩, 
  ⟨(some 15), none, .cv (.toInt .u64) (.t 14)⟩, 
  ⟨(some 16), none, .call (.fn 41) [(.t 15), (.c (.s (.d (.int .i64 2))))]⟩, 
  ⟨(some 17), none, .bin .add (.t 12) (.t 16)⟩, 
  ⟨(some 18), none, .mv (.t 5)⟩, 
  ⟨(some 19), none, .bin .add (.t 17) (.t 18)⟩, 
  ⟨(some 3), none, .mv (.t 19)⟩]
def c24r6 : List Opn := [
  ⟨(some 20), none, .bin .add (.t 8) (.c (.s (.d (.int .i64 1))))⟩, 
  ⟨(some 8), none, .mv (.t 20)⟩]
def c24l7 : C := .seq (.reg c24r3 none [3, 6, 7, 8, 9]) (.seq (.cond (.t 9) (.skip) (.exit 0)) (.seq (.blk 1 (.seq (.reg c24r4 none [3, 5, 6, 7, 8]) (.reg c24r5 none [3, 6, 7, 8]))) (.reg c24r6 none [3, 6, 7, 8])))
def c24r7 : List Opn := [
  ⟨(some 21), none, .mv (.t 3)⟩, 
  ⟨(some 2), none, .mv (.t 21)⟩]
def c24 : C := .seq (.reg c24r0 none [0]) (.seq (.reg c24r1 none [0, 3]) (.seq (.seq (.reg c24r2 none [3, 6, 7, 8]) (.blk 0 (.loop c24l7))) (.seq (.reg c24r7 none [2]) (.ret))))
def k24 : List (Nat × List Nat) := [(7, [2]), (6, [3, 6, 7, 8]), (5, [3, 6, 7, 8]), (4, [3, 5, 6, 7, 8]), (3, [3, 6, 7, 8, 9]), (2, [3, 6, 7, 8]), (1, [0, 3]), (0, [0])]
theorem cc24 : (Try.f24.body).bind (cC Try.prog 22 k24) = some c24 := by kernel_rfl
def rv24 : List RV := [.t 2]
theorem cr24 : cRVs Try.prog Try.f24.results.toList = some rv24 := by kernel_rfl
theorem f_ref01_Bind_l7_ok (l : (List Str)) (y_ : Str) (R_ : St → Prop) (hR : (Ret Try.prog glP [] rv24 (.b (.s (.d (.str y_))))) = R_) : ∀ (m_ : Nat) (out : Str) (v8 : Int) (res_ : Str × Int) (h : f_ref01_Bind_l7 l m_ out v8 = some res_) (k_ : List It) (hx : ∀ s_ : Str × Int, res_ = s_ → W Try.prog glP 22 k_ ⟨lkT [(3, .b (.s (.d (.str s_.1)))), (6, .b (.s (.d (.sl (l.map eS))))), (7, .b (.s (.d (.int .i64 (l.length : Int))))), (8, .b (.s (.d (.int .i64 s_.2))))], lkG []⟩ R_), W Try.prog glP 22 (.c c24l7 :: .lp c24l7 :: .blk 0 :: k_) ⟨lkT [(3, .b (.s (.d (.str out)))), (6, .b (.s (.d (.sl (l.map eS))))), (7, .b (.s (.d (.int .i64 (l.length : Int))))), (8, .b (.s (.d (.int .i64 v8))))], lkG []⟩ R_ := by
  intro m_; induction m_ with
  | zero => intro out v8 res_ h; rw [f_ref01_Bind_l7.eq_1] at h; cases h
  | succ m_ ih =>
    intro out v8 res_ h k_ hx; rw [f_ref01_Bind_l7.eq_2] at h; refine W.cdef c24l7.eq_1 ?_
    refine .seq ?_
    refine Rw.walk ?_
    simp only [wz, wd, ws, seval, c24r3, semI.eq_10, semI.eq_11, semI.eq_3, semI.eq_5, semI.eq_7]
    refine .seq ?_
    refine .cond (p := (decide (v8 < (l.length : Int)))) (by first | rfl | simp only [wz, wd, ws, seval]) (fun h1 => ?_) (fun h1 => ?_)
    · rw [ite_t h1] at h
      refine .skip ?_
      refine .seq ?_
      refine .blk ?_
      refine .seq ?_
      refine Rw.walk ?_
      simp only [wz, wd, ws, seval, c24r4, semI.eq_10, semI.eq_11, semI.eq_3, semI.eq_5, semI.eq_7]
      obtain ⟨x, e1, h⟩ := Option.bind_eq_some_iff.1 h
      refine Go1.of (sem_iadr eS_len e1 (by rfl) (by rfl)) ?_
      simp only [wz, wd, ws, seval, c24r4, semI.eq_10, semI.eq_11, semI.eq_3, semI.eq_5, semI.eq_7]
      refine Rw.walk ?_
      simp only [wz, wd, ws, seval, c24r5, semI.eq_10, semI.eq_11, semI.eq_3, semI.eq_5, semI.eq_7]
      obtain ⟨t, e2, h⟩ := Option.bind_eq_some_iff.1 h
      refine call_fun [] false ⟨trivial, trivial, trivial, trivial⟩ rfl ?_ (f_ref01_Wide_ok _ _ _ e2) (fun _ => rfl) (fun i hi => by cases hi) ?_
      · simp only [wz, wd, ws, seval]
      simp only [wz, wd, ws, seval, c24r5, semI.eq_10, semI.eq_11, semI.eq_3, semI.eq_5, semI.eq_7]
      obtain ⟨g3, h⟩ := gd_iff.1 h
      obtain ⟨g4, h⟩ := gd_iff.1 h
      repeat (refine And.intro ?_ ?_; · first | omega | (simp only [List.length_append, List.length_cons, List.length_nil] at *; omega) | (intro q; simp only [wz, wd, ws, seval, q]; done))
      refine .eblk ?_
      refine Rw.walk ?_
      simp only [wz, wd, ws, seval, c24r6, semI.eq_10, semI.eq_11, semI.eq_3, semI.eq_5, semI.eq_7]
      refine .lp ?_
      refine .weak (Imp.co [] _ _ ?_ ?_ ?_ ?_ ?_) (ih ((out ++ t) ++ x) (IntKind.i64.wrap (v8 + 1)) _ h k_ hx) <;> simp only [wz, wd, ws, seval, wi, er_nil]
    · rw [ite_f h1] at h
      refine .exit rfl ?_
      obtain rfl := Option.some.inj h
      refine .weak (Imp.co [] _ _ ?_ ?_ ?_ ?_ ?_) (hx _ rfl) <;> simp only [wz, wd, ws, seval, wi, er_nil]
theorem f_ref01_Bind_ok (l : (List Str)) (y_ : Str) (h : f_ref01_Bind l = some y_) : Fun Try.prog glP 24 [.b (.s (.d (.sl (l.map eS))))] (.b (.s (.d (.str y_)))) := by
  refine fun_walk [] Try.func24 Try.ntmps24 cc24 cr24 (by kernel_rfl) (by simp only [List.length_cons, List.length_nil]; decide) ?_
  generalize hR : Ret _ _ _ _ _ = R_
  simp only [wz, wd, ws, seval]
  unfold f_ref01_Bind at h; unfold c24
  refine .seq ?_
  refine Rw.walk ?_
  simp only [wz, wd, ws, seval, c24r0, semI.eq_10, semI.eq_11, semI.eq_3, semI.eq_5, semI.eq_7]
  refine .seq ?_
  refine Rw.walk ?_
  simp only [wz, wd, ws, seval, c24r1, semI.eq_10, semI.eq_11, semI.eq_3, semI.eq_5, semI.eq_7]
  refine .seq ?_
  refine .seq ?_
  refine Rw.walk ?_
  simp only [wz, wd, ws, seval, c24r2, semI.eq_10, semI.eq_11, semI.eq_3, semI.eq_5, semI.eq_7]
  refine .blk ?_
  obtain ⟨s, hf, h⟩ := Option.bind_eq_some_iff.1 h
  refine .loop (.weak (Imp.co [] _ _ ?c1 ?c2 ?c3 ?c4 ?c5) (f_ref01_Bind_l7_ok l _ _ hR _ _ _ _ hf _ ?_))
  case c1 | c2 | c3 | c4 | c5 => simp only [wz, wd, ws, seval, wi, er_nil]
  · intro s_ hs; subst hs
    refine .seq ?_
    refine Rw.walk ?_
    simp only [wz, wd, ws, seval, c24r7, semI.eq_10, semI.eq_11, semI.eq_3, semI.eq_5, semI.eq_7]
    obtain rfl := Option.some.inj h
    refine .ret ?_
    rw [← hR]
    simp only [wz, wd, ws, seval, rv24]
-- 26 consignor/consignorref10.With
def c26r0 : List Opn := [
  ⟨(some 5), none, .box 2 (.t 0)⟩, 
  ⟨(some 10), none, .new [.nils, .nils]⟩]
def c26r1 : List Opn := [
  ⟨(some 15), none, .build [.nils, .nils] []⟩, 
  ⟨(some 11), none, .new [.nils, .nils]⟩, 
  ⟨none, none, .store 2 (.t 11) (.t 15)⟩]
def c26r2 : List Opn := [
  ⟨(some 16), none, .fadr 0 (.t 11)⟩, 
  ⟨(some 17), none, .load false 1 (.t 16)⟩, 
  ⟨(some 18), none, .fadr 0 (.t 5)⟩, 
  ⟨(some 19), none, .load false 1 (.t 18)⟩, 
  ⟨(some 20), none, .app 1 16 false (.t 17) (.t 19)⟩, 
  ⟨(some 21), none, .fadr 0 (.t 11)⟩, 
  ⟨none, none, .store 1 (.t 21) (.t 20)⟩]
def c26r3 : List Opn := [
  ⟨(some 22), none, .load true 2 (.t 5)⟩, 
  ⟨(some 23), none, .mv (.t 1)⟩, 
  ⟨(some 24), none, .call (.fn 25) [(.t 22), (.t 23)]⟩, 
  ⟨(some 12), none, .mv (.t 24)⟩]
def c26r4 : List Opn := [
  ⟨(some 25), none, .mv (.t 12)⟩, 
  ⟨(some 26), none, .mv (.t 3)⟩, 
  ⟨(some 27), none, .slc .str (.t 25) none (some (.t 26)) none⟩, 
  ⟨(some 28), none, .mv (.t 4)⟩, 
  ⟨(some 29), none, .bin .add (.t 27) (.t 28)⟩, 
  ⟨(some 30), none, .cv .s2b (.t 29)⟩, 
  ⟨(some 13), none, .mv (.t 30)⟩]
def c26r5 : List Opn := [
  ⟨(some 31), none, .mv (.t 13)⟩, 
  ⟨(some 32), none, .len (.sl 0) (.t 31)⟩, 
  ⟨(some 33), none, .mv (.t 12)⟩, 
  ⟨(some 34), none, .len .str (.t 33)⟩, 
  ⟨(some 35), none, .bin .lss (.t 32) (.t 34)⟩]
def c26r6 : List Opn := [
  ⟨(some 36), none, .mv (.t 13)⟩, 
  ⟨(some 37), none, .bsl 1 [(.c (.s (.d (.int .u8 0))))]⟩, 
  ⟨(some 38), none, .app 1 1 false (.t 36) (.t 37)⟩, 
  ⟨(some 13), none, .mv (.t 38)⟩]
def c26l7 : C := .seq (.seq (.reg c26r5 none [1, 2, 3, 4, 5, 10, 11, 12, 13, 35]) (.cond (.t 35) (.skip) (.exit 0))) (.blk 1 (.reg c26r6 none [1, 2, 3, 4, 5, 10, 11, 12, 13]))
def c26r7 : List Opn := [
  ⟨(some 14), none, .mv (.c (.s (.d (.int .i64 0))))⟩]
def c26r8 : List Opn := [
  ⟨(some 39), none, .mv (.t 14)⟩, 
  ⟨(some 40), none, .bin .mul (.c (.s (.d (.int .i64 128)))) (.t 39)⟩, 
  ⟨(some 41), none, .mv (.t 12)⟩, 
  ⟨(some 42), none, .len .str (.t 41)⟩, 
  ⟨(some 43), none, .bin .lss (.t 40) (.t 42)⟩]
def c26r10 : List Opn := [
  ⟨(some 46), none, .mv (.t 4)⟩, 
  ⟨(some 47), none, .len .str (.t 46)⟩, 
  ⟨(some 48), none, .bin .gtr (.t 47) (.c (.s (.d (.int .i64 0))))⟩, 
  ⟨(some 49), none, .mv (.t 48)⟩, 
  ⟨(some 50), some (49, true), .mv (.t 14)⟩, 
  ⟨(some 51), some (49, true), .bin .mul (.c (.s (.d (.int .i64 128)))) (.t 50)⟩, 
  ⟨(some 52), some (49, true), .bin .add (.t 51) (.c (.s (.d (.int .i64 128))))⟩, 
  ⟨(some 53), some (49, true), .mv (.t 3)⟩, 
  ⟨(some 54), some (49, true), .bin .gtr (.t 52) (.t 53)⟩, 
  ⟨(some 55), none, .pick (.t 49) (.t 54) (.c (.s (.d (.bool false))))⟩, 
  ⟨(some 56), none, .mv (.t 55)⟩, 
  ⟨(some 57), some (56, true), .mv (.t 14)⟩, 
  ⟨(some 58), some (56, true), .bin .mul (.c (.s (.d (.int .i64 128)))) (.t 57)⟩, 
  ⟨(some 59), some (56, true), .mv (.t 3)⟩, 
  ⟨(some 60), some (56, true), .mv (.t 4)⟩, 
  ⟨(some 61), some (56, true), .len .str (.t 60)⟩, 
  ⟨(some 62), some (56, true), .bin .add (.t 59) (.t 61)⟩, 
  ⟨(some 63), some (56, true), .bin .lss (.t 58) (.t 62)⟩, 
  ⟨(some 64), none, .pick (.t 56) (.t 63) (.c (.s (.d (.bool false))))⟩]
def c26r11 : List Opn := [
  ⟨(some 65), none, .fadr 0 (.t 11)⟩, 
  ⟨(some 66), none, .load false 1 (.t 65)⟩, 
  ⟨(some 67), none, .load true 2 (.t 5)⟩, 
  ⟨(some 68), none, .mv (.t 1)⟩, 
  ⟨(some 69), none, .call (.fn 29) [(.t 67), (.t 68)]⟩, 
  ⟨(some 70), none, .bin .add (.t 69) (.c (.s (.d (.int .i64 1))))⟩, 
  ⟨(some 71), none, .mv (.t 14)⟩, 
  ⟨(some 72), none, .bin .add (.t 70) (.t 71)⟩, 
  ⟨(some 73), none, .mv (.t 13)⟩, 
  ⟨(some 74), none, .mv (.t 14)⟩, 
  ⟨(some 75), none, .bin .mul (.c (.s (.d (.int .i64 128)))) (.t 74)⟩, 
  ⟨(some 76), none, .mv (.t 14)⟩, 
  ⟨(some 77), none, .bin .mul (.c (.s (.d (.int .i64 128)))) (.t 76)⟩, 
  ⟨(some 78), none, .bin .add (.t 77) (.c (.s (.d (.int .i64 128))))⟩, 
  ⟨(some 79), none, .slc (.sl 1) (.t 73) (some (.t 75)) (some (.t 78)) none⟩, 
  ⟨(some 80), none, .cv .b2s (.t 79)⟩, 
  ⟨(some 81), none, .iadr (.sl 1) (.t 66) (.t 72)⟩, 
  ⟨none, none, .store 1 (.t 81) (.t 80)⟩]
def c26r9 : List Opn := [
  ⟨(some 44), none, .mv (.t 14)⟩, 
  ⟨(some 45), none, .bin .add (.t 44) (.c (.s (.d (.int .i64 1))))⟩, 
  ⟨(some 14), none, .mv (.t 45)⟩]
def c26l13 : C := .seq (.seq (.reg c26r8 none [1, 2, 3, 4, 5, 10, 11, 12, 13, 14, 43]) (.cond (.t 43) (.skip) (.exit 2))) (.seq (.blk 3 (.seq (.reg c26r10 none [1, 2, 3, 4, 5, 10, 11, 12, 13, 14, 64]) (.cond (.t 64) (.reg c26r11 (some [0, 1, 0, 0, 12, 28, 0, 124, 0, 0, 512, 0, 2048, 6144, 16128, 32512, 65535, 131071]) [1, 2, 3, 4, 5, 10, 11, 12, 13, 14]) (.skip)))) (.reg c26r9 none [1, 2, 3, 4, 5, 10, 11, 12, 13, 14]))
def c26r12 : List Opn := [
  ⟨(some 82), none, .fadr 0 (.t 11)⟩, 
  ⟨(some 83), none, .load false 1 (.t 82)⟩, 
  ⟨(some 84), none, .load true 2 (.t 5)⟩, 
  ⟨(some 85), none, .mv (.t 1)⟩, 
  ⟨(some 86), none, .call (.fn 29) [(.t 84), (.t 85)]⟩, 
  ⟨(some 87), none, .mv (.t 2)⟩, 
  ⟨(some 88), none, .mv (.t 3)⟩, 
  ⟨(some 89), none, .mv (.t 4)⟩, 
  ⟨(some 90), none, .len .str (.t 89)⟩, 
  ⟨(some 91), none, .bin .add (.t 88) (.t 90)⟩, 
  ⟨(some 92), none, .call (.fn 15) [(.t 87), (.t 91)]⟩, 
  ⟨(some 93), none, .iadr (.sl 1) (.t 83) (.t 86)⟩, 
  ⟨none, none, .store 1 (.t 93) (.t 92)⟩]
def c26r13 : List Opn := [
  ⟨(some 94), none, .load true 2 (.t 11)⟩, 
  ⟨none, none, .store 2 (.t 10) (.t 94)⟩]
def c26 : C := .seq (.reg c26r0 none [1, 2, 3, 4, 5, 10]) (.seq (.reg c26r1 none [1, 2, 3, 4, 5, 10, 11]) (.seq (.reg c26r2 none [1, 2, 3, 4, 5, 10, 11]) (.seq (.reg c26r3 none [1, 2, 3, 4, 5, 10, 11, 12]) (.seq (.reg c26r4 none [1, 2, 3, 4, 5, 10, 11, 12, 13]) (.seq (.blk 0 (.loop c26l7)) (.seq (.seq (.reg c26r7 none [1, 2, 3, 4, 5, 10, 11, 12, 13, 14]) (.blk 2 (.loop c26l13))) (.seq (.reg c26r12 (some [0, 1, 0, 0, 12, 0, 0, 0, 128, 448, 1020, 2047, 4095]) [10, 11]) (.seq (.reg c26r13 none [10]) (.ret)))))))))
def k26 : List (Nat × List Nat) := [(13, [10]), (12, [10, 11]), (9, [1, 2, 3, 4, 5, 10, 11, 12, 13, 14]), (11, [1, 2, 3, 4, 5, 10, 11, 12, 13, 14]), (10, [1, 2, 3, 4, 5, 10, 11, 12, 13, 14, 64]), (8, [1, 2, 3, 4, 5, 10, 11, 12, 13, 14, 43]), (7, [1, 2, 3, 4, 5, 10, 11, 12, 13, 14]), (6, [1, 2, 3, 4, 5, 10, 11, 12, 13]), (5, [1, 2, 3, 4, 5, 10, 11, 12, 13, 35]), (4, [1, 2, 3, 4, 5, 10, 11, 12, 13]), (3, [1, 2, 3, 4, 5, 10, 11, 12]), (2, [1, 2, 3, 4, 5, 10, 11]), (1, [1, 2, 3, 4, 5, 10, 11]), (0, [1, 2, 3, 4, 5, 10])]
theorem cc26 : (Try.f26.body).bind (cC Try.prog 95 k26) = some c26 := by kernel_rfl
def rv26 : List RV := [.c 10 true 2]
theorem cr26 : cRVs Try.prog Try.f26.results.toList = some rv26 := by kernel_rfl
theorem f_ref10_With_l7_ok (d : api_Disk) (half : Int) (gen : Int) (used : Int) (s : Str) (t : Str) (y_ : api_Disk) (R_ : St → Prop) (hR : (Ret Try.prog glP [20] rv26 (.b (.agg ((e_api_Disk y_).map Lc.d)))) = R_) : ∀ (m_ : Nat) (thenv : (List Int)) (res_ : (List Int)) (h : f_ref10_With_l7 d half gen used s t m_ thenv = some res_) (k_ : List It) (hx : ∀ s_ : (List Int), res_ = s_ → W Try.prog glP 95 k_ ⟨lkT [(1, .b (.s (.d (.int .i64 half)))), (2, .b (.s (.d (.int .i64 gen)))), (3, .b (.s (.d (.int .i64 used)))), (4, .b (.s (.d (.str s)))), (5, .b (.s (.ptr 5 1 0 0))), (10, .b (.s (.ptr 10 1 0 0))), (11, .b (.s (.ptr 11 1 0 0))), (12, .b (.s (.d (.str t)))), (13, .b (.s (.own 30 s_.length)))], lkG [(5, ⟨2, [[(.d (.sl (d.Sectors.map eS))), (.d (.sl (d.Dirty.map e_api_Write)))]], false⟩), (10, ⟨2, [[.nils, .nils]], false⟩), (11, ⟨2, [[(.own 20 d.Sectors.length), .nils]], false⟩), (20, ⟨1, er eS d.Sectors, false⟩), (30, ⟨1, er (eI .u8) s_, false⟩)]⟩ R_), W Try.prog glP 95 (.c c26l7 :: .lp c26l7 :: .blk 0 :: k_) ⟨lkT [(1, .b (.s (.d (.int .i64 half)))), (2, .b (.s (.d (.int .i64 gen)))), (3, .b (.s (.d (.int .i64 used)))), (4, .b (.s (.d (.str s)))), (5, .b (.s (.ptr 5 1 0 0))), (10, .b (.s (.ptr 10 1 0 0))), (11, .b (.s (.ptr 11 1 0 0))), (12, .b (.s (.d (.str t)))), (13, .b (.s (.own 30 thenv.length)))], lkG [(5, ⟨2, [[(.d (.sl (d.Sectors.map eS))), (.d (.sl (d.Dirty.map e_api_Write)))]], false⟩), (10, ⟨2, [[.nils, .nils]], false⟩), (11, ⟨2, [[(.own 20 d.Sectors.length), .nils]], false⟩), (20, ⟨1, er eS d.Sectors, false⟩), (30, ⟨1, er (eI .u8) thenv, false⟩)]⟩ R_ := by
  intro m_; induction m_ with
  | zero => intro thenv res_ h; rw [f_ref10_With_l7.eq_1] at h; cases h
  | succ m_ ih =>
    intro thenv res_ h k_ hx; rw [f_ref10_With_l7.eq_2] at h; refine W.cdef c26l7.eq_1 ?_
    refine .seq ?_
    refine .seq ?_
    refine Rw.walk ?_
    simp only [wz, wd, ws, seval, c26r5, semI.eq_10, semI.eq_11, semI.eq_3, semI.eq_5, semI.eq_7, e_api_Disk, e_api_Write]
    refine .cond (p := (decide ((thenv.length : Int) < (t.length : Int)))) (by first | rfl | simp only [wz, wd, ws, seval]) (fun h1 => ?_) (fun h1 => ?_)
    · rw [ite_t h1] at h
      refine .skip ?_
      refine .blk ?_
      refine Rw.walk ?_
      simp only [wz, wd, ws, seval, c26r6, semI.eq_10, semI.eq_11, semI.eq_3, semI.eq_5, semI.eq_7, e_api_Disk, e_api_Write]
      refine Go1.of (sem_bsl (enc := (eI .u8)) (m := ([0] : List Int)) (eI_len _) (by rfl) (by rfl) (by rfl) ⟨trivial, trivial⟩) ?_
      simp only [wz, wd, ws, seval, c26r6, semI.eq_10, semI.eq_11, semI.eq_3, semI.eq_5, semI.eq_7, e_api_Disk, e_api_Write]
      obtain ⟨g5, h⟩ := gd_iff.1 h
      refine Go1.of (sem_app (enc := (eI .u8)) (l := thenv) (m := ([0] : List Int)) (eI_len _) (by rfl) (by rfl) (newV_own (m := ([0] : List Int)) (by rfl) (by rfl))) ?_
      simp only [wz, wd, ws, seval, c26r6, semI.eq_10, semI.eq_11, semI.eq_3, semI.eq_5, semI.eq_7, e_api_Disk, e_api_Write]
      repeat (refine And.intro ?_ ?_; · first | omega | (simp only [List.length_append, List.length_cons, List.length_nil] at *; omega) | (intro q; simp only [wz, wd, ws, seval, q]; done))
      refine .eblk ?_
      refine .lp ?_
      refine .weak (Imp.co [] _ _ ?_ ?_ ?_ ?_ ?_) (ih (thenv ++ ([0] : List Int)) _ h k_ hx) <;> simp only [wz, wd, ws, seval, wi, er_nil, e_api_Disk, e_api_Write]
    · rw [ite_f h1] at h
      refine .exit rfl ?_
      obtain rfl := Option.some.inj h
      refine .weak (Imp.co [] _ _ ?_ ?_ ?_ ?_ ?_) (hx _ rfl) <;> simp only [wz, wd, ws, seval, wi, er_nil, e_api_Disk, e_api_Write]
theorem f_ref10_With_l13_ok (d : api_Disk) (half : Int) (gen : Int) (used : Int) (s : Str) (t : Str) (y_ : api_Disk) (R_ : St → Prop) (hR : (Ret Try.prog glP [20] rv26 (.b (.agg ((e_api_Disk y_).map Lc.d)))) = R_) : ∀ (m_ : Nat) (thenv : (List Int)) (kv : Int) (v20 : (List Str)) (res_ : (List Int) × Int × (List Str)) (h : f_ref10_With_l13 d half gen used s t m_ thenv kv v20 = some res_) (k_ : List It) (hx : ∀ s_ : (List Int) × Int × (List Str), res_ = s_ → W Try.prog glP 95 k_ ⟨lkT [(1, .b (.s (.d (.int .i64 half)))), (2, .b (.s (.d (.int .i64 gen)))), (3, .b (.s (.d (.int .i64 used)))), (4, .b (.s (.d (.str s)))), (5, .b (.s (.ptr 5 1 0 0))), (10, .b (.s (.ptr 10 1 0 0))), (11, .b (.s (.ptr 11 1 0 0))), (12, .b (.s (.d (.str t)))), (13, .b (.s (.d (.sl (s_.1.map (eI .u8)))))), (14, .b (.s (.d (.int .i64 s_.2.1))))], lkG [(5, ⟨2, [[(.d (.sl (d.Sectors.map eS))), (.d (.sl (d.Dirty.map e_api_Write)))]], false⟩), (10, ⟨2, [[.nils, .nils]], false⟩), (11, ⟨2, [[(.own 20 s_.2.2.length), .nils]], false⟩), (20, ⟨1, er eS s_.2.2, false⟩)]⟩ R_), W Try.prog glP 95 (.c c26l13 :: .lp c26l13 :: .blk 2 :: k_) ⟨lkT [(1, .b (.s (.d (.int .i64 half)))), (2, .b (.s (.d (.int .i64 gen)))), (3, .b (.s (.d (.int .i64 used)))), (4, .b (.s (.d (.str s)))), (5, .b (.s (.ptr 5 1 0 0))), (10, .b (.s (.ptr 10 1 0 0))), (11, .b (.s (.ptr 11 1 0 0))), (12, .b (.s (.d (.str t)))), (13, .b (.s (.d (.sl (thenv.map (eI .u8)))))), (14, .b (.s (.d (.int .i64 kv))))], lkG [(5, ⟨2, [[(.d (.sl (d.Sectors.map eS))), (.d (.sl (d.Dirty.map e_api_Write)))]], false⟩), (10, ⟨2, [[.nils, .nils]], false⟩), (11, ⟨2, [[(.own 20 v20.length), .nils]], false⟩), (20, ⟨1, er eS v20, false⟩)]⟩ R_ := by
  intro m_; induction m_ with
  | zero => intro thenv kv v20 res_ h; rw [f_ref10_With_l13.eq_1] at h; cases h
  | succ m_ ih =>
    intro thenv kv v20 res_ h k_ hx; rw [f_ref10_With_l13.eq_2] at h; refine W.cdef c26l13.eq_1 ?_
    refine .seq ?_
    refine .seq ?_
    refine Rw.walk ?_
    simp only [wz, wd, ws, seval, c26r8, semI.eq_10, semI.eq_11, semI.eq_3, semI.eq_5, semI.eq_7, e_api_Disk, e_api_Write]
    refine .cond (p := (decide ((IntKind.i64.wrap (128 * kv)) < (t.length : Int)))) (by first | rfl | simp only [wz, wd, ws, seval]) (fun h1 => ?_) (fun h1 => ?_)
    · rw [ite_t h1] at h
      refine .skip ?_
      refine .seq ?_
      refine .blk ?_
      refine .seq ?_
      refine Rw.walk ?_
      simp only [wz, wd, ws, seval, c26r10, semI.eq_10, semI.eq_11, semI.eq_3, semI.eq_5, semI.eq_7, e_api_Disk, e_api_Write]
      repeat (refine And.intro ?_ ?_; · first | omega | (simp only [List.length_append, List.length_cons, List.length_nil] at *; omega) | (intro q; simp only [wz, wd, ws, seval, q]; done))
      refine .cond (p := (((decide ((s.length : Int) > 0)) && (decide ((IntKind.i64.wrap ((IntKind.i64.wrap (128 * kv)) + 128)) > used))) && (decide ((IntKind.i64.wrap (128 * kv)) < (IntKind.i64.wrap (used + (s.length : Int))))))) (by first | rfl | simp only [wz, wd, ws, seval]) (fun h1 => ?_) (fun h1 => ?_)
      · rw [ite_t h1] at h
        refine RwD.walk ?_
        simp only [wz, wd, ws, seval, c26r11, semI.eq_3, semI.eq_5, semI.eq_7, e_api_Disk, e_api_Write]
        refine GoD1.of (semI.eq_10 ..) ?_
        simp only [wz, wd, ws, seval, c26r11, semI.eq_3, semI.eq_5, semI.eq_7, e_api_Disk, e_api_Write]
        refine GoD1.of (semI.eq_10 ..) ?_
        simp only [wz, wd, ws, seval, c26r11, semI.eq_3, semI.eq_5, semI.eq_7, e_api_Disk, e_api_Write]
        obtain ⟨t2, e6, h⟩ := Option.bind_eq_some_iff.1 h
        refine call_fun [] false ⟨trivial, trivial, trivial, trivial⟩ rfl ?_ (f_ref10_At_ok _ _ _ e6) (fun _ => rfl) (fun i hi => by cases hi) ?_
        · simp only [wz, wd, ws, seval, e_api_Disk, e_api_Write]
        simp only [wz, wd, ws, seval, c26r11, semI.eq_3, semI.eq_5, semI.eq_7, e_api_Disk, e_api_Write]
        obtain ⟨g7, h⟩ := gd_iff.1 h
        repeat (refine And.intro ?_ ?_; · first | omega | (simp only [List.length_append, List.length_cons, List.length_nil] at *; omega) | (intro q; simp only [wz, wd, ws, seval, q]; done))
        refine GoD1.of (sem_slc (p := (IntKind.i64.wrap (128 * kv))) (q := (IntKind.i64.wrap ((IntKind.i64.wrap (128 * kv)) + 128))) (eI_len _) (by rfl) (by rfl) (by rfl)) ?_
        simp only [wz, wd, ws, seval, c26r11, semI.eq_3, semI.eq_5, semI.eq_7, e_api_Disk, e_api_Write]
        repeat (refine And.intro ?_ ?_; · first | omega | (simp only [List.length_append, List.length_cons, List.length_nil] at *; omega) | (intro q; simp only [wz, wd, ws, seval, q]; done))
        refine GoD1.of (sem_b2s (n := (cut thenv (IntKind.i64.wrap (128 * kv)) (IntKind.i64.wrap ((IntKind.i64.wrap (128 * kv)) + 128)))) (by rfl)) ?_
        simp only [wz, wd, ws, seval, c26r11, semI.eq_3, semI.eq_5, semI.eq_7, e_api_Disk, e_api_Write]
        obtain ⟨x, e8, h⟩ := Option.bind_eq_some_iff.1 h
        refine GoD1.of (sem_iadrO (l := v20) e8 (by rfl) (by rfl) (by rfl)) ?_
        simp only [wz, wd, ws, seval, c26r11, semI.eq_3, semI.eq_5, semI.eq_7, e_api_Disk, e_api_Write, er_get e8]
        refine GoD1.of (sem_store (enc := eS) (l := v20) (a := x) (a' := ((cut thenv (IntKind.i64.wrap (128 * kv)) (IntKind.i64.wrap ((IntKind.i64.wrap (128 * kv)) + 128))).map nb)) (v := .b (.s (.d (.str ((cut thenv (IntKind.i64.wrap (128 * kv)) (IntKind.i64.wrap ((IntKind.i64.wrap (128 * kv)) + 128))).map nb))))) (by rfl) (by rfl) (er_get e8) (by rfl) (by trivial) (by rfl) (Nat.le_of_ble_eq_true (by rfl)) (by rfl)) ?_
        simp only [wz, wd, ws, seval, c26r11, semI.eq_3, semI.eq_5, semI.eq_7, e_api_Disk, e_api_Write, er_get e8]
        refine .eblk ?_
        refine Rw.walk ?_
        simp only [wz, wd, ws, seval, c26r9, semI.eq_10, semI.eq_11, semI.eq_3, semI.eq_5, semI.eq_7, e_api_Disk, e_api_Write, er_get e8]
        refine .lp ?_
        refine .weak (Imp.co [] _ _ ?_ ?_ ?_ ?_ ?_) (ih thenv (IntKind.i64.wrap (kv + 1)) (v20.set (IntKind.i64.wrap ((IntKind.i64.wrap (t2 + 1)) + kv)).toNat ((cut thenv (IntKind.i64.wrap (128 * kv)) (IntKind.i64.wrap ((IntKind.i64.wrap (128 * kv)) + 128))).map nb)) _ h k_ hx) <;> simp only [wz, wd, ws, seval, wi, er_nil, e_api_Disk, e_api_Write]
      · rw [ite_f h1] at h
        refine .skip ?_
        refine .eblk ?_
        refine Rw.walk ?_
        simp only [wz, wd, ws, seval, c26r9, semI.eq_10, semI.eq_11, semI.eq_3, semI.eq_5, semI.eq_7, e_api_Disk, e_api_Write]
        refine .lp ?_
        refine .weak (Imp.co [] _ _ ?_ ?_ ?_ ?_ ?_) (ih thenv (IntKind.i64.wrap (kv + 1)) v20 _ h k_ hx) <;> simp only [wz, wd, ws, seval, wi, er_nil, e_api_Disk, e_api_Write]
    · rw [ite_f h1] at h
      refine .exit rfl ?_
      obtain rfl := Option.some.inj h
      refine .weak (Imp.co [] _ _ ?_ ?_ ?_ ?_ ?_) (hx _ rfl) <;> simp only [wz, wd, ws, seval, wi, er_nil, e_api_Disk, e_api_Write]
theorem f_ref10_With_ok (d : api_Disk) (half : Int) (gen : Int) (used : Int) (s : Str) (y_ : api_Disk) (h : f_ref10_With d half gen used s = some y_) : Fun Try.prog glP 26 [.b (.agg ((e_api_Disk d).map Lc.d)), .b (.s (.d (.int .i64 half))), .b (.s (.d (.int .i64 gen))), .b (.s (.d (.int .i64 used))), .b (.s (.d (.str s)))] (.b (.agg ((e_api_Disk y_).map Lc.d))) := by
  refine fun_walk [20] Try.func26 Try.ntmps26 cc26 cr26 (by kernel_rfl) (by simp only [List.length_cons, List.length_nil]; decide) ?_
  generalize hR : Ret _ _ _ _ _ = R_
  simp only [wz, wd, ws, seval, e_api_Disk, e_api_Write]
  unfold f_ref10_With at h; unfold c26
  refine .seq ?_
  refine Rw.walk ?_
  simp only [wz, wd, ws, seval, c26r0, semI.eq_10, semI.eq_11, semI.eq_3, semI.eq_5, semI.eq_7, e_api_Disk, e_api_Write]
  refine .seq ?_
  refine Rw.walk ?_
  simp only [wz, wd, ws, seval, c26r1, semI.eq_10, semI.eq_11, semI.eq_3, semI.eq_5, semI.eq_7, e_api_Disk, e_api_Write]
  refine .seq ?_
  refine Rw.walk ?_
  simp only [wz, wd, ws, seval, c26r2, semI.eq_10, semI.eq_11, semI.eq_3, semI.eq_5, semI.eq_7, e_api_Disk, e_api_Write]
  obtain ⟨g1, h⟩ := gd_iff.1 h
  refine Go1.of (sem_appN (enc := eS) (m := d.Sectors) eS_len (by rfl) (by rfl) ((by rfl))) ?_
  simp only [wz, wd, ws, seval, c26r2, semI.eq_10, semI.eq_11, semI.eq_3, semI.eq_5, semI.eq_7, e_api_Disk, e_api_Write]
  repeat (refine And.intro ?_ ?_; · first | omega | (simp only [List.length_append, List.length_cons, List.length_nil] at *; omega) | (intro q; simp only [wz, wd, ws, seval, q]; done))
  refine .seq ?_
  refine Rw.walk ?_
  simp only [wz, wd, ws, seval, c26r3, semI.eq_10, semI.eq_11, semI.eq_3, semI.eq_5, semI.eq_7, e_api_Disk, e_api_Write]
  obtain ⟨t, e2, h⟩ := Option.bind_eq_some_iff.1 h
  refine call_fun [] false ⟨trivial, trivial, trivial, trivial⟩ rfl ?_ (f_ref10_Room_ok _ _ _ e2) (fun _ => rfl) (fun i hi => by cases hi) ?_
  · simp only [wz, wd, ws, seval, e_api_Disk, e_api_Write]
  simp only [wz, wd, ws, seval, c26r3, semI.eq_10, semI.eq_11, semI.eq_3, semI.eq_5, semI.eq_7, e_api_Disk, e_api_Write]
  refine .seq ?_
  refine Rw.walk ?_
  obtain ⟨g3, h⟩ := gd_iff.1 h
  obtain ⟨g4, h⟩ := gd_iff.1 h
  simp only [wz, wd, ws, seval, c26r4, semI.eq_10, semI.eq_11, semI.eq_3, semI.eq_5, semI.eq_7, e_api_Disk, e_api_Write]
  repeat (refine And.intro ?_ ?_; · first | omega | (simp only [List.length_append, List.length_cons, List.length_nil] at *; omega) | (intro q; simp only [wz, wd, ws, seval, q]; done))
  refine Go1.of (sem_s2b (s := ((cut t 0 used) ++ s)) (by rfl) (by rfl)) ?_
  simp only [wz, wd, ws, seval, c26r4, semI.eq_10, semI.eq_11, semI.eq_3, semI.eq_5, semI.eq_7, e_api_Disk, e_api_Write]
  refine .seq ?_
  refine .blk ?_
  obtain ⟨s2, hf, h⟩ := Option.bind_eq_some_iff.1 h
  refine .loop (.weak (Imp.co [] _ _ ?c1 ?c2 ?c3 ?c4 ?c5) (f_ref10_With_l7_ok d half gen used s t _ _ hR _ _ _ hf _ ?_))
  case c1 | c2 | c3 | c4 | c5 => simp only [wz, wd, ws, seval, wi, er_nil, e_api_Disk, e_api_Write]
  · intro s2_ hs; subst hs
    refine .seq ?_
    refine .seq ?_
    refine Rw.walk ?_
    simp only [wz, wd, ws, seval, c26r7, semI.eq_10, semI.eq_11, semI.eq_3, semI.eq_5, semI.eq_7, e_api_Disk, e_api_Write]
    refine .blk ?_
    obtain ⟨s3, hf, h⟩ := Option.bind_eq_some_iff.1 h
    refine .loop (.weak (Imp.co [30] _ _ ?c1 ?c2 ?c3 ?c4 ?c5) (f_ref10_With_l13_ok d half gen used s t _ _ hR _ _ _ _ _ hf _ ?_))
    case c1 | c2 | c3 | c4 | c5 => simp only [wz, wd, ws, seval, wi, er_nil, e_api_Disk, e_api_Write]
    · intro s3_ hs; subst hs
      refine .seq ?_
      refine RwD.walk ?_
      simp only [wz, wd, ws, seval, c26r12, semI.eq_3, semI.eq_5, semI.eq_7, e_api_Disk, e_api_Write]
      refine GoD1.of (semI.eq_10 ..) ?_
      simp only [wz, wd, ws, seval, c26r12, semI.eq_3, semI.eq_5, semI.eq_7, e_api_Disk, e_api_Write]
      refine GoD1.of (semI.eq_10 ..) ?_
      simp only [wz, wd, ws, seval, c26r12, semI.eq_3, semI.eq_5, semI.eq_7, e_api_Disk, e_api_Write]
      obtain ⟨t2, e9, h⟩ := Option.bind_eq_some_iff.1 h
      refine call_fun [] false ⟨trivial, trivial, trivial, trivial⟩ rfl ?_ (f_ref10_At_ok _ _ _ e9) (fun _ => rfl) (fun i hi => by cases hi) ?_
      · simp only [wz, wd, ws, seval, e_api_Disk, e_api_Write]
      simp only [wz, wd, ws, seval, c26r12, semI.eq_3, semI.eq_5, semI.eq_7, e_api_Disk, e_api_Write]
      obtain ⟨t3, e10, h⟩ := Option.bind_eq_some_iff.1 h
      refine call_fun [] false ⟨trivial, trivial, trivial, trivial⟩ rfl ?_ (f_ref10_Head_ok _ _ _ e10) (fun _ => rfl) (fun i hi => by cases hi) ?_
      · simp only [wz, wd, ws, seval, e_api_Disk, e_api_Write]
      simp only [wz, wd, ws, seval, c26r12, semI.eq_3, semI.eq_5, semI.eq_7, e_api_Disk, e_api_Write]
      obtain ⟨x, e11, h⟩ := Option.bind_eq_some_iff.1 h
      refine GoD1.of (sem_iadrO (l := s3.2.2) e11 (by rfl) (by rfl) (by rfl)) ?_
      simp only [wz, wd, ws, seval, c26r12, semI.eq_3, semI.eq_5, semI.eq_7, e_api_Disk, e_api_Write, er_get e11]
      refine GoD1.of (sem_store (enc := eS) (l := s3.2.2) (a := x) (a' := t3) (v := .b (.s (.d (.str t3)))) (by rfl) (by rfl) (er_get e11) (by rfl) (by trivial) (by rfl) (Nat.le_of_ble_eq_true (by rfl)) (by rfl)) ?_
      simp only [wz, wd, ws, seval, c26r12, semI.eq_3, semI.eq_5, semI.eq_7, e_api_Disk, e_api_Write, er_get e11]
      refine .seq ?_
      refine Rw.walk ?_
      simp only [wz, wd, ws, seval, c26r13, semI.eq_10, semI.eq_11, semI.eq_3, semI.eq_5, semI.eq_7, e_api_Disk, e_api_Write, er_get e11]
      obtain rfl := Option.some.inj h
      refine .ret ?_
      rw [← hR]
      simp only [wz, wd, ws, seval, rv26, semI.eq_10, e_api_Disk, e_api_Write, er_get e11]
-- 20 consignor/consignorref09.Like
def c20r0 : List Opn := [
  ⟨(some 2), none, .box 2 (.t 0)⟩, 
  ⟨(some 3), none, .box 2 (.t 1)⟩, 
  ⟨(some 4), none, .mv (.c (.s (.d (.bool false))))⟩]
def c20r1 : List Opn := [
  ⟨(some 7), none, .fadr 0 (.t 2)⟩, 
  ⟨(some 8), none, .load false 1 (.t 7)⟩, 
  ⟨(some 9), none, .len (.sl 0) (.t 8)⟩, 
  ⟨(some 10), none, .fadr 0 (.t 3)⟩, 
  ⟨(some 11), none, .load false 1 (.t 10)⟩, 
  ⟨(some 12), none, .len (.sl 0) (.t 11)⟩, 
  ⟨(some 13), none, .bin .neq (.t 9) (.t 12)⟩, 
  ⟨(some 14), none, .mv (.t 13)⟩, 
  ⟨(some 15), some (14, false), .fadr 1 (.t 2)⟩, 
  ⟨(some 16), some (14, false), .load false 1 (.t 15)⟩, 
  ⟨(some 17), some (14, false), .len (.sl 0) (.t 16)⟩, 
  ⟨(some 18), some (14, false), .fadr 1 (.t 3)⟩, 
  ⟨(some 19), some (14, false), .load false 1 (.t 18)⟩, 
  ⟨(some 20), some (14, false), .len (.sl 0) (.t 19)⟩, 
  ⟨(some 21), some (14, false), .bin .neq (.t 17) (.t 20)⟩, 
  ⟨(some 22), none, .pick (.t 14) (.c (.s (.d (.bool true)))) (.t 21)⟩]
def c20r2 : List Opn := [
  ⟨(some 4), none, .mv (.c (.s (.d (.bool false))))⟩]
def c20r3 : List Opn := [
  ⟨(some 23), none, .fadr 0 (.t 2)⟩, 
  ⟨(some 24), none, .load false 1 (.t 23)⟩, 
  ⟨(some 25), none, .len (.sl 0) (.t 24)⟩, 
  ⟨(some 26), none, .mv (.c (.s (.d (.int .i64 0))))⟩]
def c20r4 : List Opn := [
  ⟨(some 27), none, .bin .lss (.t 26) (.t 25)⟩]
def c20r5 : List Opn := [
  ⟨(some 28), none, .mv (.t 26)⟩, 
  ⟨(some 5), none, .mv (.t 28)⟩]
def c20r6 : List Opn := [
  ⟨(some 29), none, .fadr 0 (.t 2)⟩, 
  ⟨(some 30), none, .load false 1 (.t 29)⟩, 
  ⟨(some 31), none, .mv (.t 5)⟩, 
  ⟨(some 32), none, .iadr (.sl 1) (.t 30) (.t 31)⟩, 
  ⟨(some 33), none, .load false 1 (.t 32)⟩, 
  ⟨(some 34), none, .fadr 0 (.t 3)⟩, 
  ⟨(some 35), none, .load false 1 (.t 34)⟩, 
  ⟨(some 36), none, .mv (.t 5)⟩, 
  ⟨(some 37), none, .iadr (.sl 1) (.t 35) (.t 36)⟩, 
  ⟨(some 38), none, .load false 1 (.t 37)⟩, 
  ⟨(some 39), none, .bin .neq (.t 33) (.t 38)⟩]
def c20r7 : List Opn := [
  ⟨(some 4), none, .mv (.c (.s (.d (.bool false))))⟩]
def c20r8 : List Opn := [
  ⟨(some 40), none, .bin .add (.t 26) (.c (.s (.d (.int .i64 1))))⟩, 
  ⟨(some 26), none, .mv (.t 40)⟩]
def c20l9 : C := .seq (.reg c20r4 none [2, 3, 25, 26, 27]) (.seq (.cond (.t 27) (.skip) (.exit 0)) (.seq (.blk 1 (.seq (.reg c20r5 none [2, 3, 5, 25, 26]) (.seq (.reg c20r6 (some [0, 1, 0, 7, 15, 0, 32, 0, 224, 480, 1023]) [2, 3, 25, 26, 39]) (.cond (.t 39) (.seq (.reg c20r7 none [4]) (.ret)) (.skip))))) (.reg c20r8 none [2, 3, 25, 26])))
def c20r9 : List Opn := [
  ⟨(some 41), none, .fadr 1 (.t 2)⟩, 
  ⟨(some 42), none, .load false 1 (.t 41)⟩, 
  ⟨(some 43), none, .len (.sl 0) (.t 42)⟩, 
  ⟨(some 44), none, .mv (.c (.s (.d (.int .i64 0))))⟩]
def c20r10 : List Opn := [
  ⟨(some 45), none, .bin .lss (.t 44) (.t 43)⟩]
def c20r11 : List Opn := [
  ⟨(some 46), none, .mv (.t 44)⟩, 
  ⟨(some 6), none, .mv (.t 46)⟩]
def c20r12 : List Opn := [
  ⟨(some 47), none, .fadr 1 (.t 2)⟩, 
  ⟨(some 48), none, .load false 1 (.t 47)⟩, 
  ⟨(some 49), none, .mv (.t 6)⟩, 
  ⟨(some 50), none, .iadr (.sl 2) (.t 48) (.t 49)⟩, 
  ⟨(some 51), none, .load true 2 (.t 50)⟩, 
  ⟨(some 52), none, .fadr 1 (.t 3)⟩, 
  ⟨(some 53), none, .load false 1 (.t 52)⟩, 
  ⟨(some 54), none, .mv (.t 6)⟩, 
  ⟨(some 55), none, .iadr (.sl 2) (.t 53) (.t 54)⟩, 
  ⟨(some 56), none, .load true 2 (.t 55)⟩, 
  ⟨(some 57), none, .bagg .neq [.int, .str] (.t 51) (.t 56)⟩]
def c20r13 : List Opn := [
  ⟨(some 4), none, .mv (.c (.s (.d (.bool false))))⟩]
def c20r14 : List Opn := [
  ⟨(some 58), none, .bin .add (.t 44) (.c (.s (.d (.int .i64 1))))⟩, 
  ⟨(some 44), none, .mv (.t 58)⟩]
def c20l16 : C := .seq (.reg c20r10 none [2, 3, 43, 44, 45]) (.seq (.cond (.t 45) (.skip) (.exit 2)) (.seq (.blk 3 (.seq (.reg c20r11 none [2, 3, 6, 43, 44]) (.seq (.reg c20r12 (some [0, 1, 0, 7, 15, 0, 32, 0, 224, 480, 1023]) [2, 3, 43, 44, 57]) (.cond (.t 57) (.seq (.reg c20r13 none [4]) (.ret)) (.skip))))) (.reg c20r14 none [2, 3, 43, 44])))
def c20r15 : List Opn := [
  ⟨(some 4), none, .mv (.c (.s (.d (.bool true))))⟩]
def c20 : C := .seq (.reg c20r0 none [2, 3]) (.seq (.seq (.reg c20r1 none [2, 3, 22]) (.cond (.t 22) (.seq (.reg c20r2 none [4]) (.ret)) (.skip))) (.seq (.seq (.reg c20r3 none [2, 3, 25, 26]) (.blk 0 (.loop c20l9))) (.seq (.seq (.reg c20r9 none [2, 3, 43, 44]) (.blk 2 (.loop c20l16))) (.seq (.reg c20r15 none [4]) (.ret)))))
def k20 : List (Nat × List Nat) := [(15, [4]), (14, [2, 3, 43, 44]), (13, [4]), (12, [2, 3, 43, 44, 57]), (11, [2, 3, 6, 43, 44]), (10, [2, 3, 43, 44, 45]), (9, [2, 3, 43, 44]), (8, [2, 3, 25, 26]), (7, [4]), (6, [2, 3, 25, 26, 39]), (5, [2, 3, 5, 25, 26]), (4, [2, 3, 25, 26, 27]), (3, [2, 3, 25, 26]), (2, [4]), (1, [2, 3, 22]), (0, [2, 3])]
theorem cc20 : (Try.f20.body).bind (cC Try.prog 59 k20) = some c20 := by kernel_rfl
def rv20 : List RV := [.t 4]
theorem cr20 : cRVs Try.prog Try.f20.results.toList = some rv20 := by kernel_rfl
theorem f_ref09_Like_l9_ok (a : api_Disk) (b : api_Disk) (y_ : Bool) (R_ : St → Prop) (hR : (Ret Try.prog glP [] rv20 (.b (.s (.d (.bool y_))))) = R_) : ∀ (m_ : Nat) (v26 : Int) (res_ : (Int) ⊕ (Bool)) (h : f_ref09_Like_l9 a b m_ v26 = some res_) (k_ : List It) (hx : ∀ s_ : Int, res_ = .inl s_ → W Try.prog glP 59 k_ ⟨lkT [(2, .b (.s (.ptr 2 1 0 0))), (3, .b (.s (.ptr 3 1 0 0))), (25, .b (.s (.d (.int .i64 (a.Sectors.length : Int))))), (26, .b (.s (.d (.int .i64 s_))))], lkG [(2, ⟨2, [[(.d (.sl (a.Sectors.map eS))), (.d (.sl (a.Dirty.map e_api_Write)))]], false⟩), (3, ⟨2, [[(.d (.sl (b.Sectors.map eS))), (.d (.sl (b.Dirty.map e_api_Write)))]], false⟩)]⟩ R_) (hr : ∀ z_ : Bool, res_ = .inr z_ → z_ = y_), W Try.prog glP 59 (.c c20l9 :: .lp c20l9 :: .blk 0 :: k_) ⟨lkT [(2, .b (.s (.ptr 2 1 0 0))), (3, .b (.s (.ptr 3 1 0 0))), (25, .b (.s (.d (.int .i64 (a.Sectors.length : Int))))), (26, .b (.s (.d (.int .i64 v26))))], lkG [(2, ⟨2, [[(.d (.sl (a.Sectors.map eS))), (.d (.sl (a.Dirty.map e_api_Write)))]], false⟩), (3, ⟨2, [[(.d (.sl (b.Sectors.map eS))), (.d (.sl (b.Dirty.map e_api_Write)))]], false⟩)]⟩ R_ := by
  intro m_; induction m_ with
  | zero => intro v26 res_ h; rw [f_ref09_Like_l9.eq_1] at h; cases h
  | succ m_ ih =>
    intro v26 res_ h k_ hx hr; rw [f_ref09_Like_l9.eq_2] at h; refine W.cdef c20l9.eq_1 ?_
    refine .seq ?_
    refine Rw.walk ?_
    simp only [wz, wd, ws, seval, c20r4, semI.eq_10, semI.eq_11, semI.eq_3, semI.eq_5, semI.eq_7, e_api_Disk, e_api_Write]
    refine .seq ?_
    refine .cond (p := (decide (v26 < (a.Sectors.length : Int)))) (by first | rfl | simp only [wz, wd, ws, seval]) (fun h1 => ?_) (fun h1 => ?_)
    · rw [ite_t h1] at h
      refine .skip ?_
      refine .seq ?_
      refine .blk ?_
      refine .seq ?_
      refine Rw.walk ?_
      simp only [wz, wd, ws, seval, c20r5, semI.eq_10, semI.eq_11, semI.eq_3, semI.eq_5, semI.eq_7, e_api_Disk, e_api_Write]
      refine .seq ?_
      refine RwD.walk ?_
      simp only [wz, wd, ws, seval, c20r6, semI.eq_10, semI.eq_11, semI.eq_3, semI.eq_5, semI.eq_7, e_api_Disk, e_api_Write]
      obtain ⟨x, e1, h⟩ := Option.bind_eq_some_iff.1 h
      refine GoD1.of (sem_iadr eS_len e1 (by rfl) (by rfl)) ?_
      simp only [wz, wd, ws, seval, c20r6, semI.eq_10, semI.eq_11, semI.eq_3, semI.eq_5, semI.eq_7, e_api_Disk, e_api_Write]
      obtain ⟨x2, e2, h⟩ := Option.bind_eq_some_iff.1 h
      refine GoD1.of (sem_iadr eS_len e2 (by rfl) (by rfl)) ?_
      simp only [wz, wd, ws, seval, c20r6, semI.eq_10, semI.eq_11, semI.eq_3, semI.eq_5, semI.eq_7, e_api_Disk, e_api_Write]
      refine .cond (p := (!(x == x2))) (by first | rfl | simp only [wz, wd, ws, seval]) (fun h1 => ?_) (fun h1 => ?_)
      · rw [ite_t h1] at h
        refine .seq ?_
        refine Rw.walk ?_
        simp only [wz, wd, ws, seval, c20r7, semI.eq_10, semI.eq_11, semI.eq_3, semI.eq_5, semI.eq_7, e_api_Disk, e_api_Write]
        obtain rfl := Option.some.inj h; obtain rfl := hr _ rfl
        refine .ret ?_
        rw [← hR]
        simp only [wz, wd, ws, seval, rv20, e_api_Disk, e_api_Write]
      · rw [ite_f h1] at h
        refine .skip ?_
        refine .eblk ?_
        refine Rw.walk ?_
        simp only [wz, wd, ws, seval, c20r8, semI.eq_10, semI.eq_11, semI.eq_3, semI.eq_5, semI.eq_7, e_api_Disk, e_api_Write]
        refine .lp ?_
        refine .weak (Imp.co [] _ _ ?_ ?_ ?_ ?_ ?_) (ih (IntKind.i64.wrap (v26 + 1)) _ h k_ hx hr) <;> simp only [wz, wd, ws, seval, wi, er_nil, e_api_Disk, e_api_Write]
    · rw [ite_f h1] at h
      refine .exit rfl ?_
      obtain rfl := Option.some.inj h
      refine .weak (Imp.co [] _ _ ?_ ?_ ?_ ?_ ?_) (hx _ rfl) <;> simp only [wz, wd, ws, seval, wi, er_nil, e_api_Disk, e_api_Write]
theorem f_ref09_Like_l16_ok (a : api_Disk) (b : api_Disk) (y_ : Bool) (R_ : St → Prop) (hR : (Ret Try.prog glP [] rv20 (.b (.s (.d (.bool y_))))) = R_) : ∀ (m_ : Nat) (v44 : Int) (res_ : (Int) ⊕ (Bool)) (h : f_ref09_Like_l16 a b m_ v44 = some res_) (k_ : List It) (hx : ∀ s_ : Int, res_ = .inl s_ → W Try.prog glP 59 k_ ⟨lkT [(2, .b (.s (.ptr 2 1 0 0))), (3, .b (.s (.ptr 3 1 0 0))), (43, .b (.s (.d (.int .i64 (a.Dirty.length : Int))))), (44, .b (.s (.d (.int .i64 s_))))], lkG [(2, ⟨2, [[(.d (.sl (a.Sectors.map eS))), (.d (.sl (a.Dirty.map e_api_Write)))]], false⟩), (3, ⟨2, [[(.d (.sl (b.Sectors.map eS))), (.d (.sl (b.Dirty.map e_api_Write)))]], false⟩)]⟩ R_) (hr : ∀ z_ : Bool, res_ = .inr z_ → z_ = y_), W Try.prog glP 59 (.c c20l16 :: .lp c20l16 :: .blk 2 :: k_) ⟨lkT [(2, .b (.s (.ptr 2 1 0 0))), (3, .b (.s (.ptr 3 1 0 0))), (43, .b (.s (.d (.int .i64 (a.Dirty.length : Int))))), (44, .b (.s (.d (.int .i64 v44))))], lkG [(2, ⟨2, [[(.d (.sl (a.Sectors.map eS))), (.d (.sl (a.Dirty.map e_api_Write)))]], false⟩), (3, ⟨2, [[(.d (.sl (b.Sectors.map eS))), (.d (.sl (b.Dirty.map e_api_Write)))]], false⟩)]⟩ R_ := by
  intro m_; induction m_ with
  | zero => intro v44 res_ h; rw [f_ref09_Like_l16.eq_1] at h; cases h
  | succ m_ ih =>
    intro v44 res_ h k_ hx hr; rw [f_ref09_Like_l16.eq_2] at h; refine W.cdef c20l16.eq_1 ?_
    refine .seq ?_
    refine Rw.walk ?_
    simp only [wz, wd, ws, seval, c20r10, semI.eq_10, semI.eq_11, semI.eq_3, semI.eq_5, semI.eq_7, e_api_Disk, e_api_Write]
    refine .seq ?_
    refine .cond (p := (decide (v44 < (a.Dirty.length : Int)))) (by first | rfl | simp only [wz, wd, ws, seval]) (fun h1 => ?_) (fun h1 => ?_)
    · rw [ite_t h1] at h
      refine .skip ?_
      refine .seq ?_
      refine .blk ?_
      refine .seq ?_
      refine Rw.walk ?_
      simp only [wz, wd, ws, seval, c20r11, semI.eq_10, semI.eq_11, semI.eq_3, semI.eq_5, semI.eq_7, e_api_Disk, e_api_Write]
      refine .seq ?_
      refine RwD.walk ?_
      simp only [wz, wd, ws, seval, c20r12, semI.eq_10, semI.eq_11, semI.eq_3, semI.eq_5, semI.eq_7, e_api_Disk, e_api_Write]
      obtain ⟨x, e3, h⟩ := Option.bind_eq_some_iff.1 h
      refine GoD1.of (sem_iadr e_api_Write_len e3 (by rfl) (by rfl)) ?_
      simp only [wz, wd, ws, seval, c20r12, semI.eq_10, semI.eq_11, semI.eq_3, semI.eq_5, semI.eq_7, e_api_Disk, e_api_Write]
      obtain ⟨x2, e4, h⟩ := Option.bind_eq_some_iff.1 h
      refine GoD1.of (sem_iadr e_api_Write_len e4 (by rfl) (by rfl)) ?_
      simp only [wz, wd, ws, seval, c20r12, semI.eq_10, semI.eq_11, semI.eq_3, semI.eq_5, semI.eq_7, e_api_Disk, e_api_Write]
      refine .cond (p := (!((x.At == x2.At) && (x.Data == x2.Data)))) (by first | rfl | simp only [wz, wd, ws, seval]) (fun h1 => ?_) (fun h1 => ?_)
      · rw [ite_t h1] at h
        refine .seq ?_
        refine Rw.walk ?_
        simp only [wz, wd, ws, seval, c20r13, semI.eq_10, semI.eq_11, semI.eq_3, semI.eq_5, semI.eq_7, e_api_Disk, e_api_Write]
        obtain rfl := Option.some.inj h; obtain rfl := hr _ rfl
        refine .ret ?_
        rw [← hR]
        simp only [wz, wd, ws, seval, rv20, e_api_Disk, e_api_Write]
      · rw [ite_f h1] at h
        refine .skip ?_
        refine .eblk ?_
        refine Rw.walk ?_
        simp only [wz, wd, ws, seval, c20r14, semI.eq_10, semI.eq_11, semI.eq_3, semI.eq_5, semI.eq_7, e_api_Disk, e_api_Write]
        refine .lp ?_
        refine .weak (Imp.co [] _ _ ?_ ?_ ?_ ?_ ?_) (ih (IntKind.i64.wrap (v44 + 1)) _ h k_ hx hr) <;> simp only [wz, wd, ws, seval, wi, er_nil, e_api_Disk, e_api_Write]
    · rw [ite_f h1] at h
      refine .exit rfl ?_
      obtain rfl := Option.some.inj h
      refine .weak (Imp.co [] _ _ ?_ ?_ ?_ ?_ ?_) (hx _ rfl) <;> simp only [wz, wd, ws, seval, wi, er_nil, e_api_Disk, e_api_Write]
theorem f_ref09_Like_ok (a : api_Disk) (b : api_Disk) (y_ : Bool) (h : f_ref09_Like a b = some y_) : Fun Try.prog glP 20 [.b (.agg ((e_api_Disk a).map Lc.d)), .b (.agg ((e_api_Disk b).map Lc.d))] (.b (.s (.d (.bool y_)))) := by
  refine fun_walk [] Try.func20 Try.ntmps20 cc20 cr20 (by kernel_rfl) (by simp only [List.length_cons, List.length_nil]; decide) ?_
  generalize hR : Ret _ _ _ _ _ = R_
  simp only [wz, wd, ws, seval, e_api_Disk, e_api_Write]
  unfold f_ref09_Like at h; unfold c20
  refine .seq ?_
  refine Rw.walk ?_
  simp only [wz, wd, ws, seval, c20r0, semI.eq_10, semI.eq_11, semI.eq_3, semI.eq_5, semI.eq_7, e_api_Disk, e_api_Write]
  refine .seq ?_
  refine .seq ?_
  refine Rw.walk ?_
  simp only [wz, wd, ws, seval, c20r1, semI.eq_10, semI.eq_11, semI.eq_3, semI.eq_5, semI.eq_7, e_api_Disk, e_api_Write]
  refine call_alt (v := .b (.s (.d (.sl (a.Dirty.map e_api_Write))))) rfl rfl (by simp only [wz, wd, ws, seval]) (fun q => ⟨_, by simp only [wz, wd, ws, seval, semI.eq_10, e_api_Disk, e_api_Write], trivial⟩) ?_
  simp only [wz, wd, ws, seval, c20r1, semI.eq_10, semI.eq_11, semI.eq_3, semI.eq_5, semI.eq_7, e_api_Disk, e_api_Write]
  refine call_alt (v := .b (.s (.d (.sl (b.Dirty.map e_api_Write))))) rfl rfl (by simp only [wz, wd, ws, seval]) (fun q => ⟨_, by simp only [wz, wd, ws, seval, semI.eq_10, e_api_Disk, e_api_Write], trivial⟩) ?_
  simp only [wz, wd, ws, seval, c20r1, semI.eq_10, semI.eq_11, semI.eq_3, semI.eq_5, semI.eq_7, e_api_Disk, e_api_Write]
  repeat (refine And.intro ?_ ?_; · first | omega | (simp only [List.length_append, List.length_cons, List.length_nil] at *; omega) | (intro q; simp only [wz, wd, ws, seval, q]; done))
  refine .cond (p := (((a.Sectors.length : Int) != (b.Sectors.length : Int)) || ((a.Dirty.length : Int) != (b.Dirty.length : Int)))) (by first | rfl | simp only [wz, wd, ws, seval]) (fun h1 => ?_) (fun h1 => ?_)
  · rw [ite_t h1] at h
    refine .seq ?_
    refine Rw.walk ?_
    simp only [wz, wd, ws, seval, c20r2, semI.eq_10, semI.eq_11, semI.eq_3, semI.eq_5, semI.eq_7, e_api_Disk, e_api_Write]
    obtain rfl := Option.some.inj h
    refine .ret ?_
    rw [← hR]
    simp only [wz, wd, ws, seval, rv20, e_api_Disk, e_api_Write]
  · rw [ite_f h1] at h
    refine .skip ?_
    refine .seq ?_
    refine .seq ?_
    refine Rw.walk ?_
    simp only [wz, wd, ws, seval, c20r3, semI.eq_10, semI.eq_11, semI.eq_3, semI.eq_5, semI.eq_7, e_api_Disk, e_api_Write]
    refine .blk ?_
    obtain ⟨s, hf, h⟩ := Option.bind_eq_some_iff.1 h
    refine .loop (.weak (Imp.co [] _ _ ?c1 ?c2 ?c3 ?c4 ?c5) (f_ref09_Like_l9_ok a b _ _ hR _ _ _ hf _ ?_ ?_))
    case c1 | c2 | c3 | c4 | c5 => simp only [wz, wd, ws, seval, wi, er_nil, e_api_Disk, e_api_Write]
    · intro s2 hs; subst hs; dsimp only at h
      refine .seq ?_
      refine .seq ?_
      refine Rw.walk ?_
      simp only [wz, wd, ws, seval, c20r9, semI.eq_10, semI.eq_11, semI.eq_3, semI.eq_5, semI.eq_7, e_api_Disk, e_api_Write]
      refine .blk ?_
      obtain ⟨s, hf, h⟩ := Option.bind_eq_some_iff.1 h
      refine .loop (.weak (Imp.co [] _ _ ?c1 ?c2 ?c3 ?c4 ?c5) (f_ref09_Like_l16_ok a b _ _ hR _ _ _ hf _ ?_ ?_))
      case c1 | c2 | c3 | c4 | c5 => simp only [wz, wd, ws, seval, wi, er_nil, e_api_Disk, e_api_Write]
      · intro s3 hs; subst hs; dsimp only at h
        refine .seq ?_
        refine Rw.walk ?_
        simp only [wz, wd, ws, seval, c20r15, semI.eq_10, semI.eq_11, semI.eq_3, semI.eq_5, semI.eq_7, e_api_Disk, e_api_Write]
        obtain rfl := Option.some.inj h
        refine .ret ?_
        rw [← hR]
        simp only [wz, wd, ws, seval, rv20, e_api_Disk, e_api_Write]
      · intro z hz; subst hz; dsimp only at h
        exact Option.some.inj h
    · intro z hz; subst hz; dsimp only at h
      exact Option.some.inj h
-- 19 consignor/consignorref01.Same
def c19r0 : List Opn := [
  ⟨(some 4), none, .mv (.c (.s (.d (.bool false))))⟩]
def c19r1 : List Opn := [
  ⟨(some 6), none, .mv (.t 0)⟩, 
  ⟨(some 7), none, .len (.sl 0) (.t 6)⟩, 
  ⟨(some 8), none, .mv (.t 1)⟩, 
  ⟨(some 9), none, .len (.sl 0) (.t 8)⟩, 
  ⟨(some 10), none, .bin .neq (.t 7) (.t 9)⟩]
def c19r2 : List Opn := [
  ⟨(some 4), none, .mv (.c (.s (.d (.bool false))))⟩]
def c19r3 : List Opn := [
  ⟨(some 11), none, .mv (.t 0)⟩, 
  ⟨(some 12), none, .len (.sl 0) (.t 11)⟩, 
  ⟨(some 13), none, .mv (.c (.s (.d (.int .i64 0))))⟩]
def c19r4 : List Opn := [
  ⟨(some 14), none, .bin .lss (.t 13) (.t 12)⟩]
def c19r5 : List Opn := [
  ⟨(some 15), none, .mv (.t 13)⟩, 
  ⟨(some 5), none, .mv (.t 15)⟩]
def c19r6 : List Opn := [
  ⟨(some 16), none, .mv (.t 0)⟩, 
  ⟨(some 17), none, .mv (.t 5)⟩, 
  ⟨(some 18), none, .iadr (.sl 1) (.t 16) (.t 17)⟩, 
  ⟨(some 19), none, .load false 1 (.t 18)⟩, 
  ⟨(some 20), none, .mv (.t 1)⟩, 
  ⟨(some 21), none, .mv (.t 5)⟩, 
  ⟨(some 22), none, .iadr (.sl 1) (.t 20) (.t 21)⟩, 
  ⟨(some 23), none, .load false 1 (.t 22)⟩, 
  ⟨(some 24), none, .bin .neq (.t 19) (.t 23)⟩]
def c19r7 : List Opn := [
  ⟨(some 4), none, .mv (.c (.s (.d (.bool false))))⟩]
def c19r8 : List Opn := [
  ⟨(some 25), none, .bin .add (.t 13) (.c (.s (.d (.int .i64 1))))⟩, 
  ⟨(some 13), none, .mv (.t 25)⟩]
def c19l9 : C := .seq (.reg c19r4 none [0, 1, 12, 13, 14]) (.seq (.cond (.t 14) (.skip) (.exit 0)) (.seq (.blk 1 (.seq (.reg c19r5 none [0, 1, 5, 12, 13]) (.seq (.reg c19r6 (some [0, 0, 3, 7, 0, 0, 48, 112, 255]) [0, 1, 12, 13, 24]) (.cond (.t 24) (.seq (.reg c19r7 none [4]) (.ret)) (.skip))))) (.reg c19r8 none [0, 1, 12, 13])))
def c19r9 : List Opn := [
  ⟨(some 4), none, .mv (.c (.s (.d (.bool true))))⟩]
def c19 : C := .seq (.reg c19r0 none [0, 1]) (.seq (.seq (.reg c19r1 none [0, 1, 10]) (.cond (.t 10) (.seq (.reg c19r2 none [4]) (.ret)) (.skip))) (.seq (.seq (.reg c19r3 none [0, 1, 12, 13]) (.blk 0 (.loop c19l9))) (.seq (.reg c19r9 none [4]) (.ret))))
def k19 : List (Nat × List Nat) := [(9, [4]), (8, [0, 1, 12, 13]), (7, [4]), (6, [0, 1, 12, 13, 24]), (5, [0, 1, 5, 12, 13]), (4, [0, 1, 12, 13, 14]), (3, [0, 1, 12, 13]), (2, [4]), (1, [0, 1, 10]), (0, [0, 1])]
theorem cc19 : (Try.f19.body).bind (cC Try.prog 26 k19) = some c19 := by kernel_rfl
def rv19 : List RV := [.t 4]
theorem cr19 : cRVs Try.prog Try.f19.results.toList = some rv19 := by kernel_rfl
theorem f_ref01_Same_l9_ok (a : (List Str)) (b : (List Str)) (y_ : Bool) (R_ : St → Prop) (hR : (Ret Try.prog glP [] rv19 (.b (.s (.d (.bool y_))))) = R_) : ∀ (m_ : Nat) (v13 : Int) (res_ : (Int) ⊕ (Bool)) (h : f_ref01_Same_l9 a b m_ v13 = some res_) (k_ : List It) (hx : ∀ s_ : Int, res_ = .inl s_ → W Try.prog glP 26 k_ ⟨lkT [(0, .b (.s (.d (.sl (a.map eS))))), (1, .b (.s (.d (.sl (b.map eS))))), (12, .b (.s (.d (.int .i64 (a.length : Int))))), (13, .b (.s (.d (.int .i64 s_))))], lkG []⟩ R_) (hr : ∀ z_ : Bool, res_ = .inr z_ → z_ = y_), W Try.prog glP 26 (.c c19l9 :: .lp c19l9 :: .blk 0 :: k_) ⟨lkT [(0, .b (.s (.d (.sl (a.map eS))))), (1, .b (.s (.d (.sl (b.map eS))))), (12, .b (.s (.d (.int .i64 (a.length : Int))))), (13, .b (.s (.d (.int .i64 v13))))], lkG []⟩ R_ := by
  intro m_; induction m_ with
  | zero => intro v13 res_ h; rw [f_ref01_Same_l9.eq_1] at h; cases h
  | succ m_ ih =>
    intro v13 res_ h k_ hx hr; rw [f_ref01_Same_l9.eq_2] at h; refine W.cdef c19l9.eq_1 ?_
    refine .seq ?_
    refine Rw.walk ?_
    simp only [wz, wd, ws, seval, c19r4, semI.eq_10, semI.eq_11, semI.eq_3, semI.eq_5, semI.eq_7]
    refine .seq ?_
    refine .cond (p := (decide (v13 < (a.length : Int)))) (by first | rfl | simp only [wz, wd, ws, seval]) (fun h1 => ?_) (fun h1 => ?_)
    · rw [ite_t h1] at h
      refine .skip ?_
      refine .seq ?_
      refine .blk ?_
      refine .seq ?_
      refine Rw.walk ?_
      simp only [wz, wd, ws, seval, c19r5, semI.eq_10, semI.eq_11, semI.eq_3, semI.eq_5, semI.eq_7]
      refine .seq ?_
      refine RwD.walk ?_
      simp only [wz, wd, ws, seval, c19r6, semI.eq_10, semI.eq_11, semI.eq_3, semI.eq_5, semI.eq_7]
      obtain ⟨x, e1, h⟩ := Option.bind_eq_some_iff.1 h
      refine GoD1.of (sem_iadr eS_len e1 (by rfl) (by rfl)) ?_
      simp only [wz, wd, ws, seval, c19r6, semI.eq_10, semI.eq_11, semI.eq_3, semI.eq_5, semI.eq_7]
      obtain ⟨x2, e2, h⟩ := Option.bind_eq_some_iff.1 h
      refine GoD1.of (sem_iadr eS_len e2 (by rfl) (by rfl)) ?_
      simp only [wz, wd, ws, seval, c19r6, semI.eq_10, semI.eq_11, semI.eq_3, semI.eq_5, semI.eq_7]
      refine .cond (p := (!(x == x2))) (by first | rfl | simp only [wz, wd, ws, seval]) (fun h1 => ?_) (fun h1 => ?_)
      · rw [ite_t h1] at h
        refine .seq ?_
        refine Rw.walk ?_
        simp only [wz, wd, ws, seval, c19r7, semI.eq_10, semI.eq_11, semI.eq_3, semI.eq_5, semI.eq_7]
        obtain rfl := Option.some.inj h; obtain rfl := hr _ rfl
        refine .ret ?_
        rw [← hR]
        simp only [wz, wd, ws, seval, rv19]
      · rw [ite_f h1] at h
        refine .skip ?_
        refine .eblk ?_
        refine Rw.walk ?_
        simp only [wz, wd, ws, seval, c19r8, semI.eq_10, semI.eq_11, semI.eq_3, semI.eq_5, semI.eq_7]
        refine .lp ?_
        refine .weak (Imp.co [] _ _ ?_ ?_ ?_ ?_ ?_) (ih (IntKind.i64.wrap (v13 + 1)) _ h k_ hx hr) <;> simp only [wz, wd, ws, seval, wi, er_nil]
    · rw [ite_f h1] at h
      refine .exit rfl ?_
      obtain rfl := Option.some.inj h
      refine .weak (Imp.co [] _ _ ?_ ?_ ?_ ?_ ?_) (hx _ rfl) <;> simp only [wz, wd, ws, seval, wi, er_nil]
theorem f_ref01_Same_ok (a : (List Str)) (b : (List Str)) (y_ : Bool) (h : f_ref01_Same a b = some y_) : Fun Try.prog glP 19 [.b (.s (.d (.sl (a.map eS)))), .b (.s (.d (.sl (b.map eS))))] (.b (.s (.d (.bool y_)))) := by
  refine fun_walk [] Try.func19 Try.ntmps19 cc19 cr19 (by kernel_rfl) (by simp only [List.length_cons, List.length_nil]; decide) ?_
  generalize hR : Ret _ _ _ _ _ = R_
  simp only [wz, wd, ws, seval]
  unfold f_ref01_Same at h; unfold c19
  refine .seq ?_
  refine Rw.walk ?_
  simp only [wz, wd, ws, seval, c19r0, semI.eq_10, semI.eq_11, semI.eq_3, semI.eq_5, semI.eq_7]
  refine .seq ?_
  refine .seq ?_
  refine Rw.walk ?_
  simp only [wz, wd, ws, seval, c19r1, semI.eq_10, semI.eq_11, semI.eq_3, semI.eq_5, semI.eq_7]
  refine .cond (p := ((a.length : Int) != (b.length : Int))) (by first | rfl | simp only [wz, wd, ws, seval]) (fun h1 => ?_) (fun h1 => ?_)
  · rw [ite_t h1] at h
    refine .seq ?_
    refine Rw.walk ?_
    simp only [wz, wd, ws, seval, c19r2, semI.eq_10, semI.eq_11, semI.eq_3, semI.eq_5, semI.eq_7]
    obtain rfl := Option.some.inj h
    refine .ret ?_
    rw [← hR]
    simp only [wz, wd, ws, seval, rv19]
  · rw [ite_f h1] at h
    refine .skip ?_
    refine .seq ?_
    refine .seq ?_
    refine Rw.walk ?_
    simp only [wz, wd, ws, seval, c19r3, semI.eq_10, semI.eq_11, semI.eq_3, semI.eq_5, semI.eq_7]
    refine .blk ?_
    obtain ⟨s, hf, h⟩ := Option.bind_eq_some_iff.1 h
    refine .loop (.weak (Imp.co [] _ _ ?c1 ?c2 ?c3 ?c4 ?c5) (f_ref01_Same_l9_ok a b _ _ hR _ _ _ hf _ ?_ ?_))
    case c1 | c2 | c3 | c4 | c5 => simp only [wz, wd, ws, seval, wi, er_nil]
    · intro s2 hs; subst hs; dsimp only at h
      refine .seq ?_
      refine Rw.walk ?_
      simp only [wz, wd, ws, seval, c19r9, semI.eq_10, semI.eq_11, semI.eq_3, semI.eq_5, semI.eq_7]
      obtain rfl := Option.some.inj h
      refine .ret ?_
      rw [← hR]
      simp only [wz, wd, ws, seval, rv19]
    · intro z hz; subst hz; dsimp only at h
      exact Option.some.inj h
-- 13 consignor/consignorref10.Like
def c13r0 : List Opn := [
  ⟨(some 2), none, .box 6 (.t 0)⟩, 
  ⟨(some 3), none, .box 6 (.t 1)⟩, 
  ⟨(some 4), none, .mv (.c (.s (.d (.bool false))))⟩]
def c13r1 : List Opn := [
  ⟨(some 5), none, .fadr 0 (.t 2)⟩, 
  ⟨(some 6), none, .load true 2 (.t 5)⟩, 
  ⟨(some 7), none, .fadr 0 (.t 3)⟩, 
  ⟨(some 8), none, .load true 2 (.t 7)⟩, 
  ⟨(some 9), none, .call (.fn 20) [(.t 6), (.t 8)]⟩, 
  ⟨(some 10), none, .mv (.t 9)⟩, 
  ⟨(some 11), some (10, true), .fadr 2 (.t 2)⟩, 
  ⟨(some 12), some (10, true), .load false 1 (.t 11)⟩, 
  ⟨(some 13), some (10, true), .fadr 2 (.t 3)⟩, 
  ⟨(some 14), some (10, true), .load false 1 (.t 13)⟩, 
  ⟨(some 15), some (10, true), .bin .eql (.t 12) (.t 14)⟩, 
  ⟨(some 16), none, .pick (.t 10) (.t 15) (.c (.s (.d (.bool false))))⟩, 
  ⟨(some 17), none, .mv (.t 16)⟩, 
  ⟨(some 18), some (17, true), .fadr 3 (.t 2)⟩, 
  ⟨(some 19), some (17, true), .load false 1 (.t 18)⟩, 
  ⟨(some 20), some (17, true), .fadr 3 (.t 3)⟩, 
  ⟨(some 21), some (17, true), .load false 1 (.t 20)⟩, 
  ⟨(some 22), some (17, true), .bin .eql (.t 19) (.t 21)⟩, 
  ⟨(some 23), none, .pick (.t 17) (.t 22) (.c (.s (.d (.bool false))))⟩, 
  ⟨(some 24), none, .mv (.t 23)⟩, 
  ⟨(some 25), some (24, true), .fadr 4 (.t 2)⟩, 
  ⟨(some 26), some (24, true), .load false 1 (.t 25)⟩, 
  ⟨(some 27), some (24, true), .fadr 4 (.t 3)⟩, 
  ⟨(some 28), some (24, true), .load false 1 (.t 27)⟩, 
  ⟨(some 29), some (24, true), .bin .eql (.t 26) (.t 28)⟩, 
  ⟨(some 30), none, .pick (.t 24) (.t 29) (.c (.s (.d (.bool false))))⟩, 
  ⟨(some 31), none, .mv (.t 30)⟩, 
  ⟨(some 32), some (31, true), .fadr 5 (.t 2)⟩, 
  ⟨(some 33), some (31, true), .load false 1 (.t 32)⟩, 
  ⟨(some 34), some (31, true), .fadr 5 (.t 3)⟩, 
  ⟨(some 35), some (31, true), .load false 1 (.t 34)⟩, 
  ⟨(some 36), some (31, true), .call (.fn 19) [(.t 33), (.t 35)]⟩, 
  ⟨(some 37), none, .pick (.t 31) (.t 36) (.c (.s (.d (.bool false))))⟩, 
  ⟨(some 4), none, .mv (.t 37)⟩]
def c13 : C := .seq (.reg c13r0 none [2, 3]) (.seq (.reg c13r1 none [4]) (.ret))
def k13 : List (Nat × List Nat) := [(1, [4]), (0, [2, 3])]
theorem cc13 : (Try.f13.body).bind (cC Try.prog 38 k13) = some c13 := by kernel_rfl
def rv13 : List RV := [.t 4]
theorem cr13 : cRVs Try.prog Try.f13.results.toList = some rv13 := by kernel_rfl
theorem f_ref10_Like_ok (a : api_Ledger) (b : api_Ledger) (y_ : Bool) (h : f_ref10_Like a b = some y_) : Fun Try.prog glP 13 [.b (.agg ((e_api_Ledger a).map Lc.d)), .b (.agg ((e_api_Ledger b).map Lc.d))] (.b (.s (.d (.bool y_)))) := by
  refine fun_walk [] Try.func13 Try.ntmps13 cc13 cr13 (by kernel_rfl) (by simp only [List.length_cons, List.length_nil]; decide) ?_
  generalize hR : Ret _ _ _ _ _ = R_
  simp only [wz, wd, ws, seval, e_api_Ledger, e_api_Disk, e_api_Write]
  unfold f_ref10_Like at h; unfold c13
  refine .seq ?_
  refine Rw.walk ?_
  simp only [wz, wd, ws, seval, c13r0, semI.eq_10, semI.eq_11, semI.eq_3, semI.eq_5, semI.eq_7, e_api_Ledger, e_api_Disk, e_api_Write]
  refine .seq ?_
  refine Rw.walk ?_
  simp only [wz, wd, ws, seval, c13r1, semI.eq_10, semI.eq_11, semI.eq_3, semI.eq_5, semI.eq_7, e_api_Ledger, e_api_Disk, e_api_Write]
  obtain ⟨t, e1, h⟩ := Option.bind_eq_some_iff.1 h
  refine call_fun [] false ⟨trivial, trivial, trivial, trivial⟩ rfl ?_ (f_ref09_Like_ok _ _ _ e1) (fun _ => rfl) (fun i hi => by cases hi) ?_
  · simp only [wz, wd, ws, seval, e_api_Ledger, e_api_Disk, e_api_Write]
  simp only [wz, wd, ws, seval, c13r1, semI.eq_10, semI.eq_11, semI.eq_3, semI.eq_5, semI.eq_7, e_api_Ledger, e_api_Disk, e_api_Write]
  refine call_alt (v := .b (.s (.d (.int .i64 a.Half)))) rfl rfl (by simp only [wz, wd, ws, seval]) (fun q => ⟨_, by simp only [wz, wd, ws, seval, semI.eq_10, e_api_Ledger, e_api_Disk, e_api_Write], trivial⟩) ?_
  simp only [wz, wd, ws, seval, c13r1, semI.eq_10, semI.eq_11, semI.eq_3, semI.eq_5, semI.eq_7, e_api_Ledger, e_api_Disk, e_api_Write]
  refine call_alt (v := .b (.s (.d (.int .i64 b.Half)))) rfl rfl (by simp only [wz, wd, ws, seval]) (fun q => ⟨_, by simp only [wz, wd, ws, seval, semI.eq_10, e_api_Ledger, e_api_Disk, e_api_Write], trivial⟩) ?_
  simp only [wz, wd, ws, seval, c13r1, semI.eq_10, semI.eq_11, semI.eq_3, semI.eq_5, semI.eq_7, e_api_Ledger, e_api_Disk, e_api_Write]
  repeat (refine And.intro ?_ ?_; · first | omega | (simp only [List.length_append, List.length_cons, List.length_nil] at *; omega) | (intro q; simp only [wz, wd, ws, seval, q]; done))
  refine call_alt (v := .b (.s (.d (.int .i64 a.Gen)))) rfl rfl (by simp only [wz, wd, ws, seval]) (fun q => ⟨_, by simp only [wz, wd, ws, seval, semI.eq_10, e_api_Ledger, e_api_Disk, e_api_Write], trivial⟩) ?_
  simp only [wz, wd, ws, seval, c13r1, semI.eq_10, semI.eq_11, semI.eq_3, semI.eq_5, semI.eq_7, e_api_Ledger, e_api_Disk, e_api_Write]
  refine call_alt (v := .b (.s (.d (.int .i64 b.Gen)))) rfl rfl (by simp only [wz, wd, ws, seval]) (fun q => ⟨_, by simp only [wz, wd, ws, seval, semI.eq_10, e_api_Ledger, e_api_Disk, e_api_Write], trivial⟩) ?_
  simp only [wz, wd, ws, seval, c13r1, semI.eq_10, semI.eq_11, semI.eq_3, semI.eq_5, semI.eq_7, e_api_Ledger, e_api_Disk, e_api_Write]
  repeat (refine And.intro ?_ ?_; · first | omega | (simp only [List.length_append, List.length_cons, List.length_nil] at *; omega) | (intro q; simp only [wz, wd, ws, seval, q]; done))
  refine call_alt (v := .b (.s (.d (.int .i64 a.Used)))) rfl rfl (by simp only [wz, wd, ws, seval]) (fun q => ⟨_, by simp only [wz, wd, ws, seval, semI.eq_10, e_api_Ledger, e_api_Disk, e_api_Write], trivial⟩) ?_
  simp only [wz, wd, ws, seval, c13r1, semI.eq_10, semI.eq_11, semI.eq_3, semI.eq_5, semI.eq_7, e_api_Ledger, e_api_Disk, e_api_Write]
  refine call_alt (v := .b (.s (.d (.int .i64 b.Used)))) rfl rfl (by simp only [wz, wd, ws, seval]) (fun q => ⟨_, by simp only [wz, wd, ws, seval, semI.eq_10, e_api_Ledger, e_api_Disk, e_api_Write], trivial⟩) ?_
  simp only [wz, wd, ws, seval, c13r1, semI.eq_10, semI.eq_11, semI.eq_3, semI.eq_5, semI.eq_7, e_api_Ledger, e_api_Disk, e_api_Write]
  repeat (refine And.intro ?_ ?_; · first | omega | (simp only [List.length_append, List.length_cons, List.length_nil] at *; omega) | (intro q; simp only [wz, wd, ws, seval, q]; done))
  refine call_alt (v := .b (.s (.d (.sl (a.Entries.map eS))))) rfl rfl (by simp only [wz, wd, ws, seval]) (fun q => ⟨_, by simp only [wz, wd, ws, seval, semI.eq_10, e_api_Ledger, e_api_Disk, e_api_Write], trivial⟩) ?_
  simp only [wz, wd, ws, seval, c13r1, semI.eq_10, semI.eq_11, semI.eq_3, semI.eq_5, semI.eq_7, e_api_Ledger, e_api_Disk, e_api_Write]
  refine call_alt (v := .b (.s (.d (.sl (b.Entries.map eS))))) rfl rfl (by simp only [wz, wd, ws, seval]) (fun q => ⟨_, by simp only [wz, wd, ws, seval, semI.eq_10, e_api_Ledger, e_api_Disk, e_api_Write], trivial⟩) ?_
  simp only [wz, wd, ws, seval, c13r1, semI.eq_10, semI.eq_11, semI.eq_3, semI.eq_5, semI.eq_7, e_api_Ledger, e_api_Disk, e_api_Write]
  obtain ⟨t2, e2, h⟩ := Option.bind_eq_some_iff.1 h
  refine call_funG [] rfl (by simp only [wz, wd, ws, seval]) rfl ?_ (fun q => (f_ref01_Same_ok _ _ _ (gx_iff e2 (by simpa using q)))) rfl (fun i hi => by cases hi) ?_
  · simp only [wz, wd, ws, seval, e_api_Ledger, e_api_Disk, e_api_Write]
  simp only [wz, wd, ws, seval, c13r1, semI.eq_10, semI.eq_11, semI.eq_3, semI.eq_5, semI.eq_7, e_api_Ledger, e_api_Disk, e_api_Write]
  repeat (refine And.intro ?_ ?_; · first | omega | (simp only [List.length_append, List.length_cons, List.length_nil] at *; omega) | (intro q; simp only [wz, wd, ws, seval, q]; done))
  obtain rfl := Option.some.inj h
  refine .ret ?_
  rw [← hR]
  simp only [wz, wd, ws, seval, rv13, e_api_Ledger, e_api_Disk, e_api_Write]
end Go.Proofs.Ytjhelpeglgigbaa.V
end
