/- Go functions compute what Lean functions do. -/
import Derived.Test.YthcngbbceahdlaaDoorProg
import Derived.Test.YthcngbbceahdlaaDoorQCronParsesB
import Derived.Test.YthcngbbceahdlaaDoorQCronParsesC
import Derived.KernelRfl
section
/- Go functions compute what Lean functions do. -/
namespace Go.Proofs.YthcngbbceahdlaaDoor.V
open Go Go.RowKit
set_option linter.unusedVariables false
set_option linter.unusedSimpArgs false
set_option maxHeartbeats 1000000
set_option maxRecDepth 20000
theorem f_strings_Count_ok (s sub : Str) (y_ : Int) (h : f_strings_Count s sub = some y_) : Fun Tryd.prog glP 81 [.b (.s (.d (.str s))), .b (.s (.d (.str sub)))] (.b (.s (.d (.int .i64 y_)))) := by
  unfold f_strings_Count at h
  split at h
  · rename_i c
    obtain rfl := Option.some.inj h
    refine Fun.flat (by kernel_rfl) (of_int _ _) fun w S vs hA => ?_
    obtain ⟨v, u, rfl, h1, h2⟩ := args2 hA
    obtain rfl := repv_str (l := s) h1
    obtain rfl := repv_str (l := [c]) h2
    refine (Tryd.strings_Count_one ⟨⟨s⟩⟩ c w).mono fun e w' => ?_
    rintro ⟨rfl, rfl⟩
    exact ⟨rfl, Below.refl _ _⟩
  · cases h
theorem f_strings_explode_ok (s : Str) (n : Int) (y_ : List Str) (h : f_strings_explode s n = some y_) : Fun Tryd.prog glP 80 [.b (.s (.d (.str s))), .b (.s (.d (.int .i64 n)))] (.b (.s (.d (.sl (y_.map eS))))) := by cases h
theorem f_internal_stringslite_Index_ok (s sub : Str) (y_ : Int) (h : f_internal_stringslite_Index s sub = some y_) : Fun Tryd.prog glP 61 [.b (.s (.d (.str s))), .b (.s (.d (.str sub)))] (.b (.s (.d (.int .i64 y_)))) := by
  unfold f_internal_stringslite_Index at h
  split at h
  · rename_i c
    obtain rfl := Option.some.inj h
    refine Fun.flat (by kernel_rfl) (of_int _ _) fun w S vs hA => ?_
    obtain ⟨v, u, rfl, h1, h2⟩ := args2 hA
    obtain rfl := repv_str (l := s) h1
    obtain rfl := repv_str (l := [c]) h2
    refine (Tryd.stringslite_Index_one ⟨⟨s⟩⟩ c w).mono fun e w' => ?_
    rintro ⟨rfl, rfl⟩
    exact ⟨rfl, Below.refl _ _⟩
  · cases h
theorem f_strings_Trim_ok (s cs : Str) (y_ : Str) (h : f_strings_Trim s cs = some y_) : Fun Tryd.prog glP 91 [.b (.s (.d (.str s))), .b (.s (.d (.str cs)))] (.b (.s (.d (.str y_)))) := by
  obtain ⟨⟨h0, h1, h2⟩, h⟩ := gd_iff.1 h
  obtain rfl := Option.some.inj h
  refine Fun.flat (by kernel_rfl) (of_str _) fun w S vs hA => ?_
  obtain ⟨v, u, rfl, e1, e2⟩ := args2 hA
  obtain rfl := repv_str (l := s) e1
  obtain rfl := repv_str (l := cs) e2
  exact Any.strings_Trim_laid Tryd.lays160 (by kernel_rfl) ⟨⟨s⟩⟩ ⟨⟨cs⟩⟩ w (show s.length ≤ _ by omega) (show cs.length < _ by omega) (fun j b hj => of_decide_eq_true (List.all_eq_true.1 h2 b (List.mem_of_getElem? hj)))
-- 37 strings.Index
def c37r0 : List Opn := [
  ⟨(some 4), none, .mv (.c (.s (.d (.int .i64 0))))⟩]
def c37r1 : List Opn := [
  ⟨(some 5), none, .mv (.t 0)⟩, 
  ⟨(some 6), none, .mv (.t 1)⟩, 
  ⟨(some 7), none, .call (.fn 61) [(.t 5), (.t 6)]⟩, 
  ⟨(some 4), none, .mv (.t 7)⟩]
def c37 : C := .seq (.reg c37r0 none [0, 1]) (.seq (.reg c37r1 none [4]) (.ret))
def k37 : List (Nat × List Nat) := [(1, [4]), (0, [0, 1])]
theorem cc37 : (Tryd.f37.body).bind (cC Tryd.prog 8 k37) = some c37 := by kernel_rfl
def rv37 : List RV := [.t 4]
theorem cr37 : cRVs Tryd.prog Tryd.f37.results.toList = some rv37 := by kernel_rfl
theorem f_strings_Index_ok (s : Str) (substr : Str) (y_ : Int) (h : f_strings_Index s substr = some y_) : Fun Tryd.prog glP 37 [.b (.s (.d (.str s))), .b (.s (.d (.str substr)))] (.b (.s (.d (.int .i64 y_)))) := by
  refine fun_walk [] Tryd.func37 Tryd.ntmps37 cc37 cr37 (by kernel_rfl) (by simp only [List.length_cons, List.length_nil]; decide) ?_
  generalize hR : Ret _ _ _ _ _ = R_
  simp only [wz, wd, ws, seval]
  unfold f_strings_Index at h; unfold c37
  refine .seq ?_
  refine Rw.walk ?_
  simp only [wz, wd, ws, seval, c37r0, semI.eq_10, semI.eq_11, semI.eq_3, semI.eq_5, semI.eq_7]
  refine .seq ?_
  refine Rw.walk ?_
  simp only [wz, wd, ws, seval, c37r1, semI.eq_10, semI.eq_11, semI.eq_3, semI.eq_5, semI.eq_7]
  obtain ⟨t, e1, h⟩ := Option.bind_eq_some_iff.1 h
  refine call_fun [] false ⟨trivial, trivial, trivial, trivial⟩ rfl ?_ (f_internal_stringslite_Index_ok _ _ _ e1) (fun _ => rfl) (fun i hi => by cases hi) ?_
  · simp only [wz, wd, ws, seval]
  simp only [wz, wd, ws, seval, c37r1, semI.eq_10, semI.eq_11, semI.eq_3, semI.eq_5, semI.eq_7]
  obtain rfl := Option.some.inj h
  refine .ret ?_
  rw [← hR]
  simp only [wz, wd, ws, seval, rv37]
-- 67 strings.genSplit
def c67r0 : List Opn := [
  ⟨(some 8), none, .mv (.c (.s .nils))⟩]
def c67r1 : List Opn := [
  ⟨(some 12), none, .mv (.t 3)⟩, 
  ⟨(some 13), none, .bin .eql (.t 12) (.c (.s (.d (.int .i64 0))))⟩]
def c67r2 : List Opn := [
  ⟨(some 8), none, .mv (.c (.s .nils))⟩]
def c67r3 : List Opn := [
  ⟨(some 14), none, .mv (.t 1)⟩, 
  ⟨(some 15), none, .bin .eql (.t 14) (.c (.s (.d (.str []))))⟩]
def c67r4 : List Opn := [
  ⟨(some 16), none, .mv (.t 0)⟩, 
  ⟨(some 17), none, .mv (.t 3)⟩, 
  ⟨(some 18), none, .call (.fn 80) [(.t 16), (.t 17)]⟩, 
  ⟨(some 8), none, .mv (.t 18)⟩]
def c67r5 : List Opn := [
  ⟨(some 19), none, .mv (.t 3)⟩, 
  ⟨(some 20), none, .bin .lss (.t 19) (.c (.s (.d (.int .i64 0))))⟩]
def c67r6 : List Opn := [
  ⟨(some 21), none, .mv (.t 0)⟩, 
  ⟨(some 22), none, .mv (.t 1)⟩, 
  ⟨(some 23), none, .call (.fn 81) [(.t 21), (.t 22)]⟩, 
  ⟨(some 24), none, .bin .add (.t 23) (.c (.s (.d (.int .i64 1))))⟩, 
  ⟨(some 3), none, .mv (.t 24)⟩]
def c67r7 : List Opn := [
  ⟨(some 25), none, .mv (.t 3)⟩, 
  ⟨(some 26), none, .mv (.t 0)⟩, 
  ⟨(some 27), none, .len .str (.t 26)⟩, 
  ⟨(some 28), none, .bin .add (.t 27) (.c (.s (.d (.int .i64 1))))⟩, 
  ⟨(some 29), none, .mm false (.t 25) (.t 28)⟩, 
  ⟨(some 3), none, .mv (.t 29)⟩]
def c67r8 : List Opn := [
  ⟨(some 30), none, .mv (.t 3)⟩, 
  ⟨(some 31), none, .mksl 1 16 [(.d (.str []))] (.t 30) (.t 30)⟩, 
  ⟨(some 9), none, .mv (.t 31)⟩]
def c67r9 : List Opn := [
  ⟨(some 32), none, .mv (.t 3)⟩, 
  ⟨(some 33), none, .bin .sub (.t 32) (.c (.s (.d (.int .i64 1))))⟩, 
  ⟨(some 3), none, .mv (.t 33)⟩]
def c67r10 : List Opn := [
  ⟨(some 10), none, .mv (.c (.s (.d (.int .i64 0))))⟩]
def c67r11 : List Opn := [
  ⟨(some 34), none, .mv (.t 10)⟩, 
  ⟨(some 35), none, .mv (.t 3)⟩, 
  ⟨(some 36), none, .bin .lss (.t 34) (.t 35)⟩]
def c67r12 : List Opn := [
  ⟨(some 37), none, .mv (.t 0)⟩, 
  ⟨(some 38), none, .mv (.t 1)⟩, 
  ⟨(some 39), none, .call (.fn 37) [(.t 37), (.t 38)]⟩, 
  ⟨(some 11), none, .mv (.t 39)⟩]
def c67r13 : List Opn := [
  ⟨(some 40), none, .mv (.t 11)⟩, 
  ⟨(some 41), none, .bin .lss (.t 40) (.c (.s (.d (.int .i64 0))))⟩]
def c67r14 : List Opn := [
  ⟨(some 42), none, .mv (.t 9)⟩, 
  ⟨(some 43), none, .mv (.t 10)⟩, 
  ⟨(some 44), none, .mv (.t 0)⟩, 
  ⟨(some 45), none, .mv (.t 11)⟩, 
  ⟨(some 46), none, .mv (.t 2)⟩, 
  ⟨(some 47), none, .bin .add (.t 45) (.t 46)⟩, 
  ⟨(some 48), none, .slc .str (.t 44) none (some (.t 47)) none⟩, 
  ⟨(some 49), none, .iadr (.sl 1) (.t 42) (.t 43)⟩, 
  ⟨none, none, .store 1 (.t 49) (.t 48)⟩]
def c67r15 : List Opn := [
  ⟨(some 50), none, .mv (.t 0)⟩, 
  ⟨(some 51), none, .mv (.t 11)⟩, 
  ⟨(some 52), none, .mv (.t 1)⟩, 
  ⟨(some 53), none, .len .str (.t 52)⟩, 
  ⟨(some 54), none, .bin .add (.t 51) (.t 53)⟩, 
  ⟨(some 55), none, .slc .str (.t 50) (some (.t 54)) none none⟩, 
  ⟨(some 0), none, .mv (.t 55)⟩]
def c67r16 : List Opn := [
  ⟨(some 56), none, .mv (.t 10)⟩, 
  ⟨(some 57), none, .bin .add (.t 56) (.c (.s (.d (.int .i64 1))))⟩, 
  ⟨(some 10), none, .mv (.t 57)⟩]
def c67l17 : C := .seq (.seq (.reg c67r11 none [0, 1, 2, 3, 9, 10, 36]) (.cond (.t 36) (.skip) (.exit 0))) (.blk 1 (.seq (.reg c67r12 none [0, 1, 2, 3, 9, 10, 11]) (.seq (.seq (.reg c67r13 none [0, 1, 2, 3, 9, 10, 11, 41]) (.cond (.t 41) (.exit 0) (.skip))) (.seq (.reg c67r14 none [0, 1, 2, 3, 9, 10, 11]) (.seq (.reg c67r15 none [0, 1, 2, 3, 9, 10]) (.reg c67r16 none [0, 1, 2, 3, 9, 10]))))))
def c67r17 : List Opn := [
  ⟨(some 58), none, .mv (.t 9)⟩, 
  ⟨(some 59), none, .mv (.t 10)⟩, 
  ⟨(some 60), none, .mv (.t 0)⟩, 
  ⟨(some 61), none, .iadr (.sl 1) (.t 58) (.t 59)⟩, 
  ⟨none, none, .store 1 (.t 61) (.t 60)⟩]
def c67r18 : List Opn := [
  ⟨(some 62), none, .mv (.t 9)⟩, 
  ⟨(some 63), none, .mv (.t 10)⟩, 
  ⟨(some 64), none, .bin .add (.t 63) (.c (.s (.d (.int .i64 1))))⟩, 
  ⟨(some 65), none, .slc (.sl 1) (.t 62) none (some (.t 64)) none⟩, 
  ⟨(some 8), none, .mv (.t 65)⟩]
def c67 : C := .seq (.reg c67r0 none [0, 1, 2, 3]) (.seq (.seq (.reg c67r1 none [0, 1, 2, 3, 13]) (.cond (.t 13) (.seq (.reg c67r2 none [8]) (.ret)) (.skip))) (.seq (.seq (.reg c67r3 none [0, 1, 2, 3, 15]) (.cond (.t 15) (.seq (.reg c67r4 none [8]) (.ret)) (.skip))) (.seq (.seq (.reg c67r5 none [0, 1, 2, 3, 20]) (.cond (.t 20) (.reg c67r6 none [0, 1, 2, 3]) (.skip))) (.seq (.reg c67r7 none [0, 1, 2, 3]) (.seq (.reg c67r8 none [0, 1, 2, 3, 9]) (.seq (.reg c67r9 none [0, 1, 2, 3, 9]) (.seq (.reg c67r10 none [0, 1, 2, 3, 9, 10]) (.seq (.blk 0 (.loop c67l17)) (.seq (.reg c67r17 none [9, 10]) (.seq (.reg c67r18 none [8]) (.ret)))))))))))
def k67 : List (Nat × List Nat) := [(18, [8]), (17, [9, 10]), (16, [0, 1, 2, 3, 9, 10]), (15, [0, 1, 2, 3, 9, 10]), (14, [0, 1, 2, 3, 9, 10, 11]), (13, [0, 1, 2, 3, 9, 10, 11, 41]), (12, [0, 1, 2, 3, 9, 10, 11]), (11, [0, 1, 2, 3, 9, 10, 36]), (10, [0, 1, 2, 3, 9, 10]), (9, [0, 1, 2, 3, 9]), (8, [0, 1, 2, 3, 9]), (7, [0, 1, 2, 3]), (6, [0, 1, 2, 3]), (5, [0, 1, 2, 3, 20]), (4, [8]), (3, [0, 1, 2, 3, 15]), (2, [8]), (1, [0, 1, 2, 3, 13]), (0, [0, 1, 2, 3])]
theorem cc67 : (Tryd.f67.body).bind (cC Tryd.prog 66 k67) = some c67 := by kernel_rfl
def rv67 : List RV := [.t 8]
theorem cr67 : cRVs Tryd.prog Tryd.f67.results.toList = some rv67 := by kernel_rfl
theorem f_strings_genSplit_l17_ok (s : Str) (sep : Str) (sepSave : Int) (n2 : Int) (y_ : (List Str)) (R_ : St → Prop) (hR : (Ret Tryd.prog glP [] rv67 (.b (.s (.d (.sl (y_.map eS)))))) = R_) : ∀ (m_ : Nat) (s3 : Str) (i : Int) (a : (List Str)) (res_ : Str × Int × (List Str)) (h : f_strings_genSplit_l17 s sep sepSave n2 m_ s3 i a = some res_) (k_ : List It) (hx : ∀ s_ : Str × Int × (List Str), res_ = s_ → W Tryd.prog glP 66 k_ ⟨lkT [(0, .b (.s (.d (.str s_.1)))), (1, .b (.s (.d (.str sep)))), (2, .b (.s (.d (.int .i64 sepSave)))), (3, .b (.s (.d (.int .i64 (IntKind.i64.wrap (n2 - 1)))))), (9, .b (.s (.own 31 s_.2.2.length))), (10, .b (.s (.d (.int .i64 s_.2.1))))], lkG [(31, ⟨1, er eS s_.2.2, false⟩)]⟩ R_), W Tryd.prog glP 66 (.c c67l17 :: .lp c67l17 :: .blk 0 :: k_) ⟨lkT [(0, .b (.s (.d (.str s3)))), (1, .b (.s (.d (.str sep)))), (2, .b (.s (.d (.int .i64 sepSave)))), (3, .b (.s (.d (.int .i64 (IntKind.i64.wrap (n2 - 1)))))), (9, .b (.s (.own 31 a.length))), (10, .b (.s (.d (.int .i64 i))))], lkG [(31, ⟨1, er eS a, false⟩)]⟩ R_ := by
  intro m_; induction m_ with
  | zero => intro s3 i a res_ h; rw [f_strings_genSplit_l17.eq_1] at h; cases h
  | succ m_ ih =>
    intro s3 i a res_ h k_ hx; rw [f_strings_genSplit_l17.eq_2] at h; refine W.cdef c67l17.eq_1 ?_
    refine .seq ?_
    refine .seq ?_
    refine Rw.walk ?_
    simp only [wz, wd, ws, seval, c67r11, semI.eq_10, semI.eq_11, semI.eq_3, semI.eq_5, semI.eq_7]
    refine .cond (p := (decide (i < (IntKind.i64.wrap (n2 - 1))))) (by first | rfl | simp only [wz, wd, ws, seval]) (fun h1 => ?_) (fun h1 => ?_)
    · rw [ite_t h1] at h
      refine .skip ?_
      refine .blk ?_
      refine .seq ?_
      refine Rw.walk ?_
      simp only [wz, wd, ws, seval, c67r12, semI.eq_10, semI.eq_11, semI.eq_3, semI.eq_5, semI.eq_7]
      obtain ⟨t, e4, h⟩ := Option.bind_eq_some_iff.1 h
      refine call_fun [] false ⟨trivial, trivial, trivial, trivial⟩ rfl ?_ (f_strings_Index_ok _ _ _ e4) (fun _ => rfl) (fun i hi => by cases hi) ?_
      · simp only [wz, wd, ws, seval]
      simp only [wz, wd, ws, seval, c67r12, semI.eq_10, semI.eq_11, semI.eq_3, semI.eq_5, semI.eq_7]
      refine .seq ?_
      refine .seq ?_
      refine Rw.walk ?_
      simp only [wz, wd, ws, seval, c67r13, semI.eq_10, semI.eq_11, semI.eq_3, semI.eq_5, semI.eq_7]
      refine .cond (p := (decide (t < 0))) (by first | rfl | simp only [wz, wd, ws, seval]) (fun h1 => ?_) (fun h1 => ?_)
      · rw [ite_t h1] at h
        refine .exit rfl ?_
        obtain rfl := Option.some.inj h
        refine .weak (Imp.co [] _ _ ?_ ?_ ?_ ?_ ?_) (hx _ rfl) <;> simp only [wz, wd, ws, seval, wi, er_nil]
      · rw [ite_f h1] at h
        refine .skip ?_
        refine .seq ?_
        refine Rw.walk ?_
        obtain ⟨g5, h⟩ := gd_iff.1 h
        simp only [wz, wd, ws, seval, c67r14, semI.eq_3, semI.eq_5, semI.eq_7]
        repeat (refine And.intro ?_ ?_; · first | omega | (simp only [List.length_append, List.length_cons, List.length_nil] at *; omega) | (simp only [List.map_cons, List.map_nil] at *; omega) | (intro q; simp only [wz, wd, ws, seval, q]; done))
        obtain ⟨x, e6, h⟩ := Option.bind_eq_some_iff.1 h
        refine Go1.of (sem_iadrO (l := a) e6 (by rfl) (by rfl) (by rfl)) ?_
        simp only [wz, wd, ws, seval, c67r14, semI.eq_3, semI.eq_5, semI.eq_7, er_get e6]
        refine Go1.of (sem_store (enc := eS) (l := a) (a := x) (a' := (cut s3 0 (IntKind.i64.wrap (t + sepSave)))) (v := .b (.s (.d (.str (cut s3 0 (IntKind.i64.wrap (t + sepSave))))))) (by rfl) (by rfl) (er_get e6) (by rfl) (by trivial) (by rfl) (Nat.le_of_ble_eq_true (by rfl)) (by rfl)) ?_
        simp only [wz, wd, ws, seval, c67r14, semI.eq_3, semI.eq_5, semI.eq_7, er_get e6]
        refine .seq ?_
        refine Rw.walk ?_
        obtain ⟨g7, h⟩ := gd_iff.1 h
        simp only [wz, wd, ws, seval, c67r15, semI.eq_10, semI.eq_11, semI.eq_3, semI.eq_5, semI.eq_7, er_get e6]
        repeat (refine And.intro ?_ ?_; · first | omega | (simp only [List.length_append, List.length_cons, List.length_nil] at *; omega) | (simp only [List.map_cons, List.map_nil] at *; omega) | (intro q; simp only [wz, wd, ws, seval, q]; done))
        refine Rw.walk ?_
        simp only [wz, wd, ws, seval, c67r16, semI.eq_10, semI.eq_11, semI.eq_3, semI.eq_5, semI.eq_7, er_get e6]
        refine .eblk ?_
        refine .lp ?_
        refine .weak (Imp.co [] _ _ ?_ ?_ ?_ ?_ ?_) (ih (cut s3 (IntKind.i64.wrap (t + (sep.length : Int))) (s3.length : Int)) (IntKind.i64.wrap (i + 1)) (a.set i.toNat (cut s3 0 (IntKind.i64.wrap (t + sepSave)))) _ h k_ hx) <;> simp only [wz, wd, ws, seval, wi, er_nil]
    · rw [ite_f h1] at h
      refine .exit rfl ?_
      obtain rfl := Option.some.inj h
      refine .weak (Imp.co [] _ _ ?_ ?_ ?_ ?_ ?_) (hx _ rfl) <;> simp only [wz, wd, ws, seval, wi, er_nil]
theorem f_strings_genSplit_ok (s : Str) (sep : Str) (sepSave : Int) (n : Int) (y_ : (List Str)) (h : f_strings_genSplit s sep sepSave n = some y_) : Fun Tryd.prog glP 67 [.b (.s (.d (.str s))), .b (.s (.d (.str sep))), .b (.s (.d (.int .i64 sepSave))), .b (.s (.d (.int .i64 n)))] (.b (.s (.d (.sl (y_.map eS))))) := by
  refine fun_walk [] Tryd.func67 Tryd.ntmps67 cc67 cr67 (by kernel_rfl) (by simp only [List.length_cons, List.length_nil]; decide) ?_
  generalize hR : Ret _ _ _ _ _ = R_
  simp only [wz, wd, ws, seval]
  unfold f_strings_genSplit at h; unfold c67
  refine .seq ?_
  refine Rw.walk ?_
  simp only [wz, wd, ws, seval, c67r0, semI.eq_10, semI.eq_11, semI.eq_3, semI.eq_5, semI.eq_7]
  refine .seq ?_
  refine .seq ?_
  refine Rw.walk ?_
  simp only [wz, wd, ws, seval, c67r1, semI.eq_10, semI.eq_11, semI.eq_3, semI.eq_5, semI.eq_7]
  refine .cond (p := (n == 0)) (by first | rfl | simp only [wz, wd, ws, seval]) (fun h1 => ?_) (fun h1 => ?_)
  · rw [ite_t h1] at h
    refine .seq ?_
    refine Rw.walk ?_
    simp only [wz, wd, ws, seval, c67r2, semI.eq_10, semI.eq_11, semI.eq_3, semI.eq_5, semI.eq_7]
    obtain rfl := Option.some.inj h
    refine .ret ?_
    rw [← hR]
    simp only [wz, wd, ws, seval, rv67]
  · rw [ite_f h1] at h
    refine .skip ?_
    refine .seq ?_
    refine .seq ?_
    refine Rw.walk ?_
    simp only [wz, wd, ws, seval, c67r3, semI.eq_10, semI.eq_11, semI.eq_3, semI.eq_5, semI.eq_7]
    refine .cond (p := (sep == ([] : Str))) (by first | rfl | simp only [wz, wd, ws, seval]) (fun h1 => ?_) (fun h1 => ?_)
    · rw [ite_t h1] at h
      refine .seq ?_
      refine Rw.walk ?_
      simp only [wz, wd, ws, seval, c67r4, semI.eq_10, semI.eq_11, semI.eq_3, semI.eq_5, semI.eq_7]
      obtain ⟨t, e1, h⟩ := Option.bind_eq_some_iff.1 h
      refine call_fun [] true ⟨trivial, trivial, trivial, trivial⟩ rfl ?_ (f_strings_explode_ok _ _ _ e1) (fun h => by cases h) (fun i hi => by cases hi) ?_
      · simp only [wz, wd, ws, seval]
      simp only [wz, wd, ws, seval, c67r4, semI.eq_10, semI.eq_11, semI.eq_3, semI.eq_5, semI.eq_7]
      obtain rfl := Option.some.inj h
      refine .ret ?_
      rw [← hR]
      simp only [wz, wd, ws, seval, rv67]
    · rw [ite_f h1] at h
      refine .skip ?_
      refine .seq ?_
      obtain ⟨s2, hf, h⟩ := Option.bind_eq_some_iff.1 h
      refine W.cut1 ⟨lkT [(0, .b (.s (.d (.str s)))), (1, .b (.s (.d (.str sep)))), (2, .b (.s (.d (.int .i64 sepSave)))), (3, .b (.s (.d (.int .i64 s2))))], lkG []⟩ ?_ (fun tail => ?_)
      · skip
        refine .seq ?_
        refine Rw.walk ?_
        simp only [wz, wd, ws, seval, c67r7, semI.eq_10, semI.eq_11, semI.eq_3, semI.eq_5, semI.eq_7]
        obtain ⟨n2, e2, h⟩ := Option.bind_eq_some_iff.1 h
        replace e2 := Option.some.inj e2
        first | simp only [e2] | (simp only [wz, wd, ws, seval] at e2; simp only [e2])
        refine .seq ?_
        refine Rw.walk ?_
        simp only [wz, wd, ws, seval, c67r8, semI.eq_10, semI.eq_11, semI.eq_3, semI.eq_5, semI.eq_7]
        obtain ⟨g3, h⟩ := gd_iff.1 h
        repeat (refine And.intro ?_ ?_; · first | omega | (simp only [List.length_append, List.length_cons, List.length_nil] at *; omega) | (simp only [List.map_cons, List.map_nil] at *; omega) | (intro q; simp only [wz, wd, ws, seval, q]; done))
        refine Go1.of (sem_mksl (enc := eS) (z1 := []) (p := n2) (q := n2) (by rfl) (by rfl) (by rfl) (by rfl) (by rfl)) ?_
        simp only [wz, wd, ws, seval, c67r8, semI.eq_10, semI.eq_11, semI.eq_3, semI.eq_5, semI.eq_7]
        repeat (refine And.intro ?_ ?_; · first | omega | (simp only [List.length_append, List.length_cons, List.length_nil] at *; omega) | (simp only [List.map_cons, List.map_nil] at *; omega) | (intro q; simp only [wz, wd, ws, seval, q]; done))
        refine .seq ?_
        refine Rw.walk ?_
        simp only [wz, wd, ws, seval, c67r9, semI.eq_10, semI.eq_11, semI.eq_3, semI.eq_5, semI.eq_7]
        refine .seq ?_
        refine Rw.walk ?_
        simp only [wz, wd, ws, seval, c67r10, semI.eq_10, semI.eq_11, semI.eq_3, semI.eq_5, semI.eq_7]
        refine .seq ?_
        refine .blk ?_
        obtain ⟨s3, hf, h⟩ := Option.bind_eq_some_iff.1 h
        refine .loop (.weak (Imp.co [] _ _ ?c1 ?c2 ?c3 ?c4 ?c5) (f_strings_genSplit_l17_ok s sep sepSave n2 _ _ hR _ _ _ _ _ hf _ ?_))
        case c1 | c2 | c3 | c4 | c5 => simp only [wz, wd, ws, seval, wi, er_nil]
        · intro s3_ hs; subst hs
          refine .seq ?_
          refine Rw.walk ?_
          simp only [wz, wd, ws, seval, c67r17, semI.eq_3, semI.eq_5, semI.eq_7]
          obtain ⟨x, e8, h⟩ := Option.bind_eq_some_iff.1 h
          refine Go1.of (sem_iadrO (l := s3.2.2) e8 (by rfl) (by rfl) (by rfl)) ?_
          simp only [wz, wd, ws, seval, c67r17, semI.eq_3, semI.eq_5, semI.eq_7, er_get e8]
          refine Go1.of (sem_store (enc := eS) (l := s3.2.2) (a := x) (a' := s3.1) (v := .b (.s (.d (.str s3.1)))) (by rfl) (by rfl) (er_get e8) (by rfl) (by trivial) (by rfl) (Nat.le_of_ble_eq_true (by rfl)) (by rfl)) ?_
          simp only [wz, wd, ws, seval, c67r17, semI.eq_3, semI.eq_5, semI.eq_7, er_get e8]
          refine .seq ?_
          refine .weak (Imp.co [31] [(9, .b (.s (.d (.sl ((s3.2.2.set s3.2.1.toNat s3.1).map eS))))), (10, .b (.s (.d (.int .i64 s3.2.1))))] [] ?c1 ?c2 ?c3 ?c4 ?c5) ?c6
          case c1 | c2 | c3 | c4 | c5 => simp only [wz, wd, ws, seval, wi, er_nil]
          refine Rw.walk ?_
          simp only [wz, wd, ws, seval, c67r18, semI.eq_10, semI.eq_11, semI.eq_3, semI.eq_5, semI.eq_7, er_get e8]
          obtain ⟨g9, h⟩ := gd_iff.1 h
          repeat (refine And.intro ?_ ?_; · first | omega | (simp only [List.length_append, List.length_cons, List.length_nil] at *; omega) | (simp only [List.map_cons, List.map_nil] at *; omega) | (intro q; simp only [wz, wd, ws, seval, q]; done))
          refine Go1.of (sem_slc (p := 0) (q := (IntKind.i64.wrap (s3.2.1 + 1))) eS_len (by rfl) (by rfl) (by rfl)) ?_
          simp only [wz, wd, ws, seval, c67r18, semI.eq_10, semI.eq_11, semI.eq_3, semI.eq_5, semI.eq_7, er_get e8]
          repeat (refine And.intro ?_ ?_; · first | omega | (simp only [List.length_append, List.length_cons, List.length_nil] at *; omega) | (simp only [List.map_cons, List.map_nil] at *; omega) | (intro q; simp only [wz, wd, ws, seval, q]; done))
          obtain rfl := Option.some.inj h
          refine .ret ?_
          rw [← hR]
          simp only [wz, wd, ws, seval, rv67, er_get e8]
      replace h := hf
      refine .seq ?_
      refine Rw.walk ?_
      simp only [wz, wd, ws, seval, c67r5, semI.eq_10, semI.eq_11, semI.eq_3, semI.eq_5, semI.eq_7]
      refine .cond (p := (decide (n < 0))) (by first | rfl | simp only [wz, wd, ws, seval]) (fun h1 => ?_) (fun h1 => ?_)
      · rw [ite_t h1] at h
        refine Rw.walk ?_
        simp only [wz, wd, ws, seval, c67r6, semI.eq_10, semI.eq_11, semI.eq_3, semI.eq_5, semI.eq_7]
        obtain ⟨t, e10, h⟩ := Option.bind_eq_some_iff.1 h
        refine call_fun [] false ⟨trivial, trivial, trivial, trivial⟩ rfl ?_ (f_strings_Count_ok _ _ _ e10) (fun _ => rfl) (fun i hi => by cases hi) ?_
        · simp only [wz, wd, ws, seval]
        simp only [wz, wd, ws, seval, c67r6, semI.eq_10, semI.eq_11, semI.eq_3, semI.eq_5, semI.eq_7]
        obtain rfl := Option.some.inj h
        refine .weak (Imp.co [] _ _ ?_ ?_ ?_ ?_ ?_) (tail) <;> simp only [wz, wd, ws, seval, wi, er_nil]
      · rw [ite_f h1] at h
        refine .skip ?_
        obtain rfl := Option.some.inj h
        refine .weak (Imp.co [] _ _ ?_ ?_ ?_ ?_ ?_) (tail) <;> simp only [wz, wd, ws, seval, wi, er_nil]
-- 46 strings.Split
def c46r0 : List Opn := [
  ⟨(some 4), none, .mv (.c (.s .nils))⟩]
def c46r1 : List Opn := [
  ⟨(some 5), none, .mv (.t 0)⟩, 
  ⟨(some 6), none, .mv (.t 1)⟩, 
  ⟨(some 7), none, .call (.fn 67) [(.t 5), (.t 6), (.c (.s (.d (.int .i64 0)))), (.c (.s (.d (.int .i64 (-1)))))]⟩, 
  ⟨(some 4), none, .mv (.t 7)⟩]
def c46 : C := .seq (.reg c46r0 none [0, 1]) (.seq (.reg c46r1 none [4]) (.ret))
def k46 : List (Nat × List Nat) := [(1, [4]), (0, [0, 1])]
theorem cc46 : (Tryd.f46.body).bind (cC Tryd.prog 8 k46) = some c46 := by kernel_rfl
def rv46 : List RV := [.t 4]
theorem cr46 : cRVs Tryd.prog Tryd.f46.results.toList = some rv46 := by kernel_rfl
theorem f_strings_Split_ok (s : Str) (sep : Str) (y_ : (List Str)) (h : f_strings_Split s sep = some y_) : Fun Tryd.prog glP 46 [.b (.s (.d (.str s))), .b (.s (.d (.str sep)))] (.b (.s (.d (.sl (y_.map eS))))) := by
  refine fun_walk [] Tryd.func46 Tryd.ntmps46 cc46 cr46 (by kernel_rfl) (by simp only [List.length_cons, List.length_nil]; decide) ?_
  generalize hR : Ret _ _ _ _ _ = R_
  simp only [wz, wd, ws, seval]
  unfold f_strings_Split at h; unfold c46
  refine .seq ?_
  refine Rw.walk ?_
  simp only [wz, wd, ws, seval, c46r0, semI.eq_10, semI.eq_11, semI.eq_3, semI.eq_5, semI.eq_7]
  refine .seq ?_
  refine Rw.walk ?_
  simp only [wz, wd, ws, seval, c46r1, semI.eq_10, semI.eq_11, semI.eq_3, semI.eq_5, semI.eq_7]
  obtain ⟨t, e1, h⟩ := Option.bind_eq_some_iff.1 h
  refine call_fun [] true ⟨trivial, trivial, trivial, trivial, trivial, trivial⟩ rfl ?_ (f_strings_genSplit_ok _ _ _ _ _ e1) (fun h => by cases h) (fun i hi => by cases hi) ?_
  · simp only [wz, wd, ws, seval]
  simp only [wz, wd, ws, seval, c46r1, semI.eq_10, semI.eq_11, semI.eq_3, semI.eq_5, semI.eq_7]
  obtain rfl := Option.some.inj h
  refine .ret ?_
  rw [← hR]
  simp only [wz, wd, ws, seval, rv46]
-- 47 consignor/cron.fields
def c47r0 : List Opn := [
  ⟨(some 0), none, .new [(.d (.int .i64 0)), (.d (.int .i64 0)), (.d (.int .i64 0)), (.d (.int .i64 0)), (.d (.int .i64 0)), (.d (.int .i64 0)), (.d (.int .i64 0)), (.d (.int .i64 0)), (.d (.int .i64 0)), (.d (.int .i64 0))]⟩]
def c47r1 : List Opn := [
  ⟨(some 1), none, .build [(.d (.int .i64 0)), (.d (.int .i64 0))] [(0, 1, (.c (.s (.d (.int .i64 0))))), (1, 1, (.c (.s (.d (.int .i64 59)))))]⟩, 
  ⟨(some 2), none, .build [(.d (.int .i64 0)), (.d (.int .i64 0))] [(0, 1, (.c (.s (.d (.int .i64 0))))), (1, 1, (.c (.s (.d (.int .i64 23)))))]⟩, 
  ⟨(some 3), none, .build [(.d (.int .i64 0)), (.d (.int .i64 0))] [(0, 1, (.c (.s (.d (.int .i64 1))))), (1, 1, (.c (.s (.d (.int .i64 31)))))]⟩, 
  ⟨(some 4), none, .build [(.d (.int .i64 0)), (.d (.int .i64 0))] [(0, 1, (.c (.s (.d (.int .i64 1))))), (1, 1, (.c (.s (.d (.int .i64 12)))))]⟩, 
  ⟨(some 5), none, .build [(.d (.int .i64 0)), (.d (.int .i64 0))] [(0, 1, (.c (.s (.d (.int .i64 0))))), (1, 1, (.c (.s (.d (.int .i64 6)))))]⟩, 
  ⟨(some 6), none, .build [(.d (.int .i64 0)), (.d (.int .i64 0)), (.d (.int .i64 0)), (.d (.int .i64 0)), (.d (.int .i64 0)), (.d (.int .i64 0)), (.d (.int .i64 0)), (.d (.int .i64 0)), (.d (.int .i64 0)), (.d (.int .i64 0))] [(0, 2, (.t 1)), (2, 2, (.t 2)), (4, 2, (.t 3)), (6, 2, (.t 4)), (8, 2, (.t 5))]⟩, 
  ⟨none, none, .store 10 (.t 0) (.t 6)⟩]
def c47 : C := .seq (.reg c47r0 none [0]) (.seq (.reg c47r1 none [0]) (.ret))
def k47 : List (Nat × List Nat) := [(1, [0]), (0, [0])]
theorem cc47 : (Tryd.f47.body).bind (cC Tryd.prog 7 k47) = some c47 := by kernel_rfl
def rv47 : List RV := [.c 0 true 10]
theorem cr47 : cRVs Tryd.prog Tryd.f47.results.toList = some rv47 := by kernel_rfl
theorem f_cron_fields_ok (y_ : (List cron_bounds)) (h : f_cron_fields = some y_) : Fun Tryd.prog glP 47 [] (.b (.agg (ea e_cron_bounds y_))) := by
  refine fun_walk [] Tryd.func47 Tryd.ntmps47 cc47 cr47 (by kernel_rfl) (by simp only [List.length_cons, List.length_nil]; decide) ?_
  generalize hR : Ret _ _ _ _ _ = R_
  simp only [wz, wd, ws, seval, e_cron_bounds]
  unfold f_cron_fields at h; unfold c47
  refine .seq ?_
  refine Rw.walk ?_
  simp only [wz, wd, ws, seval, c47r0, semI.eq_10, semI.eq_11, e_cron_bounds]
  refine Go1.of (sem_newA (enc := e_cron_bounds) (l := (List.replicate 5 default)) (by first | rfl | (simp only [List.length_map, List.length_replicate, List.length_set]; rfl)) (by first | rfl | (simp only [List.length_map, List.length_replicate, List.length_set]; rfl)) (by first | rfl | (simp only [List.length_map, List.length_replicate, List.length_set]; rfl))) ?_
  simp only [wz, wd, ws, seval, c47r0, semI.eq_10, semI.eq_11, e_cron_bounds]
  refine .seq ?_
  refine Rw.walk ?_
  simp only [wz, wd, ws, seval, c47r1, e_cron_bounds]
  refine Go1.of (semI.eq_7 ..) ?_
  simp only [wz, wd, ws, seval, c47r1, e_cron_bounds]
  refine Go1.of (semI.eq_7 ..) ?_
  simp only [wz, wd, ws, seval, c47r1, e_cron_bounds]
  refine Go1.of (semI.eq_7 ..) ?_
  simp only [wz, wd, ws, seval, c47r1, e_cron_bounds]
  refine Go1.of (semI.eq_7 ..) ?_
  simp only [wz, wd, ws, seval, c47r1, e_cron_bounds]
  refine Go1.of (semI.eq_7 ..) ?_
  simp only [wz, wd, ws, seval, c47r1, e_cron_bounds]
  refine Go1.of (sem_buildA (enc := e_cron_bounds) (l := ([(cron_bounds.mk 0 59), (cron_bounds.mk 0 23), (cron_bounds.mk 1 31), (cron_bounds.mk 1 12), (cron_bounds.mk 0 6)] : (List cron_bounds))) (by simp only [wz, wd, ws, seval, e_cron_bounds]) (by simp only [wz, wd, ws, seval, e_cron_bounds]) (by simp only [wz, wd, ws, seval, ea_nil, ea_cons, e_cron_bounds])) ?_
  simp only [wz, wd, ws, seval, c47r1, e_cron_bounds]
  refine Go1.of (sem_storeW (l := (List.replicate 5 default)) (m := ([(cron_bounds.mk 0 59), (cron_bounds.mk 0 23), (cron_bounds.mk 1 31), (cron_bounds.mk 1 12), (cron_bounds.mk 0 6)] : (List cron_bounds))) (n0 := 5) e_cron_bounds_len (by first | rfl | (simp only [List.length_map, List.length_replicate, List.length_set]; rfl)) (by first | rfl | (simp only [List.length_map, List.length_replicate, List.length_set]; rfl)) (by first | rfl | (simp only [List.length_map, List.length_replicate, List.length_set]; rfl)) (by first | exact trivial | exact Eq.refl _) (by first | rfl | (simp only [List.length_map, List.length_replicate, List.length_set]; rfl)) (by first | exact trivial | exact Eq.refl _)) ?_
  simp only [wz, wd, ws, seval, c47r1, e_cron_bounds]
  obtain ⟨gr, h⟩ := gd_iff.1 h
  obtain rfl := Option.some.inj h
  refine .ret ?_
  rw [← hR]
  exact ret_cellA (n0 := 5) e_cron_bounds_len (by rfl) (by rfl) (by rfl) (by first | exact gr | exact Eq.refl _)
-- 74 internal/stringslite.Cut
def c74r0 : List Opn := [
  ⟨(some 4), none, .mv (.c (.s (.d (.str []))))⟩, 
  ⟨(some 5), none, .mv (.c (.s (.d (.str []))))⟩, 
  ⟨(some 6), none, .mv (.c (.s (.d (.bool false))))⟩]
def c74r1 : List Opn := [
  ⟨(some 8), none, .mv (.t 0)⟩, 
  ⟨(some 9), none, .mv (.t 1)⟩, 
  ⟨(some 10), none, .call (.fn 61) [(.t 8), (.t 9)]⟩, 
  ⟨(some 7), none, .mv (.t 10)⟩]
def c74r2 : List Opn := [
  ⟨(some 11), none, .mv (.t 7)⟩, 
  ⟨(some 12), none, .bin .geq (.t 11) (.c (.s (.d (.int .i64 0))))⟩]
def c74r3 : List Opn := [
  ⟨(some 13), none, .mv (.t 0)⟩, 
  ⟨(some 14), none, .mv (.t 7)⟩, 
  ⟨(some 15), none, .slc .str (.t 13) none (some (.t 14)) none⟩, 
  ⟨(some 16), none, .mv (.t 0)⟩, 
  ⟨(some 17), none, .mv (.t 7)⟩, 
  ⟨(some 18), none, .mv (.t 1)⟩, 
  ⟨(some 19), none, .len .str (.t 18)⟩, 
  ⟨(some 20), none, .bin .add (.t 17) (.t 19)⟩, 
  ⟨(some 21), none, .slc .str (.t 16) (some (.t 20)) none none⟩, 
  ⟨(some 4), none, .mv (.t 15)⟩, 
  ⟨(some 5), none, .mv (.t 21)⟩, 
  ⟨(some 6), none, .mv (.c (.s (.d (.bool true))))⟩]
def c74r4 : List Opn := [
  ⟨(some 22), none, .mv (.t 0)⟩, 
  ⟨(some 4), none, .mv (.t 22)⟩, 
  ⟨(some 5), none, .mv (.c (.s (.d (.str []))))⟩, 
  ⟨(some 6), none, .mv (.c (.s (.d (.bool false))))⟩]
def c74 : C := .seq (.reg c74r0 none [0, 1]) (.seq (.seq (.reg c74r1 none [0, 1, 7]) (.seq (.reg c74r2 none [0, 1, 7, 12]) (.cond (.t 12) (.seq (.reg c74r3 (some [0, 0, 3, 0, 0, 0, 32, 112, 248, 7, 1023, 2047]) [4, 5, 6]) (.ret)) (.skip)))) (.seq (.reg c74r4 none [4, 5, 6]) (.ret)))
def k74 : List (Nat × List Nat) := [(4, [4, 5, 6]), (3, [4, 5, 6]), (2, [0, 1, 7, 12]), (1, [0, 1, 7]), (0, [0, 1])]
theorem cc74 : (Tryd.f74.body).bind (cC Tryd.prog 23 k74) = some c74 := by kernel_rfl
def rv74 : List RV := [.t 4, .t 5, .t 6]
theorem cr74 : cRVs Tryd.prog Tryd.f74.results.toList = some rv74 := by kernel_rfl
theorem f_internal_stringslite_Cut_ok (s : Str) (sep : Str) (y_ : Str × Str × Bool) (h : f_internal_stringslite_Cut s sep = some y_) : Fun Tryd.prog glP 74 [.b (.s (.d (.str s))), .b (.s (.d (.str sep)))] (.tup [.s (.d (.str y_.1)), .s (.d (.str y_.2.1)), .s (.d (.bool y_.2.2))]) := by
  refine fun_walk [] Tryd.func74 Tryd.ntmps74 cc74 cr74 (by kernel_rfl) (by simp only [List.length_cons, List.length_nil]; decide) ?_
  generalize hR : Ret _ _ _ _ _ = R_
  simp only [wz, wd, ws, seval]
  unfold f_internal_stringslite_Cut at h; unfold c74
  refine .seq ?_
  refine Rw.walk ?_
  simp only [wz, wd, ws, seval, c74r0, semI.eq_10, semI.eq_11, semI.eq_3, semI.eq_5, semI.eq_7]
  refine .seq ?_
  refine .seq ?_
  refine Rw.walk ?_
  simp only [wz, wd, ws, seval, c74r1, semI.eq_10, semI.eq_11, semI.eq_3, semI.eq_5, semI.eq_7]
  obtain ⟨t, e1, h⟩ := Option.bind_eq_some_iff.1 h
  refine call_fun [] false ⟨trivial, trivial, trivial, trivial⟩ rfl ?_ (f_internal_stringslite_Index_ok _ _ _ e1) (fun _ => rfl) (fun i hi => by cases hi) ?_
  · simp only [wz, wd, ws, seval]
  simp only [wz, wd, ws, seval, c74r1, semI.eq_10, semI.eq_11, semI.eq_3, semI.eq_5, semI.eq_7]
  refine .seq ?_
  refine Rw.walk ?_
  simp only [wz, wd, ws, seval, c74r2, semI.eq_10, semI.eq_11, semI.eq_3, semI.eq_5, semI.eq_7]
  refine .cond (p := (decide (t ≥ 0))) (by first | rfl | simp only [wz, wd, ws, seval]) (fun h1 => ?_) (fun h1 => ?_)
  · rw [ite_t h1] at h
    refine .seq ?_
    refine RwD.walk ?_
    obtain ⟨g2, h⟩ := gd_iff.1 h
    obtain ⟨g3, h⟩ := gd_iff.1 h
    simp only [wz, wd, ws, seval, c74r3, semI.eq_10, semI.eq_11, semI.eq_3, semI.eq_5, semI.eq_7]
    repeat (refine And.intro ?_ ?_; · first | omega | (simp only [List.length_append, List.length_cons, List.length_nil] at *; omega) | (simp only [List.map_cons, List.map_nil] at *; omega) | (intro q; simp only [wz, wd, ws, seval, q]; done))
    obtain rfl := Option.some.inj h
    refine .ret ?_
    rw [← hR]
    simp only [wz, wd, ws, seval, rv74]
  · rw [ite_f h1] at h
    refine .skip ?_
    refine .seq ?_
    refine Rw.walk ?_
    simp only [wz, wd, ws, seval, c74r4, semI.eq_10, semI.eq_11, semI.eq_3, semI.eq_5, semI.eq_7]
    obtain rfl := Option.some.inj h
    refine .ret ?_
    rw [← hR]
    simp only [wz, wd, ws, seval, rv74]
-- 59 strings.Cut
def c59r0 : List Opn := [
  ⟨(some 4), none, .mv (.c (.s (.d (.str []))))⟩, 
  ⟨(some 5), none, .mv (.c (.s (.d (.str []))))⟩, 
  ⟨(some 6), none, .mv (.c (.s (.d (.bool false))))⟩]
def c59r1 : List Opn := [
  ⟨(some 7), none, .mv (.t 0)⟩, 
  ⟨(some 8), none, .mv (.t 1)⟩, 
  ⟨(some 9), none, .call (.fn 74) [(.t 7), (.t 8)]⟩, 
  ⟨(some 10), none, .ext (.t 9) 0⟩, 
  ⟨(some 11), none, .ext (.t 9) 1⟩, 
  ⟨(some 12), none, .ext (.t 9) 2⟩, 
  ⟨(some 4), none, .mv (.t 10)⟩, 
  ⟨(some 5), none, .mv (.t 11)⟩, 
  ⟨(some 6), none, .mv (.t 12)⟩]
def c59 : C := .seq (.reg c59r0 none [0, 1]) (.seq (.reg c59r1 none [4, 5, 6]) (.ret))
def k59 : List (Nat × List Nat) := [(1, [4, 5, 6]), (0, [0, 1])]
theorem cc59 : (Tryd.f59.body).bind (cC Tryd.prog 13 k59) = some c59 := by kernel_rfl
def rv59 : List RV := [.t 4, .t 5, .t 6]
theorem cr59 : cRVs Tryd.prog Tryd.f59.results.toList = some rv59 := by kernel_rfl
theorem f_strings_Cut_ok (s : Str) (sep : Str) (y_ : Str × Str × Bool) (h : f_strings_Cut s sep = some y_) : Fun Tryd.prog glP 59 [.b (.s (.d (.str s))), .b (.s (.d (.str sep)))] (.tup [.s (.d (.str y_.1)), .s (.d (.str y_.2.1)), .s (.d (.bool y_.2.2))]) := by
  refine fun_walk [] Tryd.func59 Tryd.ntmps59 cc59 cr59 (by kernel_rfl) (by simp only [List.length_cons, List.length_nil]; decide) ?_
  generalize hR : Ret _ _ _ _ _ = R_
  simp only [wz, wd, ws, seval]
  unfold f_strings_Cut at h; unfold c59
  refine .seq ?_
  refine Rw.walk ?_
  simp only [wz, wd, ws, seval, c59r0, semI.eq_10, semI.eq_11, semI.eq_3, semI.eq_5, semI.eq_7]
  refine .seq ?_
  refine Rw.walk ?_
  simp only [wz, wd, ws, seval, c59r1, semI.eq_10, semI.eq_11, semI.eq_3, semI.eq_5, semI.eq_7]
  obtain ⟨t, e1, h⟩ := Option.bind_eq_some_iff.1 h
  refine call_fun [] false ⟨trivial, trivial, trivial, trivial⟩ rfl ?_ (f_internal_stringslite_Cut_ok _ _ _ e1) (fun _ => rfl) (fun i hi => by cases hi) ?_
  · simp only [wz, wd, ws, seval]
  simp only [wz, wd, ws, seval, c59r1, semI.eq_10, semI.eq_11, semI.eq_3, semI.eq_5, semI.eq_7]
  obtain rfl := Option.some.inj h
  refine .ret ?_
  rw [← hR]
  simp only [wz, wd, ws, seval, rv59]
-- 84 consignor/cron.number
def c84r0 : List Opn := [
  ⟨(some 3), none, .box 2 (.t 1)⟩, 
  ⟨(some 4), none, .mv (.c (.s (.d (.int .i64 0))))⟩, 
  ⟨(some 5), none, .mv (.c (.s (.d (.z .nilIface))))⟩]
def c84r1 : List Opn := [
  ⟨(some 8), none, .mv (.t 0)⟩, 
  ⟨(some 9), none, .len .str (.t 8)⟩, 
  ⟨(some 10), none, .bin .lss (.t 9) (.c (.s (.d (.int .i64 1))))⟩, 
  ⟨(some 11), none, .mv (.t 10)⟩, 
  ⟨(some 12), some (11, false), .mv (.t 0)⟩, 
  ⟨(some 13), some (11, false), .len .str (.t 12)⟩, 
  ⟨(some 14), some (11, false), .bin .gtr (.t 13) (.c (.s (.d (.int .i64 2))))⟩, 
  ⟨(some 15), none, .pick (.t 11) (.c (.s (.d (.bool true)))) (.t 14)⟩, 
  ⟨(some 16), none, .mv (.t 15)⟩, 
  ⟨(some 17), some (16, false), .mv (.t 0)⟩, 
  ⟨(some 18), some (16, false), .call (.fn 91) [(.t 17), (.c (.s (.d (.str [48, 49, 50, 51, 52, 53, 54, 55, 56, 57]))))]⟩, 
  ⟨(some 19), some (16, false), .bin .neq (.t 18) (.c (.s (.d (.str []))))⟩, 
  ⟨(some 20), none, .pick (.t 16) (.c (.s (.d (.bool true)))) (.t 19)⟩, 
  ⟨(some 21), none, .mv (.t 20)⟩, 
  ⟨(some 22), some (21, false), .mv (.t 0)⟩, 
  ⟨(some 23), some (21, false), .len .str (.t 22)⟩, 
  ⟨(some 24), some (21, false), .bin .eql (.t 23) (.c (.s (.d (.int .i64 2))))⟩, 
  ⟨(some 25), some (21, false), .mv (.t 24)⟩, 
  ⟨(some 26), some (25, true), .mv (.t 0)⟩, 
  ⟨(some 27), some (25, true), .idx .str (.t 26) (.c (.s (.d (.int .i64 0))))⟩, 
  ⟨(some 28), some (25, true), .bin .eql (.t 27) (.c (.s (.d (.int .u8 48))))⟩, 
  ⟨(some 29), some (21, false), .pick (.t 25) (.t 28) (.c (.s (.d (.bool false))))⟩, 
  ⟨(some 30), none, .pick (.t 21) (.c (.s (.d (.bool true)))) (.t 29)⟩]
def c84r2 : List Opn := [
  ⟨(some 31), none, .build [] []⟩, 
  ⟨(some 32), none, .mkif 86 (.t 31)⟩, 
  ⟨(some 4), none, .mv (.c (.s (.d (.int .i64 0))))⟩, 
  ⟨(some 5), none, .mv (.t 32)⟩]
def c84r3 : List Opn := [
  ⟨(some 6), none, .mv (.c (.s (.d (.int .i64 0))))⟩]
def c84r4 : List Opn := [
  ⟨(some 33), none, .mv (.t 0)⟩, 
  ⟨(some 34), none, .len .str (.t 33)⟩, 
  ⟨(some 35), none, .mv (.c (.s (.d (.int .i64 0))))⟩]
def c84r5 : List Opn := [
  ⟨(some 36), none, .bin .lss (.t 35) (.t 34)⟩]
def c84r6 : List Opn := [
  ⟨(some 37), none, .mv (.t 35)⟩, 
  ⟨(some 7), none, .mv (.t 37)⟩]
def c84r7 : List Opn := [
  ⟨(some 38), none, .mv (.t 6)⟩, 
  ⟨(some 39), none, .bin .mul (.c (.s (.d (.int .i64 10)))) (.t 38)⟩, 
  ⟨(some 40), none, .mv (.t 0)⟩, 
  ⟨(some 41), none, .mv (.t 7)⟩, 
  ⟨(some 42), none, .idx .str (.t 40) (.t 41)⟩, 
  ⟨(some 43), none, .bin .sub (.t 42) (.c (.s (.d (.int .u8 48))))⟩, 
  ⟨(some 44), none, .cv (.toInt .i64) (.t 43)⟩, 
  ⟨(some 45), none, .bin .add (.t 39) (.t 44)⟩, 
  ⟨(some 6), none, .mv (.t 45)⟩]
def c84r8 : List Opn := [
  ⟨(some 46), none, .bin .add (.t 35) (.c (.s (.d (.int .i64 1))))⟩, 
  ⟨(some 35), none, .mv (.t 46)⟩]
def c84l9 : C := .seq (.reg c84r5 none [0, 3, 6, 34, 35, 36]) (.seq (.cond (.t 36) (.skip) (.exit 0)) (.seq (.blk 1 (.seq (.reg c84r6 none [0, 3, 6, 7, 34, 35]) (.reg c84r7 none [0, 3, 6, 34, 35]))) (.reg c84r8 none [0, 3, 6, 34, 35])))
def c84r9 : List Opn := [
  ⟨(some 47), none, .mv (.t 6)⟩, 
  ⟨(some 48), none, .fadr 0 (.t 3)⟩, 
  ⟨(some 49), none, .load false 1 (.t 48)⟩, 
  ⟨(some 50), none, .bin .lss (.t 47) (.t 49)⟩, 
  ⟨(some 51), none, .mv (.t 50)⟩, 
  ⟨(some 52), some (51, false), .mv (.t 6)⟩, 
  ⟨(some 53), some (51, false), .fadr 1 (.t 3)⟩, 
  ⟨(some 54), some (51, false), .load false 1 (.t 53)⟩, 
  ⟨(some 55), some (51, false), .bin .gtr (.t 52) (.t 54)⟩, 
  ⟨(some 56), none, .pick (.t 51) (.c (.s (.d (.bool true)))) (.t 55)⟩]
def c84r10 : List Opn := [
  ⟨(some 57), none, .build [] []⟩, 
  ⟨(some 58), none, .mkif 86 (.t 57)⟩, 
  ⟨(some 4), none, .mv (.c (.s (.d (.int .i64 0))))⟩, 
  ⟨(some 5), none, .mv (.t 58)⟩]
def c84r11 : List Opn := [
  ⟨(some 59), none, .mv (.t 6)⟩, 
  ⟨(some 4), none, .mv (.t 59)⟩, 
  ⟨(some 5), none, .mv (.c (.s (.d (.z .nilIface))))⟩]
def c84 : C := .seq (.reg c84r0 none [0, 3]) (.seq (.seq (.reg c84r1 none [0, 3, 30]) (.cond (.t 30) (.seq (.reg c84r2 none [4, 5]) (.ret)) (.skip))) (.seq (.reg c84r3 none [0, 3, 6]) (.seq (.seq (.reg c84r4 none [0, 3, 6, 34, 35]) (.blk 0 (.loop c84l9))) (.seq (.seq (.reg c84r9 none [6, 56]) (.cond (.t 56) (.seq (.reg c84r10 none [4, 5]) (.ret)) (.skip))) (.seq (.reg c84r11 none [4, 5]) (.ret))))))
def k84 : List (Nat × List Nat) := [(11, [4, 5]), (10, [4, 5]), (9, [6, 56]), (8, [0, 3, 6, 34, 35]), (7, [0, 3, 6, 34, 35]), (6, [0, 3, 6, 7, 34, 35]), (5, [0, 3, 6, 34, 35, 36]), (4, [0, 3, 6, 34, 35]), (3, [0, 3, 6]), (2, [4, 5]), (1, [0, 3, 30]), (0, [0, 3])]
theorem cc84 : (Tryd.f84.body).bind (cC Tryd.prog 60 k84) = some c84 := by kernel_rfl
def rv84 : List RV := [.t 4, .t 5]
theorem cr84 : cRVs Tryd.prog Tryd.f84.results.toList = some rv84 := by kernel_rfl
theorem f_cron_number_l9_ok (s : Str) (b : cron_bounds) (y_ : Int × Sc) (R_ : St → Prop) (hR : (Ret Tryd.prog glP [] rv84 (.tup [.s (.d (.int .i64 y_.1)), .s (.d y_.2)])) = R_) : ∀ (m_ : Nat) (n : Int) (v35 : Int) (res_ : Int × Int) (h : f_cron_number_l9 s b m_ n v35 = some res_) (k_ : List It) (hx : ∀ s_ : Int × Int, res_ = s_ → W Tryd.prog glP 60 k_ ⟨lkT [(0, .b (.s (.d (.str s)))), (3, .b (.s (.ptr 3 1 0 0))), (6, .b (.s (.d (.int .i64 s_.1)))), (34, .b (.s (.d (.int .i64 (s.length : Int))))), (35, .b (.s (.d (.int .i64 s_.2))))], lkG [(3, ⟨2, [[(.d (.int .i64 b.low)), (.d (.int .i64 b.high))]], false⟩)]⟩ R_), W Tryd.prog glP 60 (.c c84l9 :: .lp c84l9 :: .blk 0 :: k_) ⟨lkT [(0, .b (.s (.d (.str s)))), (3, .b (.s (.ptr 3 1 0 0))), (6, .b (.s (.d (.int .i64 n)))), (34, .b (.s (.d (.int .i64 (s.length : Int))))), (35, .b (.s (.d (.int .i64 v35))))], lkG [(3, ⟨2, [[(.d (.int .i64 b.low)), (.d (.int .i64 b.high))]], false⟩)]⟩ R_ := by
  intro m_; induction m_ with
  | zero => intro n v35 res_ h; rw [f_cron_number_l9.eq_1] at h; cases h
  | succ m_ ih =>
    intro n v35 res_ h k_ hx; rw [f_cron_number_l9.eq_2] at h; refine W.cdef c84l9.eq_1 ?_
    refine .seq ?_
    refine Rw.walk ?_
    simp only [wz, wd, ws, seval, c84r5, semI.eq_10, semI.eq_11, semI.eq_3, semI.eq_5, semI.eq_7, e_cron_part, e_cron_bounds]
    refine .seq ?_
    refine .cond (p := (decide (v35 < (s.length : Int)))) (by first | rfl | simp only [wz, wd, ws, seval]) (fun h1 => ?_) (fun h1 => ?_)
    · rw [ite_t h1] at h
      refine .skip ?_
      refine .seq ?_
      refine .blk ?_
      refine .seq ?_
      refine Rw.walk ?_
      simp only [wz, wd, ws, seval, c84r6, semI.eq_10, semI.eq_11, semI.eq_3, semI.eq_5, semI.eq_7, e_cron_part, e_cron_bounds]
      refine Rw.walk ?_
      simp only [wz, wd, ws, seval, c84r7, semI.eq_10, semI.eq_11, semI.eq_3, semI.eq_5, semI.eq_7, e_cron_part, e_cron_bounds]
      obtain ⟨c, e3, h⟩ := Option.bind_eq_some_iff.1 h
      refine Go1.of (sem_idx e3 (by rfl) (by rfl)) ?_
      simp only [wz, wd, ws, seval, c84r7, semI.eq_10, semI.eq_11, semI.eq_3, semI.eq_5, semI.eq_7, e_cron_part, e_cron_bounds]
      obtain ⟨n2, e4, h⟩ := Option.bind_eq_some_iff.1 h
      replace e4 := Option.some.inj e4
      first | simp only [e4] | (simp only [wz, wd, ws, seval, e_cron_part, e_cron_bounds] at e4; simp only [e4])
      refine .eblk ?_
      refine Rw.walk ?_
      simp only [wz, wd, ws, seval, c84r8, semI.eq_10, semI.eq_11, semI.eq_3, semI.eq_5, semI.eq_7, e_cron_part, e_cron_bounds]
      refine .lp ?_
      refine .weak (Imp.co [] _ _ ?_ ?_ ?_ ?_ ?_) (ih n2 (IntKind.i64.wrap (v35 + 1)) _ h k_ hx) <;> simp only [wz, wd, ws, seval, wi, er_nil, e_cron_part, e_cron_bounds]
    · rw [ite_f h1] at h
      refine .exit rfl ?_
      obtain rfl := Option.some.inj h
      refine .weak (Imp.co [] _ _ ?_ ?_ ?_ ?_ ?_) (hx _ rfl) <;> simp only [wz, wd, ws, seval, wi, er_nil, e_cron_part, e_cron_bounds]
theorem f_cron_number_ok (s : Str) (b : cron_bounds) (y_ : Int × Sc) (h : f_cron_number s b = some y_) : Fun Tryd.prog glP 84 [.b (.s (.d (.str s))), .b (.agg ((e_cron_bounds b).map Lc.d))] (.tup [.s (.d (.int .i64 y_.1)), .s (.d y_.2)]) := by
  refine fun_walk [] Tryd.func84 Tryd.ntmps84 cc84 cr84 (by kernel_rfl) (by simp only [List.length_cons, List.length_nil]; decide) ?_
  generalize hR : Ret _ _ _ _ _ = R_
  simp only [wz, wd, ws, seval, e_cron_part, e_cron_bounds]
  unfold f_cron_number at h; unfold c84
  refine .seq ?_
  refine Rw.walk ?_
  simp only [wz, wd, ws, seval, c84r0, semI.eq_10, semI.eq_11, semI.eq_3, semI.eq_5, semI.eq_7, e_cron_part, e_cron_bounds]
  refine .seq ?_
  refine .seq ?_
  refine Rw.walk ?_
  simp only [wz, wd, ws, seval, c84r1, semI.eq_10, semI.eq_11, semI.eq_3, semI.eq_5, semI.eq_7, e_cron_part, e_cron_bounds]
  repeat (refine And.intro ?_ ?_; · first | omega | (simp only [List.length_append, List.length_cons, List.length_nil] at *; omega) | (simp only [List.map_cons, List.map_nil] at *; omega) | (intro q; simp only [wz, wd, ws, seval, q]; done))
  obtain ⟨t, e1, h⟩ := Option.bind_eq_some_iff.1 h
  refine call_funG [] rfl (by simp only [wz, wd, ws, seval]) rfl ?_ (fun q => (f_strings_Trim_ok _ _ _ (gx_iff e1 (by first | exact q | simpa using q)))) rfl (fun i hi => by cases hi) ?_
  · simp only [wz, wd, ws, seval, e_cron_part, e_cron_bounds]
  simp only [wz, wd, ws, seval, c84r1, semI.eq_10, semI.eq_11, semI.eq_3, semI.eq_5, semI.eq_7, e_cron_part, e_cron_bounds]
  repeat (refine And.intro ?_ ?_; · first | omega | (simp only [List.length_append, List.length_cons, List.length_nil] at *; omega) | (simp only [List.map_cons, List.map_nil] at *; omega) | (intro q; simp only [wz, wd, ws, seval, q]; done))
  obtain ⟨g2, h⟩ := gd_iff.1 h
  refine Go2.of (se_idxS) ?_
  simp only [wz, wd, ws, seval, c84r1, semI.eq_10, semI.eq_11, semI.eq_3, semI.eq_5, semI.eq_7, e_cron_part, e_cron_bounds]
  repeat (refine And.intro ?_ ?_; · first | omega | exact g2 | (intro q; first | omega | (have q2 := g2 (by simpa using q); omega) | (have q2 := g2 q; omega) | (have q2 := g2 (by rw [q]; rfl); omega) | (have q2 := g2 (by simpa using q); simp only [List.length_append, List.length_cons, List.length_nil] at q2 ⊢; omega)) | (simp only [List.length_append, List.length_cons, List.length_nil] at *; omega) | (simp only [List.map_cons, List.map_nil] at *; omega) | (intro q; simp only [wz, wd, ws, seval, q]; done))
  refine .cond (p := ((((decide ((s.length : Int) < 1)) || (decide ((s.length : Int) > 2))) || (!(t == ([] : Str)))) || (((s.length : Int) == 2) && ((bn (s.getD 0 0)) == 48)))) (by first | rfl | simp only [wz, wd, ws, seval]) (fun h1 => ?_) (fun h1 => ?_)
  · rw [ite_t h1] at h
    refine .seq ?_
    refine Rw.walk ?_
    simp only [wz, wd, ws, seval, c84r2, semI.eq_10, semI.eq_11, semI.eq_3, semI.eq_5, semI.eq_7, e_cron_part, e_cron_bounds]
    obtain rfl := Option.some.inj h
    refine .ret ?_
    rw [← hR]
    simp only [wz, wd, ws, seval, rv84, e_cron_part, e_cron_bounds]
  · rw [ite_f h1] at h
    refine .skip ?_
    refine .seq ?_
    refine Rw.walk ?_
    simp only [wz, wd, ws, seval, c84r3, semI.eq_10, semI.eq_11, semI.eq_3, semI.eq_5, semI.eq_7, e_cron_part, e_cron_bounds]
    refine .seq ?_
    refine .seq ?_
    refine Rw.walk ?_
    simp only [wz, wd, ws, seval, c84r4, semI.eq_10, semI.eq_11, semI.eq_3, semI.eq_5, semI.eq_7, e_cron_part, e_cron_bounds]
    refine .blk ?_
    obtain ⟨s2, hf, h⟩ := Option.bind_eq_some_iff.1 h
    refine .loop (.weak (Imp.co [] _ _ ?c1 ?c2 ?c3 ?c4 ?c5) (f_cron_number_l9_ok s b _ _ hR _ _ _ _ hf _ ?_))
    case c1 | c2 | c3 | c4 | c5 => simp only [wz, wd, ws, seval, wi, er_nil, e_cron_part, e_cron_bounds]
    · intro s2_ hs; subst hs
      refine .seq ?_
      refine .seq ?_
      refine Rw.walk ?_
      simp only [wz, wd, ws, seval, c84r9, semI.eq_10, semI.eq_11, semI.eq_3, semI.eq_5, semI.eq_7, e_cron_part, e_cron_bounds]
      refine call_alt (v := .b (.s (.d (.int .i64 b.high)))) rfl rfl (by simp only [wz, wd, ws, seval]) (fun q => ⟨_, by simp only [wz, wd, ws, seval, semI.eq_10, e_cron_part, e_cron_bounds], trivial⟩) ?_
      simp only [wz, wd, ws, seval, c84r9, semI.eq_10, semI.eq_11, semI.eq_3, semI.eq_5, semI.eq_7, e_cron_part, e_cron_bounds]
      repeat (refine And.intro ?_ ?_; · first | omega | (simp only [List.length_append, List.length_cons, List.length_nil] at *; omega) | (simp only [List.map_cons, List.map_nil] at *; omega) | (intro q; simp only [wz, wd, ws, seval, q]; done))
      refine .cond (p := ((decide (s2.1 < b.low)) || (decide (s2.1 > b.high)))) (by first | rfl | simp only [wz, wd, ws, seval]) (fun h1 => ?_) (fun h1 => ?_)
      · rw [ite_t h1] at h
        refine .seq ?_
        refine Rw.walk ?_
        simp only [wz, wd, ws, seval, c84r10, semI.eq_10, semI.eq_11, semI.eq_3, semI.eq_5, semI.eq_7, e_cron_part, e_cron_bounds]
        obtain rfl := Option.some.inj h
        refine .ret ?_
        rw [← hR]
        simp only [wz, wd, ws, seval, rv84, e_cron_part, e_cron_bounds]
      · rw [ite_f h1] at h
        refine .skip ?_
        refine .seq ?_
        refine Rw.walk ?_
        simp only [wz, wd, ws, seval, c84r11, semI.eq_10, semI.eq_11, semI.eq_3, semI.eq_5, semI.eq_7, e_cron_part, e_cron_bounds]
        obtain rfl := Option.some.inj h
        refine .ret ?_
        rw [← hR]
        simp only [wz, wd, ws, seval, rv84, e_cron_part, e_cron_bounds]
-- 83 consignor/cron.span
def c83r0 : List Opn := [
  ⟨(some 3), none, .box 2 (.t 1)⟩, 
  ⟨(some 4), none, .new [(.d (.int .i64 0)), (.d (.int .i64 0))]⟩, 
  ⟨(some 5), none, .mv (.c (.s (.d (.bool false))))⟩, 
  ⟨(some 6), none, .mv (.c (.s (.d (.z .nilIface))))⟩]
def c83r1 : List Opn := [
  ⟨(some 13), none, .mv (.t 0)⟩, 
  ⟨(some 14), none, .bin .eql (.t 13) (.c (.s (.d (.str [42]))))⟩]
def c83r2 : List Opn := [
  ⟨(some 15), none, .load true 2 (.t 3)⟩, 
  ⟨none, none, .store 2 (.t 4) (.t 15)⟩, 
  ⟨(some 5), none, .mv (.c (.s (.d (.bool true))))⟩, 
  ⟨(some 6), none, .mv (.c (.s (.d (.z .nilIface))))⟩]
def c83r3 : List Opn := [
  ⟨(some 17), none, .mv (.t 0)⟩, 
  ⟨(some 18), none, .call (.fn 59) [(.t 17), (.c (.s (.d (.str [45]))))]⟩, 
  ⟨(some 16), none, .mv (.t 18)⟩, 
  ⟨(some 19), none, .ext (.t 16) 0⟩, 
  ⟨(some 20), none, .ext (.t 16) 1⟩, 
  ⟨(some 21), none, .ext (.t 16) 2⟩, 
  ⟨(some 7), none, .mv (.t 19)⟩, 
  ⟨(some 8), none, .mv (.t 20)⟩, 
  ⟨(some 9), none, .mv (.t 21)⟩]
def c83r4 : List Opn := [
  ⟨(some 23), none, .mv (.t 7)⟩, 
  ⟨(some 24), none, .load true 2 (.t 3)⟩, 
  ⟨(some 25), none, .call (.fn 84) [(.t 23), (.t 24)]⟩, 
  ⟨(some 22), none, .mv (.t 25)⟩, 
  ⟨(some 26), none, .ext (.t 22) 0⟩, 
  ⟨(some 27), none, .ext (.t 22) 1⟩, 
  ⟨(some 10), none, .mv (.t 26)⟩, 
  ⟨(some 11), none, .mv (.t 27)⟩]
def c83r5 : List Opn := [
  ⟨(some 28), none, .mv (.t 9)⟩, 
  ⟨(some 29), none, .un .not (.t 28)⟩, 
  ⟨(some 30), none, .mv (.t 29)⟩, 
  ⟨(some 31), some (30, false), .mv (.t 11)⟩, 
  ⟨(some 32), some (30, false), .bic .neq (.t 31) (.c (.s (.d (.z .nilIface))))⟩, 
  ⟨(some 33), none, .pick (.t 30) (.c (.s (.d (.bool true)))) (.t 32)⟩]
def c83r6 : List Opn := [
  ⟨(some 34), none, .mv (.t 10)⟩, 
  ⟨(some 35), none, .mv (.t 10)⟩, 
  ⟨(some 36), none, .build [(.d (.int .i64 0)), (.d (.int .i64 0))] [(0, 1, (.t 34)), (1, 1, (.t 35))]⟩, 
  ⟨(some 37), none, .mv (.t 11)⟩, 
  ⟨none, none, .store 2 (.t 4) (.t 36)⟩, 
  ⟨(some 5), none, .mv (.c (.s (.d (.bool false))))⟩, 
  ⟨(some 6), none, .mv (.t 37)⟩]
def c83r7 : List Opn := [
  ⟨(some 39), none, .mv (.t 8)⟩, 
  ⟨(some 40), none, .load true 2 (.t 3)⟩, 
  ⟨(some 41), none, .call (.fn 84) [(.t 39), (.t 40)]⟩, 
  ⟨(some 38), none, .mv (.t 41)⟩, 
  ⟨(some 42), none, .ext (.t 38) 0⟩, 
  ⟨(some 43), none, .ext (.t 38) 1⟩, 
  ⟨(some 12), none, .mv (.t 42)⟩, 
  ⟨(some 11), none, .mv (.t 43)⟩]
def c83r8 : List Opn := [
  ⟨(some 44), none, .mv (.t 11)⟩, 
  ⟨(some 45), none, .bic .eql (.t 44) (.c (.s (.d (.z .nilIface))))⟩, 
  ⟨(some 46), none, .mv (.t 45)⟩, 
  ⟨(some 47), some (46, true), .mv (.t 10)⟩, 
  ⟨(some 48), some (46, true), .mv (.t 12)⟩, 
  ⟨(some 49), some (46, true), .bin .gtr (.t 47) (.t 48)⟩, 
  ⟨(some 50), none, .pick (.t 46) (.t 49) (.c (.s (.d (.bool false))))⟩]
def c83r9 : List Opn := [
  ⟨(some 51), none, .build [] []⟩, 
  ⟨(some 52), none, .mkif 86 (.t 51)⟩, 
  ⟨(some 11), none, .mv (.t 52)⟩]
def c83r10 : List Opn := [
  ⟨(some 53), none, .mv (.t 10)⟩, 
  ⟨(some 54), none, .mv (.t 12)⟩, 
  ⟨(some 55), none, .build [(.d (.int .i64 0)), (.d (.int .i64 0))] [(0, 1, (.t 53)), (1, 1, (.t 54))]⟩, 
  ⟨(some 56), none, .mv (.t 11)⟩, 
  ⟨none, none, .store 2 (.t 4) (.t 55)⟩, 
  ⟨(some 5), none, .mv (.c (.s (.d (.bool true))))⟩, 
  ⟨(some 6), none, .mv (.t 56)⟩]
def c83 : C := .seq (.reg c83r0 none [0, 3, 4]) (.seq (.seq (.reg c83r1 none [0, 3, 4, 14]) (.cond (.t 14) (.seq (.reg c83r2 none [4, 5, 6]) (.ret)) (.skip))) (.seq (.reg c83r3 none [3, 4, 7, 8, 9]) (.seq (.reg c83r4 none [3, 4, 8, 9, 10, 11]) (.seq (.seq (.reg c83r5 none [3, 4, 8, 10, 11, 33]) (.cond (.t 33) (.seq (.reg c83r6 none [4, 5, 6]) (.ret)) (.skip))) (.seq (.reg c83r7 none [4, 10, 11, 12]) (.seq (.seq (.reg c83r8 none [4, 10, 11, 12, 50]) (.cond (.t 50) (.reg c83r9 none [4, 10, 11, 12]) (.skip))) (.seq (.reg c83r10 none [4, 5, 6]) (.ret))))))))
def k83 : List (Nat × List Nat) := [(10, [4, 5, 6]), (9, [4, 10, 11, 12]), (8, [4, 10, 11, 12, 50]), (7, [4, 10, 11, 12]), (6, [4, 5, 6]), (5, [3, 4, 8, 10, 11, 33]), (4, [3, 4, 8, 9, 10, 11]), (3, [3, 4, 7, 8, 9]), (2, [4, 5, 6]), (1, [0, 3, 4, 14]), (0, [0, 3, 4])]
theorem cc83 : (Tryd.f83.body).bind (cC Tryd.prog 57 k83) = some c83 := by kernel_rfl
def rv83 : List RV := [.c 4 true 2, .t 5, .t 6]
theorem cr83 : cRVs Tryd.prog Tryd.f83.results.toList = some rv83 := by kernel_rfl
theorem f_cron_span_ok (s : Str) (b : cron_bounds) (y_ : cron_bounds × Bool × Sc) (h : f_cron_span s b = some y_) : Fun Tryd.prog glP 83 [.b (.s (.d (.str s))), .b (.agg ((e_cron_bounds b).map Lc.d))] (.tup [.agg ((e_cron_bounds y_.1).map Lc.d), .s (.d (.bool y_.2.1)), .s (.d y_.2.2)]) := by
  refine fun_walk [] Tryd.func83 Tryd.ntmps83 cc83 cr83 (by kernel_rfl) (by simp only [List.length_cons, List.length_nil]; decide) ?_
  generalize hR : Ret _ _ _ _ _ = R_
  simp only [wz, wd, ws, seval, e_cron_part, e_cron_bounds]
  unfold f_cron_span at h; unfold c83
  refine .seq ?_
  refine Rw.walk ?_
  simp only [wz, wd, ws, seval, c83r0, semI.eq_10, semI.eq_11, semI.eq_3, semI.eq_5, semI.eq_7, e_cron_part, e_cron_bounds]
  refine .seq ?_
  refine .seq ?_
  refine Rw.walk ?_
  simp only [wz, wd, ws, seval, c83r1, semI.eq_10, semI.eq_11, semI.eq_3, semI.eq_5, semI.eq_7, e_cron_part, e_cron_bounds]
  refine .cond (p := (s == ([42] : Str))) (by first | rfl | simp only [wz, wd, ws, seval]) (fun h1 => ?_) (fun h1 => ?_)
  · rw [ite_t h1] at h
    refine .seq ?_
    refine Rw.walk ?_
    simp only [wz, wd, ws, seval, c83r2, semI.eq_10, semI.eq_11, semI.eq_3, semI.eq_5, semI.eq_7, e_cron_part, e_cron_bounds]
    obtain rfl := Option.some.inj h
    refine .ret ?_
    rw [← hR]
    simp only [wz, wd, ws, seval, rv83, semI.eq_10, e_cron_part, e_cron_bounds]
  · rw [ite_f h1] at h
    refine .skip ?_
    refine .seq ?_
    refine Rw.walk ?_
    simp only [wz, wd, ws, seval, c83r3, semI.eq_10, semI.eq_11, semI.eq_3, semI.eq_5, semI.eq_7, e_cron_part, e_cron_bounds]
    obtain ⟨t, e1, h⟩ := Option.bind_eq_some_iff.1 h
    refine call_fun [] false ⟨trivial, trivial, trivial, trivial⟩ rfl ?_ (f_strings_Cut_ok _ _ _ e1) (fun _ => rfl) (fun i hi => by cases hi) ?_
    · simp only [wz, wd, ws, seval, e_cron_part, e_cron_bounds]
    simp only [wz, wd, ws, seval, c83r3, semI.eq_10, semI.eq_11, semI.eq_3, semI.eq_5, semI.eq_7, e_cron_part, e_cron_bounds]
    refine .seq ?_
    refine Rw.walk ?_
    simp only [wz, wd, ws, seval, c83r4, semI.eq_10, semI.eq_11, semI.eq_3, semI.eq_5, semI.eq_7, e_cron_part, e_cron_bounds]
    obtain ⟨t2, e2, h⟩ := Option.bind_eq_some_iff.1 h
    refine call_fun [] true ⟨trivial, trivial, trivial, trivial⟩ rfl ?_ (f_cron_number_ok _ _ _ e2) (fun h => by cases h) (fun i hi => by cases hi) ?_
    · simp only [wz, wd, ws, seval, e_cron_part, e_cron_bounds]
    simp only [wz, wd, ws, seval, c83r4, semI.eq_10, semI.eq_11, semI.eq_3, semI.eq_5, semI.eq_7, e_cron_part, e_cron_bounds]
    refine .seq ?_
    refine .seq ?_
    refine Rw.walk ?_
    obtain ⟨g3, h⟩ := gd_iff.1 h
    simp only [wz, wd, ws, seval, c83r5, semI.eq_10, semI.eq_11, semI.eq_3, semI.eq_5, semI.eq_7, e_cron_part, e_cron_bounds]
    repeat (refine And.intro ?_ ?_; · first | omega | exact g3 | exact g3 | (intro q; first | omega | (have q2 := g3 (by simpa using q); omega) | (have q2 := g3 q; omega) | (have q2 := g3 (by rw [q]; rfl); omega) | (have q2 := g3 (by simpa using q); simp only [List.length_append, List.length_cons, List.length_nil] at q2 ⊢; omega)) | (simp only [List.length_append, List.length_cons, List.length_nil] at *; omega) | (simp only [List.map_cons, List.map_nil] at *; omega) | (intro q; simp only [wz, wd, ws, seval, q]; done))
    refine .cond (p := ((!t.2.2) || (!(nilI t2.2)))) (by first | rfl | simp only [wz, wd, ws, seval]) (fun h1 => ?_) (fun h1 => ?_)
    · rw [ite_t h1] at h
      refine .seq ?_
      refine Rw.walk ?_
      simp only [wz, wd, ws, seval, c83r6, semI.eq_10, semI.eq_11, semI.eq_3, semI.eq_5, semI.eq_7, e_cron_part, e_cron_bounds]
      obtain rfl := Option.some.inj h
      refine .ret ?_
      rw [← hR]
      simp only [wz, wd, ws, seval, rv83, semI.eq_10, e_cron_part, e_cron_bounds]
    · rw [ite_f h1] at h
      refine .skip ?_
      refine .seq ?_
      refine Rw.walk ?_
      simp only [wz, wd, ws, seval, c83r7, semI.eq_10, semI.eq_11, semI.eq_3, semI.eq_5, semI.eq_7, e_cron_part, e_cron_bounds]
      obtain ⟨t3, e4, h⟩ := Option.bind_eq_some_iff.1 h
      refine call_fun [] true ⟨trivial, trivial, trivial, trivial⟩ rfl ?_ (f_cron_number_ok _ _ _ e4) (fun h => by cases h) (fun i hi => by cases hi) ?_
      · simp only [wz, wd, ws, seval, e_cron_part, e_cron_bounds]
      simp only [wz, wd, ws, seval, c83r7, semI.eq_10, semI.eq_11, semI.eq_3, semI.eq_5, semI.eq_7, e_cron_part, e_cron_bounds]
      refine .seq ?_
      refine .seq ?_
      refine Rw.walk ?_
      obtain ⟨g5, h⟩ := gd_iff.1 h
      simp only [wz, wd, ws, seval, c83r8, semI.eq_10, semI.eq_11, semI.eq_3, semI.eq_5, semI.eq_7, e_cron_part, e_cron_bounds]
      repeat (refine And.intro ?_ ?_; · first | omega | exact g5 | (simp only [List.length_append, List.length_cons, List.length_nil] at *; omega) | (simp only [List.map_cons, List.map_nil] at *; omega) | (intro q; simp only [wz, wd, ws, seval, q]; done))
      refine .cond (p := ((nilI t3.2) && (decide (t2.1 > t3.1)))) (by first | rfl | simp only [wz, wd, ws, seval]) (fun h1 => ?_) (fun h1 => ?_)
      · rw [ite_t h1] at h
        refine Rw.walk ?_
        simp only [wz, wd, ws, seval, c83r9, semI.eq_10, semI.eq_11, semI.eq_3, semI.eq_5, semI.eq_7, e_cron_part, e_cron_bounds]
        refine .seq ?_
        refine Rw.walk ?_
        simp only [wz, wd, ws, seval, c83r10, semI.eq_10, semI.eq_11, semI.eq_3, semI.eq_5, semI.eq_7, e_cron_part, e_cron_bounds]
        obtain rfl := Option.some.inj h
        refine .ret ?_
        rw [← hR]
        simp only [wz, wd, ws, seval, rv83, semI.eq_10, e_cron_part, e_cron_bounds]
      · rw [ite_f h1] at h
        refine .skip ?_
        refine .seq ?_
        refine Rw.walk ?_
        simp only [wz, wd, ws, seval, c83r10, semI.eq_10, semI.eq_11, semI.eq_3, semI.eq_5, semI.eq_7, e_cron_part, e_cron_bounds]
        obtain rfl := Option.some.inj h
        refine .ret ?_
        rw [← hR]
        simp only [wz, wd, ws, seval, rv83, semI.eq_10, e_cron_part, e_cron_bounds]
-- 69 consignor/cron.values
def c69r0 : List Opn := [
  ⟨(some 3), none, .box 2 (.t 1)⟩, 
  ⟨(some 4), none, .mv (.c (.s (.d (.int .u64 0))))⟩, 
  ⟨(some 5), none, .mv (.c (.s (.d (.z .nilIface))))⟩]
def c69r1 : List Opn := [
  ⟨(some 16), none, .mv (.t 0)⟩, 
  ⟨(some 17), none, .call (.fn 59) [(.t 16), (.c (.s (.d (.str [47]))))]⟩, 
  ⟨(some 15), none, .mv (.t 17)⟩, 
  ⟨(some 18), none, .ext (.t 15) 0⟩, 
  ⟨(some 19), none, .ext (.t 15) 1⟩, 
  ⟨(some 20), none, .ext (.t 15) 2⟩, 
  ⟨(some 6), none, .mv (.t 18)⟩, 
  ⟨(some 7), none, .mv (.t 19)⟩, 
  ⟨(some 8), none, .mv (.t 20)⟩]
def c69r2 : List Opn := [
  ⟨(some 22), none, .mv (.t 6)⟩, 
  ⟨(some 23), none, .load true 2 (.t 3)⟩, 
  ⟨(some 24), none, .call (.fn 83) [(.t 22), (.t 23)]⟩, 
  ⟨(some 21), none, .mv (.t 24)⟩, 
  ⟨(some 25), none, .ext (.t 21) 0⟩, 
  ⟨(some 26), none, .ext (.t 21) 1⟩, 
  ⟨(some 27), none, .ext (.t 21) 2⟩, 
  ⟨(some 9), none, .new [(.d (.int .i64 0)), (.d (.int .i64 0))]⟩, 
  ⟨none, none, .store 2 (.t 9) (.t 25)⟩, 
  ⟨(some 10), none, .mv (.t 26)⟩, 
  ⟨(some 11), none, .mv (.t 27)⟩]
def c69r3 : List Opn := [
  ⟨(some 12), none, .mv (.c (.s (.d (.int .i64 1))))⟩]
def c69r4 : List Opn := [
  ⟨(some 28), none, .mv (.t 11)⟩, 
  ⟨(some 29), none, .bic .eql (.t 28) (.c (.s (.d (.z .nilIface))))⟩, 
  ⟨(some 30), none, .mv (.t 29)⟩, 
  ⟨(some 31), some (30, true), .mv (.t 8)⟩, 
  ⟨(some 32), none, .pick (.t 30) (.t 31) (.c (.s (.d (.bool false))))⟩]
def c69r5 : List Opn := [
  ⟨(some 34), none, .mv (.t 7)⟩, 
  ⟨(some 35), none, .build [(.d (.int .i64 0)), (.d (.int .i64 0))] [(0, 1, (.c (.s (.d (.int .i64 1))))), (1, 1, (.c (.s (.d (.int .i64 59)))))]⟩, 
  ⟨(some 36), none, .call (.fn 84) [(.t 34), (.t 35)]⟩, 
  ⟨(some 33), none, .mv (.t 36)⟩, 
  ⟨(some 37), none, .ext (.t 33) 0⟩, 
  ⟨(some 38), none, .ext (.t 33) 1⟩, 
  ⟨(some 12), none, .mv (.t 37)⟩, 
  ⟨(some 11), none, .mv (.t 38)⟩]
def c69r6 : List Opn := [
  ⟨(some 39), none, .mv (.t 10)⟩, 
  ⟨(some 40), none, .un .not (.t 39)⟩]
def c69r7 : List Opn := [
  ⟨(some 41), none, .build [] []⟩, 
  ⟨(some 42), none, .mkif 86 (.t 41)⟩, 
  ⟨(some 11), none, .mv (.t 42)⟩]
def c69r8 : List Opn := [
  ⟨(some 43), none, .mv (.t 11)⟩, 
  ⟨(some 44), none, .bic .neq (.t 43) (.c (.s (.d (.z .nilIface))))⟩]
def c69r9 : List Opn := [
  ⟨(some 45), none, .mv (.t 11)⟩, 
  ⟨(some 4), none, .mv (.c (.s (.d (.int .u64 0))))⟩, 
  ⟨(some 5), none, .mv (.t 45)⟩]
def c69r10 : List Opn := [
  ⟨(some 13), none, .mv (.c (.s (.d (.int .u64 0))))⟩]
def c69r11 : List Opn := [
  ⟨(some 46), none, .fadr 0 (.t 9)⟩, 
  ⟨(some 47), none, .load false 1 (.t 46)⟩, 
  ⟨(some 14), none, .mv (.t 47)⟩]
def c69r12 : List Opn := [
  ⟨(some 48), none, .mv (.t 14)⟩, 
  ⟨(some 49), none, .fadr 1 (.t 9)⟩, 
  ⟨(some 50), none, .load false 1 (.t 49)⟩, 
  ⟨(some 51), none, .bin .leq (.t 48) (.t 50)⟩]
def c69r14 : List Opn := [
  ⟨(some 55), none, .mv (.t 13)⟩, 
  ⟨(some 56), none, .mv (.t 14)⟩, 
  ⟨(some 57), none, .bin .shl (.c (.s (.d (.int .u64 1)))) (.t 56)⟩, 
  ⟨(some 58), none, .bin .or (.t 55) (.t 57)⟩, 
  ⟨(some 13), none, .mv (.t 58)⟩]
def c69r13 : List Opn := [
  ⟨(some 52), none, .mv (.t 14)⟩, 
  ⟨(some 53), none, .mv (.t 12)⟩, 
  ⟨(some 54), none, .bin .add (.t 52) (.t 53)⟩, 
  ⟨(some 14), none, .mv (.t 54)⟩]
def c69l15 : C := .seq (.seq (.reg c69r12 none [9, 12, 13, 14, 51]) (.cond (.t 51) (.skip) (.exit 0))) (.seq (.blk 1 (.reg c69r14 none [9, 12, 13, 14])) (.reg c69r13 none [9, 12, 13, 14]))
def c69r15 : List Opn := [
  ⟨(some 59), none, .mv (.t 13)⟩, 
  ⟨(some 4), none, .mv (.t 59)⟩, 
  ⟨(some 5), none, .mv (.c (.s (.d (.z .nilIface))))⟩]
def c69 : C := .seq (.reg c69r0 none [0, 3]) (.seq (.reg c69r1 none [3, 6, 7, 8]) (.seq (.reg c69r2 none [7, 8, 9, 10, 11]) (.seq (.reg c69r3 none [7, 8, 9, 10, 11, 12]) (.seq (.seq (.reg c69r4 none [7, 9, 10, 11, 12, 32]) (.cond (.t 32) (.seq (.reg c69r5 none [9, 10, 11, 12]) (.seq (.reg c69r6 none [9, 11, 12, 40]) (.cond (.t 40) (.reg c69r7 none [9, 11, 12]) (.skip)))) (.skip))) (.seq (.seq (.reg c69r8 none [9, 11, 12, 44]) (.cond (.t 44) (.seq (.reg c69r9 none [4, 5]) (.ret)) (.skip))) (.seq (.reg c69r10 none [9, 12, 13]) (.seq (.seq (.reg c69r11 none [9, 12, 13, 14]) (.blk 0 (.loop c69l15))) (.seq (.reg c69r15 none [4, 5]) (.ret)))))))))
def k69 : List (Nat × List Nat) := [(15, [4, 5]), (13, [9, 12, 13, 14]), (14, [9, 12, 13, 14]), (12, [9, 12, 13, 14, 51]), (11, [9, 12, 13, 14]), (10, [9, 12, 13]), (9, [4, 5]), (8, [9, 11, 12, 44]), (7, [9, 11, 12]), (6, [9, 11, 12, 40]), (5, [9, 10, 11, 12]), (4, [7, 9, 10, 11, 12, 32]), (3, [7, 8, 9, 10, 11, 12]), (2, [7, 8, 9, 10, 11]), (1, [3, 6, 7, 8]), (0, [0, 3])]
theorem cc69 : (Tryd.f69.body).bind (cC Tryd.prog 60 k69) = some c69 := by kernel_rfl
def rv69 : List RV := [.t 4, .t 5]
theorem cr69 : cRVs Tryd.prog Tryd.f69.results.toList = some rv69 := by kernel_rfl
theorem f_cron_values_l15_ok (s : Str) (b : cron_bounds) (t2 : cron_bounds × Bool × Sc) (s2 : Sc × Int) (y_ : Int × Sc) (R_ : St → Prop) (hR : (Ret Tryd.prog glP [] rv69 (.tup [.s (.d (.int .u64 y_.1)), .s (.d y_.2)])) = R_) : ∀ (m_ : Nat) (n : Int) (v : Int) (res_ : Int × Int) (h : f_cron_values_l15 s b t2 s2 m_ n v = some res_) (k_ : List It) (hx : ∀ s_ : Int × Int, res_ = s_ → W Tryd.prog glP 60 k_ ⟨lkT [(9, .b (.s (.ptr 9 1 0 0))), (12, .b (.s (.d (.int .i64 s2.2)))), (13, .b (.s (.d (.int .u64 s_.1)))), (14, .b (.s (.d (.int .i64 s_.2))))], lkG [(9, ⟨2, [[(.d (.int .i64 t2.1.low)), (.d (.int .i64 t2.1.high))]], false⟩)]⟩ R_), W Tryd.prog glP 60 (.c c69l15 :: .lp c69l15 :: .blk 0 :: k_) ⟨lkT [(9, .b (.s (.ptr 9 1 0 0))), (12, .b (.s (.d (.int .i64 s2.2)))), (13, .b (.s (.d (.int .u64 n)))), (14, .b (.s (.d (.int .i64 v))))], lkG [(9, ⟨2, [[(.d (.int .i64 t2.1.low)), (.d (.int .i64 t2.1.high))]], false⟩)]⟩ R_ := by
  intro m_; induction m_ with
  | zero => intro n v res_ h; rw [f_cron_values_l15.eq_1] at h; cases h
  | succ m_ ih =>
    intro n v res_ h k_ hx; rw [f_cron_values_l15.eq_2] at h; refine W.cdef c69l15.eq_1 ?_
    refine .seq ?_
    refine .seq ?_
    refine Rw.walk ?_
    simp only [wz, wd, ws, seval, c69r12, semI.eq_10, semI.eq_11, semI.eq_3, semI.eq_5, semI.eq_7, e_cron_part, e_cron_bounds]
    refine .cond (p := (decide (v ≤ t2.1.high))) (by first | rfl | simp only [wz, wd, ws, seval]) (fun h1 => ?_) (fun h1 => ?_)
    · rw [ite_t h1] at h
      refine .skip ?_
      refine .seq ?_
      refine .blk ?_
      refine Rw.walk ?_
      obtain ⟨g4, h⟩ := gd_iff.1 h
      simp only [wz, wd, ws, seval, c69r14, semI.eq_10, semI.eq_11, semI.eq_3, semI.eq_5, semI.eq_7, e_cron_part, e_cron_bounds]
      repeat (refine And.intro ?_ ?_; · first | omega | (simp only [List.length_append, List.length_cons, List.length_nil] at *; omega) | (simp only [List.map_cons, List.map_nil] at *; omega) | (intro q; simp only [wz, wd, ws, seval, q]; done))
      obtain ⟨n2, e5, h⟩ := Option.bind_eq_some_iff.1 h
      replace e5 := Option.some.inj e5
      first | simp only [e5] | (simp only [wz, wd, ws, seval, e_cron_part, e_cron_bounds] at e5; simp only [e5])
      refine .eblk ?_
      refine Rw.walk ?_
      simp only [wz, wd, ws, seval, c69r13, semI.eq_10, semI.eq_11, semI.eq_3, semI.eq_5, semI.eq_7, e_cron_part, e_cron_bounds]
      refine .lp ?_
      refine .weak (Imp.co [] _ _ ?_ ?_ ?_ ?_ ?_) (ih n2 (IntKind.i64.wrap (v + s2.2)) _ h k_ hx) <;> simp only [wz, wd, ws, seval, wi, er_nil, e_cron_part, e_cron_bounds]
    · rw [ite_f h1] at h
      refine .exit rfl ?_
      obtain rfl := Option.some.inj h
      refine .weak (Imp.co [] _ _ ?_ ?_ ?_ ?_ ?_) (hx _ rfl) <;> simp only [wz, wd, ws, seval, wi, er_nil, e_cron_part, e_cron_bounds]
theorem f_cron_values_ok (s : Str) (b : cron_bounds) (y_ : Int × Sc) (h : f_cron_values s b = some y_) : Fun Tryd.prog glP 69 [.b (.s (.d (.str s))), .b (.agg ((e_cron_bounds b).map Lc.d))] (.tup [.s (.d (.int .u64 y_.1)), .s (.d y_.2)]) := by
  refine fun_walk [] Tryd.func69 Tryd.ntmps69 cc69 cr69 (by kernel_rfl) (by simp only [List.length_cons, List.length_nil]; decide) ?_
  generalize hR : Ret _ _ _ _ _ = R_
  simp only [wz, wd, ws, seval, e_cron_part, e_cron_bounds]
  unfold f_cron_values at h; unfold c69
  refine .seq ?_
  refine Rw.walk ?_
  simp only [wz, wd, ws, seval, c69r0, semI.eq_10, semI.eq_11, semI.eq_3, semI.eq_5, semI.eq_7, e_cron_part, e_cron_bounds]
  refine .seq ?_
  refine Rw.walk ?_
  simp only [wz, wd, ws, seval, c69r1, semI.eq_10, semI.eq_11, semI.eq_3, semI.eq_5, semI.eq_7, e_cron_part, e_cron_bounds]
  obtain ⟨t, e1, h⟩ := Option.bind_eq_some_iff.1 h
  refine call_fun [] false ⟨trivial, trivial, trivial, trivial⟩ rfl ?_ (f_strings_Cut_ok _ _ _ e1) (fun _ => rfl) (fun i hi => by cases hi) ?_
  · simp only [wz, wd, ws, seval, e_cron_part, e_cron_bounds]
  simp only [wz, wd, ws, seval, c69r1, semI.eq_10, semI.eq_11, semI.eq_3, semI.eq_5, semI.eq_7, e_cron_part, e_cron_bounds]
  refine .seq ?_
  refine Rw.walk ?_
  simp only [wz, wd, ws, seval, c69r2, semI.eq_10, semI.eq_11, semI.eq_3, semI.eq_5, semI.eq_7, e_cron_part, e_cron_bounds]
  obtain ⟨t2, e2, h⟩ := Option.bind_eq_some_iff.1 h
  refine call_fun [] true ⟨trivial, trivial, trivial, trivial⟩ rfl ?_ (f_cron_span_ok _ _ _ e2) (fun h => by cases h) (fun i hi => by cases hi) ?_
  · simp only [wz, wd, ws, seval, e_cron_part, e_cron_bounds]
  simp only [wz, wd, ws, seval, c69r2, semI.eq_10, semI.eq_11, semI.eq_3, semI.eq_5, semI.eq_7, e_cron_part, e_cron_bounds]
  refine .seq ?_
  refine Rw.walk ?_
  simp only [wz, wd, ws, seval, c69r3, semI.eq_10, semI.eq_11, semI.eq_3, semI.eq_5, semI.eq_7, e_cron_part, e_cron_bounds]
  refine .seq ?_
  obtain ⟨s2, hf, h⟩ := Option.bind_eq_some_iff.1 h
  refine W.cut1 ⟨lkT [(9, .b (.s (.ptr 9 1 0 0))), (11, .b (.s (.d s2.1))), (12, .b (.s (.d (.int .i64 s2.2))))], lkG [(9, ⟨2, [[(.d (.int .i64 t2.1.low)), (.d (.int .i64 t2.1.high))]], false⟩)]⟩ ?_ (fun tail => ?_)
  · skip
    refine .seq ?_
    refine .seq ?_
    refine Rw.walk ?_
    obtain ⟨g3, h⟩ := gd_iff.1 h
    simp only [wz, wd, ws, seval, c69r8, semI.eq_10, semI.eq_11, semI.eq_3, semI.eq_5, semI.eq_7, e_cron_part, e_cron_bounds]
    repeat (refine And.intro ?_ ?_; · first | omega | exact g3 | (simp only [List.length_append, List.length_cons, List.length_nil] at *; omega) | (simp only [List.map_cons, List.map_nil] at *; omega) | (intro q; simp only [wz, wd, ws, seval, q]; done))
    refine .cond (p := (!(nilI s2.1))) (by first | rfl | simp only [wz, wd, ws, seval]) (fun h1 => ?_) (fun h1 => ?_)
    · rw [ite_t h1] at h
      refine .seq ?_
      refine Rw.walk ?_
      simp only [wz, wd, ws, seval, c69r9, semI.eq_10, semI.eq_11, semI.eq_3, semI.eq_5, semI.eq_7, e_cron_part, e_cron_bounds]
      obtain rfl := Option.some.inj h
      refine .ret ?_
      rw [← hR]
      simp only [wz, wd, ws, seval, rv69, e_cron_part, e_cron_bounds]
    · rw [ite_f h1] at h
      refine .skip ?_
      refine .seq ?_
      refine Rw.walk ?_
      simp only [wz, wd, ws, seval, c69r10, semI.eq_10, semI.eq_11, semI.eq_3, semI.eq_5, semI.eq_7, e_cron_part, e_cron_bounds]
      refine .seq ?_
      refine .seq ?_
      refine Rw.walk ?_
      simp only [wz, wd, ws, seval, c69r11, semI.eq_10, semI.eq_11, semI.eq_3, semI.eq_5, semI.eq_7, e_cron_part, e_cron_bounds]
      refine .blk ?_
      obtain ⟨s3, hf, h⟩ := Option.bind_eq_some_iff.1 h
      refine .loop (.weak (Imp.co [] _ _ ?c1 ?c2 ?c3 ?c4 ?c5) (f_cron_values_l15_ok s b t2 s2 _ _ hR _ _ _ _ hf _ ?_))
      case c1 | c2 | c3 | c4 | c5 => simp only [wz, wd, ws, seval, wi, er_nil, e_cron_part, e_cron_bounds]
      · intro s3_ hs; subst hs
        refine .seq ?_
        refine Rw.walk ?_
        simp only [wz, wd, ws, seval, c69r15, semI.eq_10, semI.eq_11, semI.eq_3, semI.eq_5, semI.eq_7, e_cron_part, e_cron_bounds]
        obtain rfl := Option.some.inj h
        refine .ret ?_
        rw [← hR]
        simp only [wz, wd, ws, seval, rv69, e_cron_part, e_cron_bounds]
  replace h := hf
  refine .seq ?_
  refine Rw.walk ?_
  obtain ⟨g6, h⟩ := gd_iff.1 h
  simp only [wz, wd, ws, seval, c69r4, semI.eq_10, semI.eq_11, semI.eq_3, semI.eq_5, semI.eq_7, e_cron_part, e_cron_bounds]
  repeat (refine And.intro ?_ ?_; · first | omega | exact g6 | (simp only [List.length_append, List.length_cons, List.length_nil] at *; omega) | (simp only [List.map_cons, List.map_nil] at *; omega) | (intro q; simp only [wz, wd, ws, seval, q]; done))
  refine .cond (p := ((nilI t2.2.2) && t.2.2)) (by first | rfl | simp only [wz, wd, ws, seval]) (fun h1 => ?_) (fun h1 => ?_)
  · rw [ite_t h1] at h
    refine .seq ?_
    refine Rw.walk ?_
    simp only [wz, wd, ws, seval, c69r5, semI.eq_10, semI.eq_11, semI.eq_3, semI.eq_5, semI.eq_7, e_cron_part, e_cron_bounds]
    obtain ⟨t3, e7, h⟩ := Option.bind_eq_some_iff.1 h
    refine call_fun [] true ⟨trivial, trivial, trivial, trivial⟩ rfl ?_ (f_cron_number_ok _ _ _ e7) (fun h => by cases h) (fun i hi => by cases hi) ?_
    · simp only [wz, wd, ws, seval, e_cron_part, e_cron_bounds]
    simp only [wz, wd, ws, seval, c69r5, semI.eq_10, semI.eq_11, semI.eq_3, semI.eq_5, semI.eq_7, e_cron_part, e_cron_bounds]
    refine .seq ?_
    refine Rw.walk ?_
    simp only [wz, wd, ws, seval, c69r6, semI.eq_10, semI.eq_11, semI.eq_3, semI.eq_5, semI.eq_7, e_cron_part, e_cron_bounds]
    refine .cond (p := (!t2.2.1)) (by first | rfl | simp only [wz, wd, ws, seval]) (fun h1 => ?_) (fun h1 => ?_)
    · rw [ite_t h1] at h
      refine Rw.walk ?_
      simp only [wz, wd, ws, seval, c69r7, semI.eq_10, semI.eq_11, semI.eq_3, semI.eq_5, semI.eq_7, e_cron_part, e_cron_bounds]
      obtain rfl := Option.some.inj h
      refine .weak (Imp.co [] _ _ ?_ ?_ ?_ ?_ ?_) (tail) <;> simp only [wz, wd, ws, seval, wi, er_nil, e_cron_part, e_cron_bounds]
    · rw [ite_f h1] at h
      refine .skip ?_
      obtain rfl := Option.some.inj h
      refine .weak (Imp.co [] _ _ ?_ ?_ ?_ ?_ ?_) (tail) <;> simp only [wz, wd, ws, seval, wi, er_nil, e_cron_part, e_cron_bounds]
  · rw [ite_f h1] at h
    refine .skip ?_
    obtain rfl := Option.some.inj h
    refine .weak (Imp.co [] _ _ ?_ ?_ ?_ ?_ ?_) (tail) <;> simp only [wz, wd, ws, seval, wi, er_nil, e_cron_part, e_cron_bounds]
theorem isPart_eq {x : Sc} {b : Bool} (h : isPart x = some b) : x = scPart b := by
  unfold isPart at h
  split at h
  · cases h; rfl
  · split at h
    · rename_i ht; cases h; rw [ht]; rfl
    · cases h
  · cases h
theorem repD_part {w : World} {S : Nat → Prop} {b : Bool} {u : Value} (h : RepD w S (scPart b) u) : u = errV b := by
  cases b with
  | false => cases h; rfl
  | true =>
    cases h with
    | ifa _ _ vs hl _ =>
      obtain ⟨vs⟩ := vs
      cases vs with
      | nil => rfl
      | cons _ _ => cases hl
theorem part_rep {w : World} {S : Nat → Prop} (b : Bool) : RepD w S (scPart b) (errV b) := by
  cases b with
  | false => exact .z .nilIface
  | true => exact .ifa _ _ #[] rfl fun j sc hj => by cases hj
theorem f_cron_field_ok (s : Str) (b : cron_bounds) (y_ : Int × Sc) (h : f_cron_field s b = some y_) : Fun Tryd.prog glP 48 [.b (.s (.d (.str s))), .b (.agg ((e_cron_bounds b).map Lc.d))] (.tup [.s (.d (.int .u64 y_.1)), .s (.d y_.2)]) := by
  obtain ⟨hN, h⟩ := gd_iff.1 h
  obtain ⟨r, hr, rfl⟩ := Option.map_eq_some_iff.1 h
  refine Fun.flatG (v := .tuple #[.int .u64 r.1, errV r.2]) (by kernel_rfl) (fun w S => repV_two (.int _ _) (part_rep _)) fun w S vs hS hG hA => ?_
  obtain ⟨v, u, rfl, h1, h2⟩ := args2 hA
  obtain rfl := repv_str (l := s) h1
  obtain ⟨us, rfl, hl, h2⟩ := h2
  obtain ⟨us⟩ := us
  match us, hl with
  | [a, c], _ =>
    have ha := h2 0 _ rfl
    have hc := h2 1 _ rfl
    cases ha with
    | d _ _ ha => cases hc with
      | d _ _ hc =>
        cases ha; cases hc
        refine cron_field_spec (partV b) s b.low b.high hN r hr w fun x q hq W hb => ?_
        obtain ⟨z, hz, hq⟩ := Option.bind_eq_some_iff.1 hq
        obtain ⟨e, he, rfl⟩ := Option.map_eq_some_iff.1 hq
        have hf := f_cron_values_ok x b z hz
        refine (hf.2 W S _ (fun k hk => Nat.lt_of_lt_of_le (hS k hk) hb.size) (hG.later hS hb) (repA_two (.d _ _ (.str _)) ⟨_, rfl, rfl, fun j lc hj => ?_⟩)).mono fun e' w' => ?_
        · match j, hj with
          | 0, hj => cases hj; exact .d _ _ (.int _ _)
          | 1, hj => cases hj; exact .d _ _ (.int _ _)
        · rintro ⟨u, S1, rfl, _, _, hr, hb⟩
          refine ⟨?_, hb⟩
          obtain ⟨vs, rfl, hl, hr⟩ := hr
          obtain ⟨vs⟩ := vs
          match vs, hl with
          | [a, b], _ =>
            have h1 := hr 0 _ rfl
            have h2 := hr 1 _ rfl
            cases h1 with
            | d _ _ h1 => cases h2 with
              | d _ _ h2 =>
                rw [isPart_eq he] at h2
                cases h1
                obtain rfl := repD_part h2
                rfl
theorem f_errors_Is_ok (e t : Sc) (y_ : Bool) (h : f_errors_Is e t = some y_) : Fun Tryd.prog glP 49 [.b (.s (.d e)), .b (.s (.d t))] (.b (.s (.d (.bool y_)))) := by
  unfold f_errors_Is at h
  split at h
  · rename_i ht
    obtain rfl := isPart_eq ht
    obtain rfl := isPart_eq h
    refine Fun.flatG (by kernel_rfl) (of_bool _) fun w S vs hS hG hA => ?_
    obtain ⟨v, u, rfl, h1, h2⟩ := args2 hA
    cases h1 with
    | d _ _ h1 => cases h2 with
      | d _ _ h2 =>
        obtain rfl := repD_part h1
        obtain rfl := repD_part h2
        cases y_ with
        | false => exact (is_nil_part w).mono fun e w' => by rintro ⟨rfl, rfl⟩; exact ⟨rfl, Below.refl _ _⟩
        | true => exact (is_part w).mono fun e w' => by rintro ⟨rfl, rfl⟩; exact ⟨rfl, Below.refl _ _⟩
  · cases h
-- 23 consignor/cron.Parse
def c23r0 : List Opn := [
  ⟨(some 2), none, .new [(.d (.int .u64 0)), (.d (.int .u64 0)), (.d (.int .u64 0)), (.d (.int .u64 0)), (.d (.int .u64 0)), (.d (.bool false)), (.d (.bool false))]⟩, 
  ⟨(some 3), none, .mv (.c (.s (.d (.int .i64 0))))⟩]
def c23r1 : List Opn := [
  ⟨(some 10), none, .mv (.t 0)⟩, 
  ⟨(some 11), none, .call (.fn 46) [(.t 10), (.c (.s (.d (.str [32]))))]⟩, 
  ⟨(some 4), none, .mv (.t 11)⟩]
def c23r2 : List Opn := [
  ⟨(some 12), none, .mv (.t 0)⟩, 
  ⟨(some 13), none, .len .str (.t 12)⟩, 
  ⟨(some 14), none, .bin .gtr (.t 13) (.c (.s (.d (.int .i64 200))))⟩, 
  ⟨(some 15), none, .mv (.t 14)⟩, 
  ⟨(some 16), some (15, false), .mv (.t 4)⟩, 
  ⟨(some 17), some (15, false), .len (.sl 0) (.t 16)⟩, 
  ⟨(some 18), some (15, false), .call (.fn 47) []⟩, 
  ⟨(some 19), some (15, false), .mv (.c (.s (.d (.int .i64 5))))⟩, 
  ⟨(some 20), some (15, false), .bin .neq (.t 17) (.t 19)⟩, 
  ⟨(some 21), none, .pick (.t 15) (.c (.s (.d (.bool true)))) (.t 20)⟩]
def c23r3 : List Opn := [
  ⟨(some 22), none, .build [(.d (.int .u64 0)), (.d (.int .u64 0)), (.d (.int .u64 0)), (.d (.int .u64 0)), (.d (.int .u64 0)), (.d (.bool false)), (.d (.bool false))] []⟩, 
  ⟨none, none, .store 7 (.t 2) (.t 22)⟩, 
  ⟨(some 3), none, .mv (.c (.s (.d (.int .i64 6))))⟩]
def c23r4 : List Opn := [
  ⟨(some 5), none, .new [(.d (.int .u64 0)), (.d (.int .u64 0)), (.d (.int .u64 0)), (.d (.int .u64 0)), (.d (.int .u64 0))]⟩]
def c23r5 : List Opn := [
  ⟨(some 23), none, .call (.fn 47) []⟩, 
  ⟨(some 24), none, .mv (.c (.s (.d (.int .i64 0))))⟩]
def c23r6 : List Opn := [
  ⟨(some 25), none, .bin .lss (.t 24) (.c (.s (.d (.int .i64 5))))⟩]
def c23r7 : List Opn := [
  ⟨(some 26), none, .mv (.t 24)⟩, 
  ⟨(some 27), none, .idx (.arr 5 2 true) (.t 23) (.t 24)⟩, 
  ⟨(some 7), none, .new [(.d (.int .i64 0)), (.d (.int .i64 0))]⟩, 
  ⟨(some 6), none, .mv (.t 26)⟩, 
  ⟨none, none, .store 2 (.t 7) (.t 27)⟩]
def c23r8 : List Opn := [
  ⟨(some 29), none, .mv (.t 4)⟩, 
  ⟨(some 30), none, .mv (.t 6)⟩, 
  ⟨(some 31), none, .iadr (.sl 1) (.t 29) (.t 30)⟩, 
  ⟨(some 32), none, .load false 1 (.t 31)⟩, 
  ⟨(some 33), none, .load true 2 (.t 7)⟩, 
  ⟨(some 34), none, .call (.fn 48) [(.t 32), (.t 33)]⟩, 
  ⟨(some 28), none, .mv (.t 34)⟩, 
  ⟨(some 35), none, .ext (.t 28) 0⟩, 
  ⟨(some 36), none, .ext (.t 28) 1⟩, 
  ⟨(some 8), none, .mv (.t 35)⟩, 
  ⟨(some 9), none, .mv (.t 36)⟩]
def c23r9 : List Opn := [
  ⟨(some 37), none, .mv (.t 9)⟩, 
  ⟨(some 38), none, .build [] []⟩, 
  ⟨(some 39), none, .mkif 86 (.t 38)⟩, 
  ⟨(some 40), none, .call (.fn 49) [(.t 37), (.t 39)]⟩]
def c23r10 : List Opn := [
  ⟨(some 41), none, .build [(.d (.int .u64 0)), (.d (.int .u64 0)), (.d (.int .u64 0)), (.d (.int .u64 0)), (.d (.int .u64 0)), (.d (.bool false)), (.d (.bool false))] []⟩, 
  ⟨none, none, .store 7 (.t 2) (.t 41)⟩, 
  ⟨(some 3), none, .mv (.c (.s (.d (.int .i64 6))))⟩]
def c23r11 : List Opn := [
  ⟨(some 42), none, .mv (.t 6)⟩, 
  ⟨(some 43), none, .mv (.t 8)⟩, 
  ⟨(some 44), none, .iadr (.ptr 5 1) (.t 5) (.t 42)⟩, 
  ⟨none, none, .store 1 (.t 44) (.t 43)⟩]
def c23r12 : List Opn := [
  ⟨(some 45), none, .bin .add (.t 24) (.c (.s (.d (.int .i64 1))))⟩, 
  ⟨(some 24), none, .mv (.t 45)⟩]
def c23l13 : C := .seq (.reg c23r6 none [2, 4, 5, 23, 24, 25]) (.seq (.cond (.t 25) (.skip) (.exit 0)) (.seq (.blk 1 (.seq (.reg c23r7 none [2, 4, 5, 6, 7, 23, 24]) (.seq (.reg c23r8 (some [0, 0, 3, 7, 0, 31, 63, 127, 127, 255, 1023]) [2, 4, 5, 6, 8, 9, 23, 24]) (.seq (.seq (.reg c23r9 none [2, 4, 5, 6, 8, 23, 24, 40]) (.cond (.t 40) (.seq (.reg c23r10 none [2, 3]) (.ret)) (.skip))) (.reg c23r11 none [2, 4, 5, 23, 24]))))) (.reg c23r12 none [2, 4, 5, 23, 24])))
def c23r13 : List Opn := [
  ⟨(some 46), none, .iadr (.ptr 5 1) (.t 5) (.c (.s (.d (.int .i64 0))))⟩, 
  ⟨(some 47), none, .load false 1 (.t 46)⟩, 
  ⟨(some 48), none, .iadr (.ptr 5 1) (.t 5) (.c (.s (.d (.int .i64 1))))⟩, 
  ⟨(some 49), none, .load false 1 (.t 48)⟩, 
  ⟨(some 50), none, .iadr (.ptr 5 1) (.t 5) (.c (.s (.d (.int .i64 2))))⟩, 
  ⟨(some 51), none, .load false 1 (.t 50)⟩, 
  ⟨(some 52), none, .iadr (.ptr 5 1) (.t 5) (.c (.s (.d (.int .i64 3))))⟩, 
  ⟨(some 53), none, .load false 1 (.t 52)⟩, 
  ⟨(some 54), none, .iadr (.ptr 5 1) (.t 5) (.c (.s (.d (.int .i64 4))))⟩, 
  ⟨(some 55), none, .load false 1 (.t 54)⟩, 
  ⟨(some 56), none, .mv (.t 4)⟩, 
  ⟨(some 57), none, .iadr (.sl 1) (.t 56) (.c (.s (.d (.int .i64 2))))⟩, 
  ⟨(some 58), none, .load false 1 (.t 57)⟩, 
  ⟨(some 59), none, .bin .eql (.t 58) (.c (.s (.d (.str [42]))))⟩, 
  ⟨(some 60), none, .mv (.t 4)⟩, 
  ⟨(some 61), none, .iadr (.sl 1) (.t 60) (.c (.s (.d (.int .i64 4))))⟩, 
  ⟨(some 62), none, .load false 1 (.t 61)⟩, 
  ⟨(some 63), none, .bin .eql (.t 62) (.c (.s (.d (.str [42]))))⟩, 
  ⟨(some 64), none, .build [(.d (.int .u64 0)), (.d (.int .u64 0)), (.d (.int .u64 0)), (.d (.int .u64 0)), (.d (.int .u64 0)), (.d (.bool false)), (.d (.bool false))] [(0, 1, (.t 47)), (1, 1, (.t 49)), (2, 1, (.t 51)), (3, 1, (.t 53)), (4, 1, (.t 55)), (5, 1, (.t 59)), (6, 1, (.t 63))]⟩, 
  ⟨none, none, .store 7 (.t 2) (.t 64)⟩, 
  ⟨(some 3), none, .mv (.c (.s (.d (.int .i64 0))))⟩]
def c23 : C := .seq (.reg c23r0 none [0, 2]) (.seq (.reg c23r1 none [0, 2, 4]) (.seq (.seq (.reg c23r2 none [2, 4, 21]) (.cond (.t 21) (.seq (.reg c23r3 none [2, 3]) (.ret)) (.skip))) (.seq (.reg c23r4 none [2, 4, 5]) (.seq (.seq (.reg c23r5 none [2, 4, 5, 23, 24]) (.blk 0 (.loop c23l13))) (.seq (.reg c23r13 (some [0, 1, 0, 4, 0, 16, 0, 64, 0, 256, 0, 1024, 3072, 7168, 0, 16384, 49152, 114688, 262143, 524287, 1048575]) [2, 3]) (.ret))))))
def k23 : List (Nat × List Nat) := [(13, [2, 3]), (12, [2, 4, 5, 23, 24]), (11, [2, 4, 5, 23, 24]), (10, [2, 3]), (9, [2, 4, 5, 6, 8, 23, 24, 40]), (8, [2, 4, 5, 6, 8, 9, 23, 24]), (7, [2, 4, 5, 6, 7, 23, 24]), (6, [2, 4, 5, 23, 24, 25]), (5, [2, 4, 5, 23, 24]), (4, [2, 4, 5]), (3, [2, 3]), (2, [2, 4, 21]), (1, [0, 2, 4]), (0, [0, 2])]
theorem cc23 : (Tryd.f23.body).bind (cC Tryd.prog 65 k23) = some c23 := by kernel_rfl
def rv23 : List RV := [.c 2 true 7, .t 3]
theorem cr23 : cRVs Tryd.prog Tryd.f23.results.toList = some rv23 := by kernel_rfl
theorem f_cron_Parse_l13_ok (s : Str) (t : (List Str)) (t2 : (List cron_bounds)) (y_ : api_Cron × Int) (R_ : St → Prop) (hR : (Ret Tryd.prog glP [] rv23 (.tup [.agg ((e_api_Cron y_.1).map Lc.d), .s (.d (.int .i64 y_.2))])) = R_) : ∀ (m_ : Nat) (v24 : Int) (bits : (List Int)) (res_ : (Int × (List Int)) ⊕ (api_Cron × Int)) (h : f_cron_Parse_l13 s t t2 m_ v24 bits = some res_) (k_ : List It) (hx : ∀ s_ : Int × (List Int), res_ = .inl s_ → W Tryd.prog glP 65 k_ ⟨lkT [(2, .b (.s (.ptr 2 1 0 0))), (4, .b (.s (.d (.sl (t.map eS))))), (5, .b (.s (.ptr 5 1 0 0))), (23, .b (.agg (ea e_cron_bounds t2))), (24, .b (.s (.d (.int .i64 s_.1))))], lkG [(2, ⟨7, [[(.d (.int .u64 0)), (.d (.int .u64 0)), (.d (.int .u64 0)), (.d (.int .u64 0)), (.d (.int .u64 0)), (.d (.bool false)), (.d (.bool false))]], false⟩), (5, ⟨5, [ea (eI .u64) s_.2], false⟩)]⟩ R_) (hr : ∀ z_ : api_Cron × Int, res_ = .inr z_ → z_ = y_), W Tryd.prog glP 65 (.c c23l13 :: .lp c23l13 :: .blk 0 :: k_) ⟨lkT [(2, .b (.s (.ptr 2 1 0 0))), (4, .b (.s (.d (.sl (t.map eS))))), (5, .b (.s (.ptr 5 1 0 0))), (23, .b (.agg (ea e_cron_bounds t2))), (24, .b (.s (.d (.int .i64 v24))))], lkG [(2, ⟨7, [[(.d (.int .u64 0)), (.d (.int .u64 0)), (.d (.int .u64 0)), (.d (.int .u64 0)), (.d (.int .u64 0)), (.d (.bool false)), (.d (.bool false))]], false⟩), (5, ⟨5, [ea (eI .u64) bits], false⟩)]⟩ R_ := by
  intro m_; induction m_ with
  | zero => intro v24 bits res_ h; rw [f_cron_Parse_l13.eq_1] at h; cases h
  | succ m_ ih =>
    intro v24 bits res_ h k_ hx hr; rw [f_cron_Parse_l13.eq_2] at h; refine W.cdef c23l13.eq_1 ?_
    refine .seq ?_
    refine Rw.walk ?_
    simp only [wz, wd, ws, seval, c23r6, semI.eq_10, semI.eq_11, semI.eq_3, semI.eq_5, semI.eq_7, e_cron_part, e_cron_bounds, e_api_Cron]
    refine .seq ?_
    refine .cond (p := (decide (v24 < 5))) (by first | rfl | simp only [wz, wd, ws, seval]) (fun h1 => ?_) (fun h1 => ?_)
    · rw [ite_t h1] at h
      refine .skip ?_
      refine .seq ?_
      refine .blk ?_
      refine .seq ?_
      refine Rw.walk ?_
      simp only [wz, wd, ws, seval, c23r7, semI.eq_10, semI.eq_11, semI.eq_3, semI.eq_5, semI.eq_7, e_cron_part, e_cron_bounds, e_api_Cron]
      obtain ⟨g3, h⟩ := gd_iff.1 h
      obtain ⟨x, e4, h⟩ := Option.bind_eq_some_iff.1 h
      refine Go1.of (sem_idxA (by rfl) e_cron_bounds_len e4 (by decide) (by rfl) (by rfl)) ?_
      simp only [wz, wd, ws, seval, c23r7, semI.eq_10, semI.eq_11, semI.eq_3, semI.eq_5, semI.eq_7, e_cron_part, e_cron_bounds, e_api_Cron]
      repeat (refine And.intro ?_ ?_; · first | omega | (simp only [List.length_append, List.length_cons, List.length_nil] at *; omega) | (simp only [List.map_cons, List.map_nil] at *; omega) | (intro q; simp only [wz, wd, ws, seval, q]; done))
      refine .seq ?_
      refine RwD.walk ?_
      simp only [wz, wd, ws, seval, c23r8, semI.eq_10, semI.eq_11, semI.eq_3, semI.eq_5, semI.eq_7, e_cron_part, e_cron_bounds, e_api_Cron]
      obtain ⟨x2, e5, h⟩ := Option.bind_eq_some_iff.1 h
      refine GoD1.of (sem_iadr eS_len e5 (by rfl) (by rfl)) ?_
      simp only [wz, wd, ws, seval, c23r8, semI.eq_10, semI.eq_11, semI.eq_3, semI.eq_5, semI.eq_7, e_cron_part, e_cron_bounds, e_api_Cron]
      obtain ⟨t3, e6, h⟩ := Option.bind_eq_some_iff.1 h
      refine call_fun [] true ⟨trivial, trivial, trivial, trivial⟩ rfl ?_ (f_cron_field_ok _ _ _ e6) (fun h => by cases h) (fun i hi => by cases hi) ?_
      · simp only [wz, wd, ws, seval, e_cron_part, e_cron_bounds, e_api_Cron]
      simp only [wz, wd, ws, seval, c23r8, semI.eq_10, semI.eq_11, semI.eq_3, semI.eq_5, semI.eq_7, e_cron_part, e_cron_bounds, e_api_Cron]
      refine .seq ?_
      refine .seq ?_
      refine Rw.walk ?_
      simp only [wz, wd, ws, seval, c23r9, semI.eq_10, semI.eq_11, semI.eq_3, semI.eq_5, semI.eq_7, e_cron_part, e_cron_bounds, e_api_Cron]
      obtain ⟨t4, e7, h⟩ := Option.bind_eq_some_iff.1 h
      refine call_fun [] false ⟨trivial, trivial, trivial, trivial⟩ rfl ?_ (f_errors_Is_ok _ _ _ e7) (fun _ => rfl) (fun i hi => by cases hi) ?_
      · simp only [wz, wd, ws, seval, e_cron_part, e_cron_bounds, e_api_Cron]
      simp only [wz, wd, ws, seval, c23r9, semI.eq_10, semI.eq_11, semI.eq_3, semI.eq_5, semI.eq_7, e_cron_part, e_cron_bounds, e_api_Cron]
      refine .cond (p := t4) (by first | rfl | simp only [wz, wd, ws, seval]) (fun h1 => ?_) (fun h1 => ?_)
      · rw [ite_t h1] at h
        refine .seq ?_
        refine Rw.walk ?_
        simp only [wz, wd, ws, seval, c23r10, semI.eq_10, semI.eq_11, semI.eq_3, semI.eq_5, semI.eq_7, e_cron_part, e_cron_bounds, e_api_Cron]
        obtain rfl := Option.some.inj h; obtain rfl := hr _ rfl
        refine .ret ?_
        rw [← hR]
        simp only [wz, wd, ws, seval, rv23, semI.eq_10, e_cron_part, e_cron_bounds, e_api_Cron]
      · rw [ite_f h1] at h
        refine .skip ?_
        refine Rw.walk ?_
        simp only [wz, wd, ws, seval, c23r11, semI.eq_3, semI.eq_5, semI.eq_7, e_cron_part, e_cron_bounds, e_api_Cron]
        obtain ⟨g8, h⟩ := gd_iff.1 h
        refine Go1.of (sem_iadrA (by rfl) (by rfl) (by rfl)) ?_
        simp only [wz, wd, ws, seval, c23r11, semI.eq_3, semI.eq_5, semI.eq_7, e_cron_part, e_cron_bounds, e_api_Cron]
        repeat (refine And.intro ?_ ?_; · first | omega | (simp only [List.length_append, List.length_cons, List.length_nil] at *; omega) | (simp only [List.map_cons, List.map_nil] at *; omega) | (intro q; simp only [wz, wd, ws, seval, q]; done))
        obtain ⟨g9, h⟩ := gd_iff.1 h
        refine Go1.of (sem_storeA (enc := (eI .u64)) (a' := t3.1) (i := v24) (eI_len _) (by rfl) (by rfl) (by omega) (by omega) (by rfl) (by trivial) (by rfl)) ?_
        simp only [wz, wd, ws, seval, c23r11, semI.eq_3, semI.eq_5, semI.eq_7, e_cron_part, e_cron_bounds, e_api_Cron]
        refine .eblk ?_
        refine Rw.walk ?_
        simp only [wz, wd, ws, seval, c23r12, semI.eq_10, semI.eq_11, semI.eq_3, semI.eq_5, semI.eq_7, e_cron_part, e_cron_bounds, e_api_Cron]
        refine .lp ?_
        refine .weak (Imp.co [] _ _ ?_ ?_ ?_ ?_ ?_) (ih (IntKind.i64.wrap (v24 + 1)) (bits.set v24.toNat t3.1) _ h k_ hx hr) <;> simp only [wz, wd, ws, seval, wi, er_nil, e_cron_part, e_cron_bounds, e_api_Cron]
    · rw [ite_f h1] at h
      refine .exit rfl ?_
      obtain rfl := Option.some.inj h
      refine .weak (Imp.co [] _ _ ?_ ?_ ?_ ?_ ?_) (hx _ rfl) <;> simp only [wz, wd, ws, seval, wi, er_nil, e_cron_part, e_cron_bounds, e_api_Cron]
theorem f_cron_Parse_ok (s : Str) (y_ : api_Cron × Int) (h : f_cron_Parse s = some y_) : Fun Tryd.prog glP 23 [.b (.s (.d (.str s)))] (.tup [.agg ((e_api_Cron y_.1).map Lc.d), .s (.d (.int .i64 y_.2))]) := by
  refine fun_walk [] Tryd.func23 Tryd.ntmps23 cc23 cr23 (by kernel_rfl) (by simp only [List.length_cons, List.length_nil]; decide) ?_
  generalize hR : Ret _ _ _ _ _ = R_
  simp only [wz, wd, ws, seval, e_cron_part, e_cron_bounds, e_api_Cron]
  unfold f_cron_Parse at h; unfold c23
  refine .seq ?_
  refine Rw.walk ?_
  simp only [wz, wd, ws, seval, c23r0, semI.eq_10, semI.eq_11, semI.eq_3, semI.eq_5, semI.eq_7, e_cron_part, e_cron_bounds, e_api_Cron]
  refine .seq ?_
  refine Rw.walk ?_
  simp only [wz, wd, ws, seval, c23r1, semI.eq_10, semI.eq_11, semI.eq_3, semI.eq_5, semI.eq_7, e_cron_part, e_cron_bounds, e_api_Cron]
  obtain ⟨t, e1, h⟩ := Option.bind_eq_some_iff.1 h
  refine call_fun [] true ⟨trivial, trivial, trivial, trivial⟩ rfl ?_ (f_strings_Split_ok _ _ _ e1) (fun h => by cases h) (fun i hi => by cases hi) ?_
  · simp only [wz, wd, ws, seval, e_cron_part, e_cron_bounds, e_api_Cron]
  simp only [wz, wd, ws, seval, c23r1, semI.eq_10, semI.eq_11, semI.eq_3, semI.eq_5, semI.eq_7, e_cron_part, e_cron_bounds, e_api_Cron]
  refine .seq ?_
  refine .seq ?_
  obtain ⟨s2, hf, h⟩ := Option.bind_eq_some_iff.1 h
  refine W.cut1 ⟨lkT [(2, .b (.s (.ptr 2 1 0 0))), (4, .b (.s (.d (.sl (t.map eS))))), (21, .b (.s (.d (.bool s2))))], lkG [(2, ⟨7, [[(.d (.int .u64 0)), (.d (.int .u64 0)), (.d (.int .u64 0)), (.d (.int .u64 0)), (.d (.int .u64 0)), (.d (.bool false)), (.d (.bool false))]], false⟩)]⟩ ?_ (fun tail => ?_)
  · skip
    refine .cond (p := s2) (by first | rfl | simp only [wz, wd, ws, seval]) (fun h1 => ?_) (fun h1 => ?_)
    · rw [ite_t h1] at h
      refine .seq ?_
      refine Rw.walk ?_
      simp only [wz, wd, ws, seval, c23r3, semI.eq_10, semI.eq_11, semI.eq_3, semI.eq_5, semI.eq_7, e_cron_part, e_cron_bounds, e_api_Cron]
      obtain rfl := Option.some.inj h
      refine .ret ?_
      rw [← hR]
      simp only [wz, wd, ws, seval, rv23, semI.eq_10, e_cron_part, e_cron_bounds, e_api_Cron]
    · rw [ite_f h1] at h
      refine .skip ?_
      refine .seq ?_
      refine Rw.walk ?_
      simp only [wz, wd, ws, seval, c23r4, semI.eq_10, semI.eq_11, e_cron_part, e_cron_bounds, e_api_Cron]
      refine Go1.of (sem_newA (enc := (eI .u64)) (l := (List.replicate 5 0)) (by first | rfl | (simp only [List.length_map, List.length_replicate, List.length_set]; rfl)) (by first | rfl | (simp only [List.length_map, List.length_replicate, List.length_set]; rfl)) (by first | rfl | (simp only [List.length_map, List.length_replicate, List.length_set]; rfl))) ?_
      simp only [wz, wd, ws, seval, c23r4, semI.eq_10, semI.eq_11, e_cron_part, e_cron_bounds, e_api_Cron]
      refine .seq ?_
      refine .seq ?_
      refine Rw.walk ?_
      simp only [wz, wd, ws, seval, c23r5, semI.eq_10, semI.eq_11, semI.eq_3, semI.eq_5, semI.eq_7, e_cron_part, e_cron_bounds, e_api_Cron]
      obtain ⟨t2, e2, h⟩ := Option.bind_eq_some_iff.1 h
      refine call_fun [] true ⟨trivial, trivial⟩ rfl ?_ (f_cron_fields_ok _ e2) (fun h => by cases h) (fun i hi => by cases hi) ?_
      · simp only [wz, wd, ws, seval, e_cron_part, e_cron_bounds, e_api_Cron]
      simp only [wz, wd, ws, seval, c23r5, semI.eq_10, semI.eq_11, semI.eq_3, semI.eq_5, semI.eq_7, e_cron_part, e_cron_bounds, e_api_Cron]
      refine .blk ?_
      obtain ⟨s3, hf, h⟩ := Option.bind_eq_some_iff.1 h
      refine .loop (.weak (Imp.co [] _ _ ?c1 ?c2 ?c3 ?c4 ?c5) (f_cron_Parse_l13_ok s t t2 _ _ hR _ _ _ _ hf _ ?_ ?_))
      case c1 | c2 | c3 | c4 | c5 => simp only [wz, wd, ws, seval, wi, er_nil, e_cron_part, e_cron_bounds, e_api_Cron]
      · intro s4 hs; subst hs; dsimp only at h
        refine .seq ?_
        refine RwD.walk ?_
        simp only [wz, wd, ws, seval, c23r13, semI.eq_3, semI.eq_5, semI.eq_7, e_cron_part, e_cron_bounds, e_api_Cron]
        refine GoD1.of (sem_iadrA (by rfl) (by rfl) (by rfl)) ?_
        simp only [wz, wd, ws, seval, c23r13, semI.eq_3, semI.eq_5, semI.eq_7, e_cron_part, e_cron_bounds, e_api_Cron]
        repeat (refine And.intro ?_ ?_; · first | omega | (simp only [List.length_append, List.length_cons, List.length_nil] at *; omega) | (simp only [List.map_cons, List.map_nil] at *; omega) | (intro q; simp only [wz, wd, ws, seval, q]; done))
        obtain ⟨x, e10, h⟩ := Option.bind_eq_some_iff.1 h
        refine GoD1.of (sem_loadA1 (eI_len _) e10 (by rfl) (by rfl) (by rfl)) ?_
        simp only [wz, wd, ws, seval, c23r13, semI.eq_3, semI.eq_5, semI.eq_7, e_cron_part, e_cron_bounds, e_api_Cron]
        refine GoD1.of (sem_iadrA (by rfl) (by rfl) (by rfl)) ?_
        simp only [wz, wd, ws, seval, c23r13, semI.eq_3, semI.eq_5, semI.eq_7, e_cron_part, e_cron_bounds, e_api_Cron]
        repeat (refine And.intro ?_ ?_; · first | omega | (simp only [List.length_append, List.length_cons, List.length_nil] at *; omega) | (simp only [List.map_cons, List.map_nil] at *; omega) | (intro q; simp only [wz, wd, ws, seval, q]; done))
        obtain ⟨x2, e11, h⟩ := Option.bind_eq_some_iff.1 h
        refine GoD1.of (sem_loadA1 (eI_len _) e11 (by rfl) (by rfl) (by rfl)) ?_
        simp only [wz, wd, ws, seval, c23r13, semI.eq_3, semI.eq_5, semI.eq_7, e_cron_part, e_cron_bounds, e_api_Cron]
        refine GoD1.of (sem_iadrA (by rfl) (by rfl) (by rfl)) ?_
        simp only [wz, wd, ws, seval, c23r13, semI.eq_3, semI.eq_5, semI.eq_7, e_cron_part, e_cron_bounds, e_api_Cron]
        repeat (refine And.intro ?_ ?_; · first | omega | (simp only [List.length_append, List.length_cons, List.length_nil] at *; omega) | (simp only [List.map_cons, List.map_nil] at *; omega) | (intro q; simp only [wz, wd, ws, seval, q]; done))
        obtain ⟨x3, e12, h⟩ := Option.bind_eq_some_iff.1 h
        refine GoD1.of (sem_loadA1 (eI_len _) e12 (by rfl) (by rfl) (by rfl)) ?_
        simp only [wz, wd, ws, seval, c23r13, semI.eq_3, semI.eq_5, semI.eq_7, e_cron_part, e_cron_bounds, e_api_Cron]
        refine GoD1.of (sem_iadrA (by rfl) (by rfl) (by rfl)) ?_
        simp only [wz, wd, ws, seval, c23r13, semI.eq_3, semI.eq_5, semI.eq_7, e_cron_part, e_cron_bounds, e_api_Cron]
        repeat (refine And.intro ?_ ?_; · first | omega | (simp only [List.length_append, List.length_cons, List.length_nil] at *; omega) | (simp only [List.map_cons, List.map_nil] at *; omega) | (intro q; simp only [wz, wd, ws, seval, q]; done))
        obtain ⟨x4, e13, h⟩ := Option.bind_eq_some_iff.1 h
        refine GoD1.of (sem_loadA1 (eI_len _) e13 (by rfl) (by rfl) (by rfl)) ?_
        simp only [wz, wd, ws, seval, c23r13, semI.eq_3, semI.eq_5, semI.eq_7, e_cron_part, e_cron_bounds, e_api_Cron]
        refine GoD1.of (sem_iadrA (by rfl) (by rfl) (by rfl)) ?_
        simp only [wz, wd, ws, seval, c23r13, semI.eq_3, semI.eq_5, semI.eq_7, e_cron_part, e_cron_bounds, e_api_Cron]
        repeat (refine And.intro ?_ ?_; · first | omega | (simp only [List.length_append, List.length_cons, List.length_nil] at *; omega) | (simp only [List.map_cons, List.map_nil] at *; omega) | (intro q; simp only [wz, wd, ws, seval, q]; done))
        obtain ⟨x5, e14, h⟩ := Option.bind_eq_some_iff.1 h
        refine GoD1.of (sem_loadA1 (eI_len _) e14 (by rfl) (by rfl) (by rfl)) ?_
        simp only [wz, wd, ws, seval, c23r13, semI.eq_3, semI.eq_5, semI.eq_7, e_cron_part, e_cron_bounds, e_api_Cron]
        obtain ⟨x6, e15, h⟩ := Option.bind_eq_some_iff.1 h
        refine GoD1.of (sem_iadr eS_len e15 (by rfl) (by rfl)) ?_
        simp only [wz, wd, ws, seval, c23r13, semI.eq_3, semI.eq_5, semI.eq_7, e_cron_part, e_cron_bounds, e_api_Cron]
        refine GoD1.of (semI.eq_10 ..) ?_
        simp only [wz, wd, ws, seval, c23r13, semI.eq_3, semI.eq_5, semI.eq_7, e_cron_part, e_cron_bounds, e_api_Cron]
        obtain ⟨x7, e16, h⟩ := Option.bind_eq_some_iff.1 h
        refine GoD1.of (sem_iadr eS_len e16 (by rfl) (by rfl)) ?_
        simp only [wz, wd, ws, seval, c23r13, semI.eq_3, semI.eq_5, semI.eq_7, e_cron_part, e_cron_bounds, e_api_Cron]
        refine GoD1.of (semI.eq_10 ..) ?_
        simp only [wz, wd, ws, seval, c23r13, semI.eq_3, semI.eq_5, semI.eq_7, e_cron_part, e_cron_bounds, e_api_Cron]
        refine GoD1.of (semI.eq_11 ..) ?_
        simp only [wz, wd, ws, seval, c23r13, semI.eq_3, semI.eq_5, semI.eq_7, e_cron_part, e_cron_bounds, e_api_Cron]
        obtain rfl := Option.some.inj h
        refine .ret ?_
        rw [← hR]
        simp only [wz, wd, ws, seval, rv23, semI.eq_10, e_cron_part, e_cron_bounds, e_api_Cron]
      · intro z hz; subst hz; dsimp only at h
        exact Option.some.inj h
  replace h := hf
  refine Rs.walk ?_
  simp only [wz, wd, ws, seval, c23r2, semI.eq_10, semI.eq_11, semI.eq_3, semI.eq_5, semI.eq_7, e_cron_part, e_cron_bounds, e_api_Cron]
  cases q4 : (decide ((s.length : Int) > 200))
  case' false =>
    rw [ite_f q4] at h
    simp only [wz, wd, ws, seval, q4, semI.eq_10, semI.eq_11, semI.eq_3, semI.eq_5, semI.eq_7, e_cron_part, e_cron_bounds, e_api_Cron]
    obtain ⟨t2, e17, h⟩ := Option.bind_eq_some_iff.1 h
    refine call_funT [] true rfl rfl (by simp only [wz, wd, ws, seval]) rfl ?_ (f_cron_fields_ok _ e17) (fun h => by cases h) (fun i hi => by cases hi) ?_
    · simp only [wz, wd, ws, seval, e_cron_part, e_cron_bounds, e_api_Cron]
    simp only [wz, wd, ws, seval, q4, semI.eq_10, semI.eq_11, semI.eq_3, semI.eq_5, semI.eq_7, e_cron_part, e_cron_bounds, e_api_Cron]
    repeat (refine And.intro ?_ ?_; · first | omega | (simp only [List.length_append, List.length_cons, List.length_nil] at *; omega) | (simp only [List.map_cons, List.map_nil] at *; omega) | (intro q; simp only [wz, wd, ws, seval, q]; done))
    obtain rfl := Option.some.inj h
    refine .weak (Imp.co [] _ _ ?_ ?_ ?_ ?_ ?_) (tail) <;> simp only [wz, wd, ws, seval, wi, er_nil, e_cron_part, e_cron_bounds, e_api_Cron]
  case' true =>
    rw [ite_t q4] at h
    simp only [wz, wd, ws, seval, q4, semI.eq_10, semI.eq_11, semI.eq_3, semI.eq_5, semI.eq_7, e_cron_part, e_cron_bounds, e_api_Cron]
    repeat (refine And.intro ?_ ?_; · first | omega | (simp only [List.length_append, List.length_cons, List.length_nil] at *; omega) | (simp only [List.map_cons, List.map_nil] at *; omega) | (intro q; simp only [wz, wd, ws, seval, q]; done))
    obtain rfl := Option.some.inj h
    refine .weak (Imp.co [] _ _ ?_ ?_ ?_ ?_ ?_) (tail) <;> simp only [wz, wd, ws, seval, wi, er_nil, e_cron_part, e_cron_bounds, e_api_Cron]
-- 50 consignor/consignorref03.Split
def c50r0 : List Opn := [
  ⟨(some 4), none, .mv (.c (.s .nils))⟩]
def c50r1 : List Opn := [
  ⟨(some 8), none, .bsl 1 []⟩, 
  ⟨(some 5), none, .mv (.t 8)⟩]
def c50r2 : List Opn := [
  ⟨(some 6), none, .mv (.c (.s (.d (.str []))))⟩]
def c50r3 : List Opn := [
  ⟨(some 7), none, .mv (.c (.s (.d (.int .i64 0))))⟩]
def c50r4 : List Opn := [
  ⟨(some 9), none, .mv (.t 7)⟩, 
  ⟨(some 10), none, .mv (.t 0)⟩, 
  ⟨(some 11), none, .len .str (.t 10)⟩, 
  ⟨(some 12), none, .bin .lss (.t 9) (.t 11)⟩]
def c50r6 : List Opn := [
  ⟨(some 15), none, .mv (.t 0)⟩, 
  ⟨(some 16), none, .mv (.t 7)⟩, 
  ⟨(some 17), none, .idx .str (.t 15) (.t 16)⟩, 
  ⟨(some 18), none, .mv (.t 1)⟩, 
  ⟨(some 19), none, .bin .eql (.t 17) (.t 18)⟩]
def c50r7 : List Opn := [
  ⟨(some 20), none, .mv (.t 5)⟩, 
  ⟨(some 21), none, .mv (.t 6)⟩, 
  ⟨(some 22), none, .bsl 1 [(.t 21)]⟩, 
  ⟨(some 23), none, .app 1 16 false (.t 20) (.t 22)⟩, 
  ⟨(some 5), none, .mv (.t 23)⟩]
def c50r8 : List Opn := [
  ⟨(some 6), none, .mv (.c (.s (.d (.str []))))⟩]
def c50r9 : List Opn := [
  ⟨(some 24), none, .mv (.t 6)⟩, 
  ⟨(some 25), none, .mv (.t 0)⟩, 
  ⟨(some 26), none, .mv (.t 7)⟩, 
  ⟨(some 27), none, .mv (.t 7)⟩, 
  ⟨(some 28), none, .bin .add (.t 27) (.c (.s (.d (.int .i64 1))))⟩, 
  ⟨(some 29), none, .slc .str (.t 25) (some (.t 26)) (some (.t 28)) none⟩, 
  ⟨(some 30), none, .bin .add (.t 24) (.t 29)⟩, 
  ⟨(some 6), none, .mv (.t 30)⟩]
def c50r5 : List Opn := [
  ⟨(some 13), none, .mv (.t 7)⟩, 
  ⟨(some 14), none, .bin .add (.t 13) (.c (.s (.d (.int .i64 1))))⟩, 
  ⟨(some 7), none, .mv (.t 14)⟩]
def c50l10 : C := .seq (.seq (.reg c50r4 none [0, 1, 5, 6, 7, 12]) (.cond (.t 12) (.skip) (.exit 0))) (.seq (.blk 1 (.seq (.reg c50r6 none [0, 1, 5, 6, 7, 19]) (.cond (.t 19) (.seq (.reg c50r7 none [0, 1, 5, 7]) (.reg c50r8 none [0, 1, 5, 6, 7])) (.reg c50r9 none [0, 1, 5, 6, 7])))) (.reg c50r5 none [0, 1, 5, 6, 7]))
def c50r10 : List Opn := [
  ⟨(some 31), none, .mv (.t 5)⟩, 
  ⟨(some 32), none, .mv (.t 6)⟩, 
  ⟨(some 33), none, .bsl 1 [(.t 32)]⟩, 
  ⟨(some 34), none, .app 1 16 false (.t 31) (.t 33)⟩, 
  ⟨(some 5), none, .mv (.t 34)⟩]
def c50r11 : List Opn := [
  ⟨(some 35), none, .mv (.t 5)⟩, 
  ⟨(some 4), none, .mv (.t 35)⟩]
def c50 : C := .seq (.reg c50r0 none [0, 1]) (.seq (.reg c50r1 none [0, 1, 5]) (.seq (.reg c50r2 none [0, 1, 5, 6]) (.seq (.seq (.reg c50r3 none [0, 1, 5, 6, 7]) (.blk 0 (.loop c50l10))) (.seq (.reg c50r10 none [5]) (.seq (.reg c50r11 none [4]) (.ret))))))
def k50 : List (Nat × List Nat) := [(11, [4]), (10, [5]), (5, [0, 1, 5, 6, 7]), (8, [0, 1, 5, 6, 7]), (7, [0, 1, 5, 7]), (9, [0, 1, 5, 6, 7]), (6, [0, 1, 5, 6, 7, 19]), (4, [0, 1, 5, 6, 7, 12]), (3, [0, 1, 5, 6, 7]), (2, [0, 1, 5, 6]), (1, [0, 1, 5]), (0, [0, 1])]
theorem cc50 : (Tryd.f50.body).bind (cC Tryd.prog 36 k50) = some c50 := by kernel_rfl
def rv50 : List RV := [.t 4]
theorem cr50 : cRVs Tryd.prog Tryd.f50.results.toList = some rv50 := by kernel_rfl
theorem f_ref03_Split_l10_ok (s : Str) (byv : Int) (y_ : (List Str)) (R_ : St → Prop) (hR : (RetO Tryd.prog glP 4 1 (y_.map eS)) = R_) : ∀ (m_ : Nat) (now : Str) (i : Int) (out : (List Str)) (res_ : Str × Int × (List Str)) (h : f_ref03_Split_l10 s byv m_ now i out = some res_) (k_ : List It) (hx : ∀ s_ : Str × Int × (List Str), res_ = s_ → W Tryd.prog glP 36 k_ ⟨lkT [(0, .b (.s (.d (.str s)))), (1, .b (.s (.d (.int .u8 byv)))), (5, .b (.s (.own 8 s_.2.2.length))), (6, .b (.s (.d (.str s_.1)))), (7, .b (.s (.d (.int .i64 s_.2.1))))], lkG [(8, ⟨1, er eS s_.2.2, false⟩)]⟩ R_), W Tryd.prog glP 36 (.c c50l10 :: .lp c50l10 :: .blk 0 :: k_) ⟨lkT [(0, .b (.s (.d (.str s)))), (1, .b (.s (.d (.int .u8 byv)))), (5, .b (.s (.own 8 out.length))), (6, .b (.s (.d (.str now)))), (7, .b (.s (.d (.int .i64 i))))], lkG [(8, ⟨1, er eS out, false⟩)]⟩ R_ := by
  intro m_; induction m_ with
  | zero => intro now i out res_ h; rw [f_ref03_Split_l10.eq_1] at h; cases h
  | succ m_ ih =>
    intro now i out res_ h k_ hx; rw [f_ref03_Split_l10.eq_2] at h; refine W.cdef c50l10.eq_1 ?_
    refine .seq ?_
    refine .seq ?_
    refine Rw.walk ?_
    simp only [wz, wd, ws, seval, c50r4, semI.eq_10, semI.eq_11, semI.eq_3, semI.eq_5, semI.eq_7]
    refine .cond (p := (decide (i < (s.length : Int)))) (by first | rfl | simp only [wz, wd, ws, seval]) (fun h1 => ?_) (fun h1 => ?_)
    · rw [ite_t h1] at h
      refine .skip ?_
      refine .seq ?_
      refine .blk ?_
      refine .seq ?_
      refine Rw.walk ?_
      simp only [wz, wd, ws, seval, c50r6, semI.eq_10, semI.eq_11, semI.eq_3, semI.eq_5, semI.eq_7]
      obtain ⟨c, e1, h⟩ := Option.bind_eq_some_iff.1 h
      refine Go1.of (sem_idx e1 (by rfl) (by rfl)) ?_
      simp only [wz, wd, ws, seval, c50r6, semI.eq_10, semI.eq_11, semI.eq_3, semI.eq_5, semI.eq_7]
      refine .cond (p := ((bn c) == byv)) (by first | rfl | simp only [wz, wd, ws, seval]) (fun h1 => ?_) (fun h1 => ?_)
      · rw [ite_t h1] at h
        refine .seq ?_
        refine Rw.walk ?_
        simp only [wz, wd, ws, seval, c50r7, semI.eq_10, semI.eq_11, semI.eq_3, semI.eq_5, semI.eq_7]
        refine Go1.of (sem_bsl (enc := eS) (m := ([now] : List Str)) eS_len (by rfl) (by rfl) (by rfl) ⟨trivial, trivial⟩) ?_
        simp only [wz, wd, ws, seval, c50r7, semI.eq_10, semI.eq_11, semI.eq_3, semI.eq_5, semI.eq_7]
        obtain ⟨g2, h⟩ := gd_iff.1 h
        refine Go1.of (sem_app (enc := eS) (l := out) (m := ([now] : List Str)) eS_len (by rfl) (by rfl) (newV_own (m := ([now] : List Str)) (by rfl) (by rfl))) ?_
        simp only [wz, wd, ws, seval, c50r7, semI.eq_10, semI.eq_11, semI.eq_3, semI.eq_5, semI.eq_7]
        repeat (refine And.intro ?_ ?_; · first | omega | (simp only [List.length_append, List.length_cons, List.length_nil] at *; omega) | (simp only [List.map_cons, List.map_nil] at *; omega) | (intro q; simp only [wz, wd, ws, seval, q]; done))
        refine Rw.walk ?_
        simp only [wz, wd, ws, seval, c50r8, semI.eq_10, semI.eq_11, semI.eq_3, semI.eq_5, semI.eq_7]
        refine .eblk ?_
        refine Rw.walk ?_
        simp only [wz, wd, ws, seval, c50r5, semI.eq_10, semI.eq_11, semI.eq_3, semI.eq_5, semI.eq_7]
        refine .lp ?_
        refine .weak (Imp.co [] _ _ ?_ ?_ ?_ ?_ ?_) (ih ([] : Str) (IntKind.i64.wrap (i + 1)) (out ++ ([now] : List Str)) _ h k_ hx) <;> simp only [wz, wd, ws, seval, wi, er_nil]
      · rw [ite_f h1] at h
        refine Rw.walk ?_
        obtain ⟨g3, h⟩ := gd_iff.1 h
        obtain ⟨g4, h⟩ := gd_iff.1 h
        simp only [wz, wd, ws, seval, c50r9, semI.eq_10, semI.eq_11, semI.eq_3, semI.eq_5, semI.eq_7]
        repeat (refine And.intro ?_ ?_; · first | omega | (simp only [List.length_append, List.length_cons, List.length_nil] at *; omega) | (simp only [List.map_cons, List.map_nil] at *; omega) | (intro q; simp only [wz, wd, ws, seval, q]; done))
        refine .eblk ?_
        refine Rw.walk ?_
        simp only [wz, wd, ws, seval, c50r5, semI.eq_10, semI.eq_11, semI.eq_3, semI.eq_5, semI.eq_7]
        refine .lp ?_
        refine .weak (Imp.co [] _ _ ?_ ?_ ?_ ?_ ?_) (ih (now ++ (cut s i (IntKind.i64.wrap (i + 1)))) (IntKind.i64.wrap (i + 1)) out _ h k_ hx) <;> simp only [wz, wd, ws, seval, wi, er_nil]
    · rw [ite_f h1] at h
      refine .exit rfl ?_
      obtain rfl := Option.some.inj h
      refine .weak (Imp.co [] _ _ ?_ ?_ ?_ ?_ ?_) (hx _ rfl) <;> simp only [wz, wd, ws, seval, wi, er_nil]
theorem f_ref03_Split_ok (s : Str) (byv : Int) (y_ : (List Str)) (h : f_ref03_Split s byv = some y_) : FunO Tryd.prog glP 50 [.b (.s (.d (.str s))), .b (.s (.d (.int .u8 byv)))] 1 (y_.map eS) := by
  refine funO_walk Tryd.func50 Tryd.ntmps50 cc50 cr50 (by kernel_rfl) (by simp only [List.length_cons, List.length_nil]; decide) ?_
  generalize hR : RetO _ _ _ _ _ = R_
  simp only [wz, wd, ws, seval]
  unfold f_ref03_Split at h; unfold c50
  refine .seq ?_
  refine Rw.walk ?_
  simp only [wz, wd, ws, seval, c50r0, semI.eq_10, semI.eq_11, semI.eq_3, semI.eq_5, semI.eq_7]
  refine .seq ?_
  refine Rw.walk ?_
  simp only [wz, wd, ws, seval, c50r1, semI.eq_10, semI.eq_11, semI.eq_3, semI.eq_5, semI.eq_7]
  refine Go1.of (sem_bsl (enc := eS) (m := ([] : List Str)) eS_len (by rfl) (by rfl) (by rfl) trivial) ?_
  simp only [wz, wd, ws, seval, c50r1, semI.eq_10, semI.eq_11, semI.eq_3, semI.eq_5, semI.eq_7]
  refine .seq ?_
  refine Rw.walk ?_
  simp only [wz, wd, ws, seval, c50r2, semI.eq_10, semI.eq_11, semI.eq_3, semI.eq_5, semI.eq_7]
  refine .seq ?_
  refine .seq ?_
  refine Rw.walk ?_
  simp only [wz, wd, ws, seval, c50r3, semI.eq_10, semI.eq_11, semI.eq_3, semI.eq_5, semI.eq_7]
  refine .blk ?_
  obtain ⟨s2, hf, h⟩ := Option.bind_eq_some_iff.1 h
  refine .loop (.weak (Imp.co [] _ _ ?c1 ?c2 ?c3 ?c4 ?c5) (f_ref03_Split_l10_ok s byv _ _ hR _ _ _ _ _ hf _ ?_))
  case c1 | c2 | c3 | c4 | c5 => simp only [wz, wd, ws, seval, wi, er_nil]
  · intro s2_ hs; subst hs
    refine .seq ?_
    refine Rw.walk ?_
    simp only [wz, wd, ws, seval, c50r10, semI.eq_10, semI.eq_11, semI.eq_3, semI.eq_5, semI.eq_7]
    refine Go1.of (sem_bsl (enc := eS) (m := ([s2.1] : List Str)) eS_len (by rfl) (by rfl) (by rfl) ⟨trivial, trivial⟩) ?_
    simp only [wz, wd, ws, seval, c50r10, semI.eq_10, semI.eq_11, semI.eq_3, semI.eq_5, semI.eq_7]
    obtain ⟨g5, h⟩ := gd_iff.1 h
    refine Go1.of (sem_app (enc := eS) (l := s2.2.2) (m := ([s2.1] : List Str)) eS_len (by rfl) (by rfl) (newV_own (m := ([s2.1] : List Str)) (by rfl) (by rfl))) ?_
    simp only [wz, wd, ws, seval, c50r10, semI.eq_10, semI.eq_11, semI.eq_3, semI.eq_5, semI.eq_7]
    repeat (refine And.intro ?_ ?_; · first | omega | (simp only [List.length_append, List.length_cons, List.length_nil] at *; omega) | (simp only [List.map_cons, List.map_nil] at *; omega) | (intro q; simp only [wz, wd, ws, seval, q]; done))
    refine .seq ?_
    refine Rw.walk ?_
    simp only [wz, wd, ws, seval, c50r11, semI.eq_10, semI.eq_11, semI.eq_3, semI.eq_5, semI.eq_7]
    obtain rfl := Option.some.inj h
    refine .ret ?_
    rw [← hR]
    refine ⟨8, ?_, ?_⟩ <;> simp only [wz, wd, ws, seval, er, List.length_map]
-- 85 consignor/consignorref08.number
def c85r0 : List Opn := [
  ⟨(some 6), none, .mv (.c (.s (.d (.int .i64 0))))⟩]
def c85r1 : List Opn := [
  ⟨(some 7), none, .mv (.c (.s (.d (.int .i64 0))))⟩]
def c85r2 : List Opn := [
  ⟨(some 8), none, .mv (.c (.s (.d (.int .i64 0))))⟩]
def c85r3 : List Opn := [
  ⟨(some 9), none, .mv (.t 8)⟩, 
  ⟨(some 10), none, .mv (.t 0)⟩, 
  ⟨(some 11), none, .len .str (.t 10)⟩, 
  ⟨(some 12), none, .bin .lss (.t 9) (.t 11)⟩]
def c85r5 : List Opn := [
  ⟨(some 15), none, .mv (.t 0)⟩, 
  ⟨(some 16), none, .mv (.t 8)⟩, 
  ⟨(some 17), none, .idx .str (.t 15) (.t 16)⟩, 
  ⟨(some 18), none, .bin .lss (.t 17) (.c (.s (.d (.int .u8 48))))⟩, 
  ⟨(some 19), none, .mv (.t 18)⟩, 
  ⟨(some 20), some (19, false), .mv (.t 0)⟩, 
  ⟨(some 21), some (19, false), .mv (.t 8)⟩, 
  ⟨(some 22), some (19, false), .idx .str (.t 20) (.t 21)⟩, 
  ⟨(some 23), some (19, false), .bin .gtr (.t 22) (.c (.s (.d (.int .u8 57))))⟩, 
  ⟨(some 24), none, .pick (.t 19) (.c (.s (.d (.bool true)))) (.t 23)⟩]
def c85r6 : List Opn := [
  ⟨(some 6), none, .mv (.c (.s (.d (.int .i64 (-1)))))⟩]
def c85r7 : List Opn := [
  ⟨(some 25), none, .mv (.t 7)⟩, 
  ⟨(some 26), none, .bin .mul (.c (.s (.d (.int .i64 10)))) (.t 25)⟩, 
  ⟨(some 27), none, .mv (.t 0)⟩, 
  ⟨(some 28), none, .mv (.t 8)⟩, 
  ⟨(some 29), none, .idx .str (.t 27) (.t 28)⟩, 
  ⟨(some 30), none, .bin .sub (.t 29) (.c (.s (.d (.int .u8 48))))⟩, 
  ⟨(some 31), none, .cv (.toInt .i64) (.t 30)⟩, 
  ⟨(some 32), none, .bin .add (.t 26) (.t 31)⟩, 
  ⟨(some 7), none, .mv (.t 32)⟩]
def c85r4 : List Opn := [
  ⟨(some 13), none, .mv (.t 8)⟩, 
  ⟨(some 14), none, .bin .add (.t 13) (.c (.s (.d (.int .i64 1))))⟩, 
  ⟨(some 8), none, .mv (.t 14)⟩]
def c85l8 : C := .seq (.seq (.reg c85r3 none [0, 1, 2, 7, 8, 12]) (.cond (.t 12) (.skip) (.exit 0))) (.seq (.blk 1 (.seq (.seq (.reg c85r5 none [0, 1, 2, 7, 8, 24]) (.cond (.t 24) (.seq (.reg c85r6 none [6]) (.ret)) (.skip))) (.reg c85r7 none [0, 1, 2, 7, 8]))) (.reg c85r4 none [0, 1, 2, 7, 8]))
def c85r8 : List Opn := [
  ⟨(some 33), none, .mv (.t 0)⟩, 
  ⟨(some 34), none, .len .str (.t 33)⟩, 
  ⟨(some 35), none, .bin .eql (.t 34) (.c (.s (.d (.int .i64 0))))⟩, 
  ⟨(some 36), none, .mv (.t 35)⟩, 
  ⟨(some 37), some (36, false), .mv (.t 0)⟩, 
  ⟨(some 38), some (36, false), .len .str (.t 37)⟩, 
  ⟨(some 39), some (36, false), .bin .gtr (.t 38) (.c (.s (.d (.int .i64 2))))⟩, 
  ⟨(some 40), none, .pick (.t 36) (.c (.s (.d (.bool true)))) (.t 39)⟩, 
  ⟨(some 41), none, .mv (.t 40)⟩, 
  ⟨(some 42), some (41, false), .mv (.t 0)⟩, 
  ⟨(some 43), some (41, false), .len .str (.t 42)⟩, 
  ⟨(some 44), some (41, false), .bin .eql (.t 43) (.c (.s (.d (.int .i64 2))))⟩, 
  ⟨(some 45), some (41, false), .mv (.t 44)⟩, 
  ⟨(some 46), some (45, true), .mv (.t 7)⟩, 
  ⟨(some 47), some (45, true), .bin .lss (.t 46) (.c (.s (.d (.int .i64 10))))⟩, 
  ⟨(some 48), some (41, false), .pick (.t 45) (.t 47) (.c (.s (.d (.bool false))))⟩, 
  ⟨(some 49), none, .pick (.t 41) (.c (.s (.d (.bool true)))) (.t 48)⟩, 
  ⟨(some 50), none, .mv (.t 49)⟩, 
  ⟨(some 51), some (50, false), .mv (.t 7)⟩, 
  ⟨(some 52), some (50, false), .mv (.t 1)⟩, 
  ⟨(some 53), some (50, false), .bin .lss (.t 51) (.t 52)⟩, 
  ⟨(some 54), none, .pick (.t 50) (.c (.s (.d (.bool true)))) (.t 53)⟩, 
  ⟨(some 55), none, .mv (.t 54)⟩, 
  ⟨(some 56), some (55, false), .mv (.t 7)⟩, 
  ⟨(some 57), some (55, false), .mv (.t 2)⟩, 
  ⟨(some 58), some (55, false), .bin .gtr (.t 56) (.t 57)⟩, 
  ⟨(some 59), none, .pick (.t 55) (.c (.s (.d (.bool true)))) (.t 58)⟩]
def c85r9 : List Opn := [
  ⟨(some 6), none, .mv (.c (.s (.d (.int .i64 (-1)))))⟩]
def c85r10 : List Opn := [
  ⟨(some 60), none, .mv (.t 7)⟩, 
  ⟨(some 6), none, .mv (.t 60)⟩]
def c85 : C := .seq (.reg c85r0 none [0, 1, 2]) (.seq (.reg c85r1 none [0, 1, 2, 7]) (.seq (.seq (.reg c85r2 none [0, 1, 2, 7, 8]) (.blk 0 (.loop c85l8))) (.seq (.seq (.reg c85r8 none [7, 59]) (.cond (.t 59) (.seq (.reg c85r9 none [6]) (.ret)) (.skip))) (.seq (.reg c85r10 none [6]) (.ret)))))
def k85 : List (Nat × List Nat) := [(10, [6]), (9, [6]), (8, [7, 59]), (4, [0, 1, 2, 7, 8]), (7, [0, 1, 2, 7, 8]), (6, [6]), (5, [0, 1, 2, 7, 8, 24]), (3, [0, 1, 2, 7, 8, 12]), (2, [0, 1, 2, 7, 8]), (1, [0, 1, 2, 7]), (0, [0, 1, 2])]
theorem cc85 : (Tryd.f85.body).bind (cC Tryd.prog 61 k85) = some c85 := by kernel_rfl
def rv85 : List RV := [.t 6]
theorem cr85 : cRVs Tryd.prog Tryd.f85.results.toList = some rv85 := by kernel_rfl
theorem f_ref08_number_l8_ok (s : Str) (low : Int) (high : Int) (y_ : Int) (R_ : St → Prop) (hR : (Ret Tryd.prog glP [] rv85 (.b (.s (.d (.int .i64 y_))))) = R_) : ∀ (m_ : Nat) (n : Int) (i : Int) (res_ : (Int × Int) ⊕ (Int)) (h : f_ref08_number_l8 s low high m_ n i = some res_) (k_ : List It) (hx : ∀ s_ : Int × Int, res_ = .inl s_ → W Tryd.prog glP 61 k_ ⟨lkT [(0, .b (.s (.d (.str s)))), (1, .b (.s (.d (.int .i64 low)))), (2, .b (.s (.d (.int .i64 high)))), (7, .b (.s (.d (.int .i64 s_.1)))), (8, .b (.s (.d (.int .i64 s_.2))))], lkG []⟩ R_) (hr : ∀ z_ : Int, res_ = .inr z_ → z_ = y_), W Tryd.prog glP 61 (.c c85l8 :: .lp c85l8 :: .blk 0 :: k_) ⟨lkT [(0, .b (.s (.d (.str s)))), (1, .b (.s (.d (.int .i64 low)))), (2, .b (.s (.d (.int .i64 high)))), (7, .b (.s (.d (.int .i64 n)))), (8, .b (.s (.d (.int .i64 i))))], lkG []⟩ R_ := by
  intro m_; induction m_ with
  | zero => intro n i res_ h; rw [f_ref08_number_l8.eq_1] at h; cases h
  | succ m_ ih =>
    intro n i res_ h k_ hx hr; rw [f_ref08_number_l8.eq_2] at h; refine W.cdef c85l8.eq_1 ?_
    refine .seq ?_
    refine .seq ?_
    refine Rw.walk ?_
    simp only [wz, wd, ws, seval, c85r3, semI.eq_10, semI.eq_11, semI.eq_3, semI.eq_5, semI.eq_7]
    refine .cond (p := (decide (i < (s.length : Int)))) (by first | rfl | simp only [wz, wd, ws, seval]) (fun h1 => ?_) (fun h1 => ?_)
    · rw [ite_t h1] at h
      refine .skip ?_
      refine .seq ?_
      refine .blk ?_
      refine .seq ?_
      refine .seq ?_
      refine Rw.walk ?_
      simp only [wz, wd, ws, seval, c85r5, semI.eq_10, semI.eq_11, semI.eq_3, semI.eq_5, semI.eq_7]
      obtain ⟨c, e1, h⟩ := Option.bind_eq_some_iff.1 h
      refine Go1.of (sem_idx e1 (by rfl) (by rfl)) ?_
      simp only [wz, wd, ws, seval, c85r5, semI.eq_10, semI.eq_11, semI.eq_3, semI.eq_5, semI.eq_7]
      obtain ⟨g2, h⟩ := gd_iff.1 h
      refine Go2.of (se_idxS) ?_
      simp only [wz, wd, ws, seval, c85r5, semI.eq_10, semI.eq_11, semI.eq_3, semI.eq_5, semI.eq_7]
      repeat (refine And.intro ?_ ?_; · first | omega | exact g2 | (intro q; first | omega | (have q2 := g2 (by simpa using q); omega) | (have q2 := g2 q; omega) | (have q2 := g2 (by rw [q]; rfl); omega) | (have q2 := g2 (by simpa using q); simp only [List.length_append, List.length_cons, List.length_nil] at q2 ⊢; omega)) | (simp only [List.length_append, List.length_cons, List.length_nil] at *; omega) | (simp only [List.map_cons, List.map_nil] at *; omega) | (intro q; simp only [wz, wd, ws, seval, q]; done))
      refine .cond (p := ((decide ((bn c) < 48)) || (decide ((bn (s.getD i.toNat 0)) > 57)))) (by first | rfl | simp only [wz, wd, ws, seval]) (fun h1 => ?_) (fun h1 => ?_)
      · rw [ite_t h1] at h
        refine .seq ?_
        refine Rw.walk ?_
        simp only [wz, wd, ws, seval, c85r6, semI.eq_10, semI.eq_11, semI.eq_3, semI.eq_5, semI.eq_7]
        obtain rfl := Option.some.inj h; obtain rfl := hr _ rfl
        refine .ret ?_
        rw [← hR]
        simp only [wz, wd, ws, seval, rv85]
      · rw [ite_f h1] at h
        refine .skip ?_
        refine Rw.walk ?_
        simp only [wz, wd, ws, seval, c85r7, semI.eq_10, semI.eq_11, semI.eq_3, semI.eq_5, semI.eq_7]
        obtain ⟨c2, e3, h⟩ := Option.bind_eq_some_iff.1 h
        refine Go1.of (sem_idx e3 (by rfl) (by rfl)) ?_
        simp only [wz, wd, ws, seval, c85r7, semI.eq_10, semI.eq_11, semI.eq_3, semI.eq_5, semI.eq_7]
        obtain ⟨n2, e4, h⟩ := Option.bind_eq_some_iff.1 h
        replace e4 := Option.some.inj e4
        first | simp only [e4] | (simp only [wz, wd, ws, seval] at e4; simp only [e4])
        refine .eblk ?_
        refine Rw.walk ?_
        simp only [wz, wd, ws, seval, c85r4, semI.eq_10, semI.eq_11, semI.eq_3, semI.eq_5, semI.eq_7]
        refine .lp ?_
        refine .weak (Imp.co [] _ _ ?_ ?_ ?_ ?_ ?_) (ih n2 (IntKind.i64.wrap (i + 1)) _ h k_ hx hr) <;> simp only [wz, wd, ws, seval, wi, er_nil]
    · rw [ite_f h1] at h
      refine .exit rfl ?_
      obtain rfl := Option.some.inj h
      refine .weak (Imp.co [] _ _ ?_ ?_ ?_ ?_ ?_) (hx _ rfl) <;> simp only [wz, wd, ws, seval, wi, er_nil]
theorem f_ref08_number_ok (s : Str) (low : Int) (high : Int) (y_ : Int) (h : f_ref08_number s low high = some y_) : Fun Tryd.prog glP 85 [.b (.s (.d (.str s))), .b (.s (.d (.int .i64 low))), .b (.s (.d (.int .i64 high)))] (.b (.s (.d (.int .i64 y_)))) := by
  refine fun_walk [] Tryd.func85 Tryd.ntmps85 cc85 cr85 (by kernel_rfl) (by simp only [List.length_cons, List.length_nil]; decide) ?_
  generalize hR : Ret _ _ _ _ _ = R_
  simp only [wz, wd, ws, seval]
  unfold f_ref08_number at h; unfold c85
  refine .seq ?_
  refine Rw.walk ?_
  simp only [wz, wd, ws, seval, c85r0, semI.eq_10, semI.eq_11, semI.eq_3, semI.eq_5, semI.eq_7]
  refine .seq ?_
  refine Rw.walk ?_
  simp only [wz, wd, ws, seval, c85r1, semI.eq_10, semI.eq_11, semI.eq_3, semI.eq_5, semI.eq_7]
  refine .seq ?_
  refine .seq ?_
  refine Rw.walk ?_
  simp only [wz, wd, ws, seval, c85r2, semI.eq_10, semI.eq_11, semI.eq_3, semI.eq_5, semI.eq_7]
  refine .blk ?_
  obtain ⟨s2, hf, h⟩ := Option.bind_eq_some_iff.1 h
  refine .loop (.weak (Imp.co [] _ _ ?c1 ?c2 ?c3 ?c4 ?c5) (f_ref08_number_l8_ok s low high _ _ hR _ _ _ _ hf _ ?_ ?_))
  case c1 | c2 | c3 | c4 | c5 => simp only [wz, wd, ws, seval, wi, er_nil]
  · intro s3 hs; subst hs; dsimp only at h
    refine .seq ?_
    refine .seq ?_
    refine Rw.walk ?_
    simp only [wz, wd, ws, seval, c85r8, semI.eq_10, semI.eq_11, semI.eq_3, semI.eq_5, semI.eq_7]
    repeat (refine And.intro ?_ ?_; · first | omega | (simp only [List.length_append, List.length_cons, List.length_nil] at *; omega) | (simp only [List.map_cons, List.map_nil] at *; omega) | (intro q; simp only [wz, wd, ws, seval, q]; done))
    refine .cond (p := ((((((s.length : Int) == 0) || (decide ((s.length : Int) > 2))) || (((s.length : Int) == 2) && (decide (s3.1 < 10)))) || (decide (s3.1 < low))) || (decide (s3.1 > high)))) (by first | rfl | simp only [wz, wd, ws, seval]) (fun h1 => ?_) (fun h1 => ?_)
    · rw [ite_t h1] at h
      refine .seq ?_
      refine Rw.walk ?_
      simp only [wz, wd, ws, seval, c85r9, semI.eq_10, semI.eq_11, semI.eq_3, semI.eq_5, semI.eq_7]
      obtain rfl := Option.some.inj h
      refine .ret ?_
      rw [← hR]
      simp only [wz, wd, ws, seval, rv85]
    · rw [ite_f h1] at h
      refine .skip ?_
      refine .seq ?_
      refine Rw.walk ?_
      simp only [wz, wd, ws, seval, c85r10, semI.eq_10, semI.eq_11, semI.eq_3, semI.eq_5, semI.eq_7]
      obtain rfl := Option.some.inj h
      refine .ret ?_
      rw [← hR]
      simp only [wz, wd, ws, seval, rv85]
  · intro z hz; subst hz; dsimp only at h
    exact Option.some.inj h
-- 72 consignor/consignorref08.part
def c72r0 : List Opn := [
  ⟨(some 6), none, .new [(.d (.int .i64 0)), (.d (.int .i64 0)), (.d (.int .i64 0))]⟩]
def c72r1 : List Opn := [
  ⟨(some 10), none, .mv (.t 0)⟩, 
  ⟨(some 11), none, .call (.fn 50) [(.t 10), (.c (.s (.d (.int .u8 47))))]⟩, 
  ⟨(some 7), none, .mv (.t 11)⟩]
def c72r2 : List Opn := [
  ⟨(some 12), none, .mv (.t 1)⟩, 
  ⟨(some 13), none, .mv (.t 2)⟩, 
  ⟨(some 14), none, .build [(.d (.int .i64 0)), (.d (.int .i64 0)), (.d (.int .i64 0))] [(0, 1, (.t 12)), (1, 1, (.t 13)), (2, 1, (.c (.s (.d (.int .i64 1)))))]⟩, 
  ⟨(some 8), none, .new [(.d (.int .i64 0)), (.d (.int .i64 0)), (.d (.int .i64 0))]⟩, 
  ⟨none, none, .store 3 (.t 8) (.t 14)⟩]
def c72r3 : List Opn := [
  ⟨(some 15), none, .mv (.t 7)⟩, 
  ⟨(some 16), none, .iadr (.sl 1) (.t 15) (.c (.s (.d (.int .i64 0))))⟩, 
  ⟨(some 17), none, .load false 1 (.t 16)⟩, 
  ⟨(some 18), none, .call (.fn 50) [(.t 17), (.c (.s (.d (.int .u8 45))))]⟩, 
  ⟨(some 9), none, .mv (.t 18)⟩]
def c72r4 : List Opn := [
  ⟨(some 19), none, .mv (.t 7)⟩, 
  ⟨(some 20), none, .iadr (.sl 1) (.t 19) (.c (.s (.d (.int .i64 0))))⟩, 
  ⟨(some 21), none, .load false 1 (.t 20)⟩, 
  ⟨(some 22), none, .bin .neq (.t 21) (.c (.s (.d (.str [42]))))⟩]
def c72r5 : List Opn := [
  ⟨(some 23), none, .mv (.t 9)⟩, 
  ⟨(some 24), none, .iadr (.sl 1) (.t 23) (.c (.s (.d (.int .i64 0))))⟩, 
  ⟨(some 25), none, .load false 1 (.t 24)⟩, 
  ⟨(some 26), none, .mv (.t 1)⟩, 
  ⟨(some 27), none, .mv (.t 2)⟩, 
  ⟨(some 28), none, .call (.fn 85) [(.t 25), (.t 26), (.t 27)]⟩, 
  ⟨(some 29), none, .fadr 0 (.t 8)⟩, 
  ⟨none, none, .store 1 (.t 29) (.t 28)⟩]
def c72r6 : List Opn := [
  ⟨(some 30), none, .mv (.t 9)⟩, 
  ⟨(some 31), none, .mv (.t 9)⟩, 
  ⟨(some 32), none, .len (.sl 0) (.t 31)⟩, 
  ⟨(some 33), none, .bin .sub (.t 32) (.c (.s (.d (.int .i64 1))))⟩, 
  ⟨(some 34), none, .iadr (.sl 1) (.t 30) (.t 33)⟩, 
  ⟨(some 35), none, .load false 1 (.t 34)⟩, 
  ⟨(some 36), none, .mv (.t 1)⟩, 
  ⟨(some 37), none, .mv (.t 2)⟩, 
  ⟨(some 38), none, .call (.fn 85) [(.t 35), (.t 36), (.t 37)]⟩, 
  ⟨(some 39), none, .fadr 1 (.t 8)⟩, 
  ⟨none, none, .store 1 (.t 39) (.t 38)⟩]
def c72r7 : List Opn := [
  ⟨(some 40), none, .mv (.t 9)⟩, 
  ⟨(some 41), none, .len (.sl 0) (.t 40)⟩, 
  ⟨(some 42), none, .bin .gtr (.t 41) (.c (.s (.d (.int .i64 2))))⟩, 
  ⟨(some 43), none, .mv (.t 42)⟩, 
  ⟨(some 44), some (43, false), .fadr 0 (.t 8)⟩, 
  ⟨(some 45), some (43, false), .load false 1 (.t 44)⟩, 
  ⟨(some 46), some (43, false), .bin .lss (.t 45) (.c (.s (.d (.int .i64 0))))⟩, 
  ⟨(some 47), none, .pick (.t 43) (.c (.s (.d (.bool true)))) (.t 46)⟩, 
  ⟨(some 48), none, .mv (.t 47)⟩, 
  ⟨(some 49), some (48, false), .fadr 1 (.t 8)⟩, 
  ⟨(some 50), some (48, false), .load false 1 (.t 49)⟩, 
  ⟨(some 51), some (48, false), .fadr 0 (.t 8)⟩, 
  ⟨(some 52), some (48, false), .load false 1 (.t 51)⟩, 
  ⟨(some 53), some (48, false), .bin .lss (.t 50) (.t 52)⟩, 
  ⟨(some 54), none, .pick (.t 48) (.c (.s (.d (.bool true)))) (.t 53)⟩]
def c72r8 : List Opn := [
  ⟨(some 55), none, .build [(.d (.int .i64 0)), (.d (.int .i64 0)), (.d (.int .i64 0))] []⟩, 
  ⟨none, none, .store 3 (.t 6) (.t 55)⟩]
def c72r9 : List Opn := [
  ⟨(some 56), none, .mv (.t 7)⟩, 
  ⟨(some 57), none, .len (.sl 0) (.t 56)⟩, 
  ⟨(some 58), none, .bin .gtr (.t 57) (.c (.s (.d (.int .i64 1))))⟩]
def c72r10 : List Opn := [
  ⟨(some 59), none, .mv (.t 7)⟩, 
  ⟨(some 60), none, .iadr (.sl 1) (.t 59) (.c (.s (.d (.int .i64 1))))⟩, 
  ⟨(some 61), none, .load false 1 (.t 60)⟩, 
  ⟨(some 62), none, .call (.fn 85) [(.t 61), (.c (.s (.d (.int .i64 1)))), (.c (.s (.d (.int .i64 59))))]⟩, 
  ⟨(some 63), none, .fadr 2 (.t 8)⟩, 
  ⟨none, none, .store 1 (.t 63) (.t 62)⟩]
def c72r11 : List Opn := [
  ⟨(some 64), none, .mv (.t 7)⟩, 
  ⟨(some 65), none, .len (.sl 0) (.t 64)⟩, 
  ⟨(some 66), none, .bin .gtr (.t 65) (.c (.s (.d (.int .i64 2))))⟩, 
  ⟨(some 67), none, .mv (.t 66)⟩, 
  ⟨(some 68), some (67, false), .fadr 2 (.t 8)⟩, 
  ⟨(some 69), some (67, false), .load false 1 (.t 68)⟩, 
  ⟨(some 70), some (67, false), .bin .lss (.t 69) (.c (.s (.d (.int .i64 0))))⟩, 
  ⟨(some 71), none, .pick (.t 67) (.c (.s (.d (.bool true)))) (.t 70)⟩, 
  ⟨(some 72), none, .mv (.t 71)⟩, 
  ⟨(some 73), some (72, false), .mv (.t 7)⟩, 
  ⟨(some 74), some (72, false), .iadr (.sl 1) (.t 73) (.c (.s (.d (.int .i64 0))))⟩, 
  ⟨(some 75), some (72, false), .load false 1 (.t 74)⟩, 
  ⟨(some 76), some (72, false), .bin .neq (.t 75) (.c (.s (.d (.str [42]))))⟩, 
  ⟨(some 77), some (72, false), .mv (.t 76)⟩, 
  ⟨(some 78), some (77, true), .mv (.t 9)⟩, 
  ⟨(some 79), some (77, true), .len (.sl 0) (.t 78)⟩, 
  ⟨(some 80), some (77, true), .bin .eql (.t 79) (.c (.s (.d (.int .i64 1))))⟩, 
  ⟨(some 81), some (72, false), .pick (.t 77) (.t 80) (.c (.s (.d (.bool false))))⟩, 
  ⟨(some 82), none, .pick (.t 72) (.c (.s (.d (.bool true)))) (.t 81)⟩]
def c72r12 : List Opn := [
  ⟨(some 83), none, .build [(.d (.int .i64 0)), (.d (.int .i64 0)), (.d (.int .i64 0))] []⟩, 
  ⟨none, none, .store 3 (.t 6) (.t 83)⟩]
def c72r13 : List Opn := [
  ⟨(some 84), none, .load true 3 (.t 8)⟩, 
  ⟨none, none, .store 3 (.t 6) (.t 84)⟩]
def c72 : C := .seq (.reg c72r0 none [0, 1, 2, 6]) (.seq (.reg c72r1 none [1, 2, 6, 7]) (.seq (.reg c72r2 none [1, 2, 6, 7, 8]) (.seq (.reg c72r3 none [1, 2, 6, 7, 8, 9]) (.seq (.seq (.reg c72r4 none [1, 2, 6, 7, 8, 9, 22]) (.cond (.t 22) (.seq (.reg c72r5 none [1, 2, 6, 7, 8, 9]) (.seq (.reg c72r6 none [6, 7, 8, 9]) (.seq (.reg c72r7 none [6, 7, 8, 9, 54]) (.cond (.t 54) (.seq (.reg c72r8 none [6]) (.ret)) (.skip))))) (.skip))) (.seq (.seq (.reg c72r9 none [6, 7, 8, 9, 58]) (.cond (.t 58) (.seq (.reg c72r10 none [6, 7, 8, 9]) (.seq (.reg c72r11 none [6, 8, 82]) (.cond (.t 82) (.seq (.reg c72r12 none [6]) (.ret)) (.skip)))) (.skip))) (.seq (.reg c72r13 none [6]) (.ret)))))))
def k72 : List (Nat × List Nat) := [(13, [6]), (12, [6]), (11, [6, 8, 82]), (10, [6, 7, 8, 9]), (9, [6, 7, 8, 9, 58]), (8, [6]), (7, [6, 7, 8, 9, 54]), (6, [6, 7, 8, 9]), (5, [1, 2, 6, 7, 8, 9]), (4, [1, 2, 6, 7, 8, 9, 22]), (3, [1, 2, 6, 7, 8, 9]), (2, [1, 2, 6, 7, 8]), (1, [1, 2, 6, 7]), (0, [0, 1, 2, 6])]
theorem cc72 : (Tryd.f72.body).bind (cC Tryd.prog 85 k72) = some c72 := by kernel_rfl
def rv72 : List RV := [.c 6 true 3]
theorem cr72 : cRVs Tryd.prog Tryd.f72.results.toList = some rv72 := by kernel_rfl
theorem f_ref08_part_ok (s : Str) (low : Int) (high : Int) (y_ : consignorref08_P) (h : f_ref08_part s low high = some y_) : Fun Tryd.prog glP 72 [.b (.s (.d (.str s))), .b (.s (.d (.int .i64 low))), .b (.s (.d (.int .i64 high)))] (.b (.agg ((e_consignorref08_P y_).map Lc.d))) := by
  refine fun_walk [] Tryd.func72 Tryd.ntmps72 cc72 cr72 (by kernel_rfl) (by simp only [List.length_cons, List.length_nil]; decide) ?_
  generalize hR : Ret _ _ _ _ _ = R_
  simp only [wz, wd, ws, seval, e_consignorref08_P]
  unfold f_ref08_part at h; unfold c72
  refine .seq ?_
  refine Rw.walk ?_
  simp only [wz, wd, ws, seval, c72r0, semI.eq_10, semI.eq_11, semI.eq_3, semI.eq_5, semI.eq_7, e_consignorref08_P]
  refine .seq ?_
  refine Rw.walk ?_
  simp only [wz, wd, ws, seval, c72r1, semI.eq_10, semI.eq_11, semI.eq_3, semI.eq_5, semI.eq_7, e_consignorref08_P]
  obtain ⟨t, e1, h⟩ := Option.bind_eq_some_iff.1 h
  refine call_funO' [] ⟨trivial, trivial, trivial, trivial⟩ rfl ?_ (f_ref03_Split_ok _ _ _ e1) rfl (.inl rfl) ?_
  · simp only [wz, wd, ws, seval, e_consignorref08_P]
  simp only [wz, wd, ws, seval, c72r1, semI.eq_10, semI.eq_11, semI.eq_3, semI.eq_5, semI.eq_7, e_consignorref08_P]
  refine .seq ?_
  refine Rw.walk ?_
  simp only [wz, wd, ws, seval, c72r2, semI.eq_10, semI.eq_11, semI.eq_3, semI.eq_5, semI.eq_7, e_consignorref08_P]
  refine .seq ?_
  refine Rw.walk ?_
  simp only [wz, wd, ws, seval, c72r3, semI.eq_10, semI.eq_11, semI.eq_3, semI.eq_5, semI.eq_7, e_consignorref08_P]
  obtain ⟨x, e2, h⟩ := Option.bind_eq_some_iff.1 h
  refine Go1.of (sem_iadrO (l := t) e2 (by rfl) (by rfl) (by rfl)) ?_
  simp only [wz, wd, ws, seval, c72r3, semI.eq_10, semI.eq_11, semI.eq_3, semI.eq_5, semI.eq_7, e_consignorref08_P, er_getN (i := 0) e2]
  obtain ⟨t2, e3, h⟩ := Option.bind_eq_some_iff.1 h
  refine call_funO' [] ⟨trivial, trivial, trivial, trivial⟩ rfl ?_ (f_ref03_Split_ok _ _ _ e3) rfl (.inl rfl) ?_
  · simp only [wz, wd, ws, seval, e_consignorref08_P, er_getN (i := 0) e2]
  simp only [wz, wd, ws, seval, c72r3, semI.eq_10, semI.eq_11, semI.eq_3, semI.eq_5, semI.eq_7, e_consignorref08_P, er_getN (i := 0) e2]
  refine .seq ?_
  obtain ⟨s2, hf, h⟩ := Option.bind_eq_some_iff.1 h
  refine W.cutQ (fun s3 : Int × Int => s2 = Sum.inl s3) (fun s3 => ⟨lkT [(6, .b (.s (.ptr 6 1 0 0))), (7, .b (.s (.own 11 t.length))), (8, .b (.s (.ptr 8 1 0 0))), (9, .b (.s (.own 18 t2.length)))], lkG [(6, ⟨3, [[(.d (.int .i64 0)), (.d (.int .i64 0)), (.d (.int .i64 0))]], false⟩), (11, ⟨1, er eS t, false⟩), (8, ⟨3, [[(.d (.int .i64 s3.1)), (.d (.int .i64 s3.2)), (.d (.int .i64 1))]], false⟩), (18, ⟨1, er eS t2, false⟩)]⟩) (fun s3 hs => ?_) (fun tail => ?_)
  · subst hs; dsimp only at h
    refine .seq ?_
    refine .seq ?_
    refine Rw.walk ?_
    simp only [wz, wd, ws, seval, c72r9, semI.eq_10, semI.eq_11, semI.eq_3, semI.eq_5, semI.eq_7, e_consignorref08_P, er_getN (i := 0) e2]
    refine .cond (p := (decide ((t.length : Int) > 1))) (by first | rfl | simp only [wz, wd, ws, seval]) (fun h1 => ?_) (fun h1 => ?_)
    · rw [ite_t h1] at h
      refine .seq ?_
      refine Rw.walk ?_
      simp only [wz, wd, ws, seval, c72r10, semI.eq_3, semI.eq_5, semI.eq_7, e_consignorref08_P, er_getN (i := 0) e2]
      obtain ⟨x2, e4, h⟩ := Option.bind_eq_some_iff.1 h
      refine Go1.of (sem_iadrO (l := t) e4 (by rfl) (by rfl) (by rfl)) ?_
      simp only [wz, wd, ws, seval, c72r10, semI.eq_3, semI.eq_5, semI.eq_7, e_consignorref08_P, er_getN (i := 0) e2, er_getN (i := 1) e4]
      refine Go1.of (semI.eq_10 ..) ?_
      simp only [wz, wd, ws, seval, c72r10, semI.eq_3, semI.eq_5, semI.eq_7, e_consignorref08_P, er_getN (i := 0) e2, er_getN (i := 1) e4]
      obtain ⟨t3, e5, h⟩ := Option.bind_eq_some_iff.1 h
      refine call_fun [] false ⟨trivial, trivial, trivial, trivial, trivial⟩ rfl ?_ (f_ref08_number_ok _ _ _ _ e5) (fun _ => rfl) (fun i hi => by cases hi) ?_
      · simp only [wz, wd, ws, seval, e_consignorref08_P, er_getN (i := 0) e2, er_getN (i := 1) e4]
      simp only [wz, wd, ws, seval, c72r10, semI.eq_3, semI.eq_5, semI.eq_7, e_consignorref08_P, er_getN (i := 0) e2, er_getN (i := 1) e4]
      refine Go1.of (semI.eq_11 ..) ?_
      simp only [wz, wd, ws, seval, c72r10, semI.eq_3, semI.eq_5, semI.eq_7, e_consignorref08_P, er_getN (i := 0) e2, er_getN (i := 1) e4]
      refine .seq ?_
      refine Rw.walk ?_
      simp only [wz, wd, ws, seval, c72r11, semI.eq_10, semI.eq_11, semI.eq_3, semI.eq_5, semI.eq_7, e_consignorref08_P, er_getN (i := 0) e2, er_getN (i := 1) e4]
      refine call_alt (v := .b (.s (.d (.int .i64 t3)))) rfl rfl (by simp only [wz, wd, ws, seval]) (fun q => ⟨_, by simp only [wz, wd, ws, seval, semI.eq_10, e_consignorref08_P, er_getN (i := 0) e2, er_getN (i := 1) e4], trivial⟩) ?_
      simp only [wz, wd, ws, seval, c72r11, semI.eq_10, semI.eq_11, semI.eq_3, semI.eq_5, semI.eq_7, e_consignorref08_P, er_getN (i := 0) e2, er_getN (i := 1) e4]
      repeat (refine And.intro ?_ ?_; · first | omega | (simp only [List.length_append, List.length_cons, List.length_nil] at *; omega) | (simp only [List.map_cons, List.map_nil] at *; omega) | (intro q; simp only [wz, wd, ws, seval, q]; done))
      obtain ⟨x3, e6, h⟩ := Option.bind_eq_some_iff.1 h
      refine call_alt (v := .b (.s (.ptr 11 t.length 0 0))) rfl rfl (by simp only [wz, wd, ws, seval]) (fun q => ⟨_, sem_iadrO (l := t) (gx_iff e6 (by first | exact q | simpa using q)) rfl rfl rfl, trivial⟩) ?_
      simp only [wz, wd, ws, seval, c72r11, semI.eq_10, semI.eq_11, semI.eq_3, semI.eq_5, semI.eq_7, e_consignorref08_P, er_getN (i := 0) e2, er_getN (i := 1) e4]
      refine call_alt (v := .b (.s (.d (.str x3)))) rfl rfl (by simp only [wz, wd, ws, seval]) (fun q => ⟨_, by simp only [wz, wd, ws, seval, semI.eq_10, e_consignorref08_P, er_getN (i := 1) e4, er_getN (i := 0) (gx_iff e6 (by simpa using q))], trivial⟩) ?_
      simp only [wz, wd, ws, seval, c72r11, semI.eq_10, semI.eq_11, semI.eq_3, semI.eq_5, semI.eq_7, e_consignorref08_P, er_getN (i := 0) e2, er_getN (i := 1) e4]
      repeat (refine And.intro ?_ ?_; · first | omega | (simp only [List.length_append, List.length_cons, List.length_nil] at *; omega) | (simp only [List.map_cons, List.map_nil] at *; omega) | (intro q; simp only [wz, wd, ws, seval, q]; done))
      refine .cond (p := (((decide ((t.length : Int) > 2)) || (decide (t3 < 0))) || ((!(x3 == ([42] : Str))) && ((t2.length : Int) == 1)))) (by first | rfl | simp only [wz, wd, ws, seval]) (fun h1 => ?_) (fun h1 => ?_)
      · rw [ite_t h1] at h
        refine .seq ?_
        refine Rw.walk ?_
        simp only [wz, wd, ws, seval, c72r12, semI.eq_10, semI.eq_11, semI.eq_3, semI.eq_5, semI.eq_7, e_consignorref08_P, er_getN (i := 0) e2, er_getN (i := 1) e4]
        obtain rfl := Option.some.inj h
        refine .ret ?_
        rw [← hR]
        simp only [wz, wd, ws, seval, rv72, semI.eq_10, e_consignorref08_P, er_getN (i := 0) e2, er_getN (i := 1) e4]
      · rw [ite_f h1] at h
        refine .skip ?_
        refine .seq ?_
        refine Rw.walk ?_
        simp only [wz, wd, ws, seval, c72r13, semI.eq_10, semI.eq_11, semI.eq_3, semI.eq_5, semI.eq_7, e_consignorref08_P, er_getN (i := 0) e2, er_getN (i := 1) e4]
        obtain rfl := Option.some.inj h
        refine .ret ?_
        rw [← hR]
        simp only [wz, wd, ws, seval, rv72, semI.eq_10, e_consignorref08_P, er_getN (i := 0) e2, er_getN (i := 1) e4]
    · rw [ite_f h1] at h
      refine .skip ?_
      refine .seq ?_
      refine Rw.walk ?_
      simp only [wz, wd, ws, seval, c72r13, semI.eq_10, semI.eq_11, semI.eq_3, semI.eq_5, semI.eq_7, e_consignorref08_P, er_getN (i := 0) e2]
      obtain rfl := Option.some.inj h
      refine .ret ?_
      rw [← hR]
      simp only [wz, wd, ws, seval, rv72, semI.eq_10, e_consignorref08_P, er_getN (i := 0) e2]
  have h0_1 := h; replace h := hf
  refine .seq ?_
  refine Rw.walk ?_
  simp only [wz, wd, ws, seval, c72r4, semI.eq_10, semI.eq_11, semI.eq_3, semI.eq_5, semI.eq_7, e_consignorref08_P, er_getN (i := 0) e2]
  obtain ⟨x2, e7, h⟩ := Option.bind_eq_some_iff.1 h
  refine Go1.of (sem_iadrO (l := t) e7 (by rfl) (by rfl) (by rfl)) ?_
  simp only [wz, wd, ws, seval, c72r4, semI.eq_10, semI.eq_11, semI.eq_3, semI.eq_5, semI.eq_7, e_consignorref08_P, er_getN (i := 0) e7]
  refine .cond (p := (!(x2 == ([42] : Str)))) (by first | rfl | simp only [wz, wd, ws, seval]) (fun h1 => ?_) (fun h1 => ?_)
  · rw [ite_t h1] at h
    refine .seq ?_
    refine Rw.walk ?_
    simp only [wz, wd, ws, seval, c72r5, semI.eq_3, semI.eq_5, semI.eq_7, e_consignorref08_P, er_getN (i := 0) e7]
    obtain ⟨x3, e8, h⟩ := Option.bind_eq_some_iff.1 h
    refine Go1.of (sem_iadrO (l := t2) e8 (by rfl) (by rfl) (by rfl)) ?_
    simp only [wz, wd, ws, seval, c72r5, semI.eq_3, semI.eq_5, semI.eq_7, e_consignorref08_P, er_getN (i := 0) e7, er_getN (i := 0) e8]
    refine Go1.of (semI.eq_10 ..) ?_
    simp only [wz, wd, ws, seval, c72r5, semI.eq_3, semI.eq_5, semI.eq_7, e_consignorref08_P, er_getN (i := 0) e7, er_getN (i := 0) e8]
    obtain ⟨t3, e9, h⟩ := Option.bind_eq_some_iff.1 h
    refine call_fun [] false ⟨trivial, trivial, trivial, trivial, trivial⟩ rfl ?_ (f_ref08_number_ok _ _ _ _ e9) (fun _ => rfl) (fun i hi => by cases hi) ?_
    · simp only [wz, wd, ws, seval, e_consignorref08_P, er_getN (i := 0) e7, er_getN (i := 0) e8]
    simp only [wz, wd, ws, seval, c72r5, semI.eq_3, semI.eq_5, semI.eq_7, e_consignorref08_P, er_getN (i := 0) e7, er_getN (i := 0) e8]
    refine Go1.of (semI.eq_11 ..) ?_
    simp only [wz, wd, ws, seval, c72r5, semI.eq_3, semI.eq_5, semI.eq_7, e_consignorref08_P, er_getN (i := 0) e7, er_getN (i := 0) e8]
    refine .seq ?_
    refine Rw.walk ?_
    simp only [wz, wd, ws, seval, c72r6, semI.eq_3, semI.eq_5, semI.eq_7, e_consignorref08_P, er_getN (i := 0) e7, er_getN (i := 0) e8]
    obtain ⟨x4, e10, h⟩ := Option.bind_eq_some_iff.1 h
    refine Go1.of (sem_iadrO (l := t2) e10 (by rfl) (by rfl) (by rfl)) ?_
    simp only [wz, wd, ws, seval, c72r6, semI.eq_3, semI.eq_5, semI.eq_7, e_consignorref08_P, er_getN (i := 0) e7, er_getN (i := 0) e8, er_get e10]
    refine Go1.of (semI.eq_10 ..) ?_
    simp only [wz, wd, ws, seval, c72r6, semI.eq_3, semI.eq_5, semI.eq_7, e_consignorref08_P, er_getN (i := 0) e7, er_getN (i := 0) e8, er_get e10]
    obtain ⟨t4, e11, h⟩ := Option.bind_eq_some_iff.1 h
    refine call_fun [] false ⟨trivial, trivial, trivial, trivial, trivial⟩ rfl ?_ (f_ref08_number_ok _ _ _ _ e11) (fun _ => rfl) (fun i hi => by cases hi) ?_
    · simp only [wz, wd, ws, seval, e_consignorref08_P, er_getN (i := 0) e7, er_getN (i := 0) e8, er_get e10]
    simp only [wz, wd, ws, seval, c72r6, semI.eq_3, semI.eq_5, semI.eq_7, e_consignorref08_P, er_getN (i := 0) e7, er_getN (i := 0) e8, er_get e10]
    refine Go1.of (semI.eq_11 ..) ?_
    simp only [wz, wd, ws, seval, c72r6, semI.eq_3, semI.eq_5, semI.eq_7, e_consignorref08_P, er_getN (i := 0) e7, er_getN (i := 0) e8, er_get e10]
    refine .seq ?_
    refine Rw.walk ?_
    simp only [wz, wd, ws, seval, c72r7, semI.eq_10, semI.eq_11, semI.eq_3, semI.eq_5, semI.eq_7, e_consignorref08_P, er_getN (i := 0) e7, er_getN (i := 0) e8, er_get e10]
    refine call_alt (v := .b (.s (.d (.int .i64 t3)))) rfl rfl (by simp only [wz, wd, ws, seval]) (fun q => ⟨_, by simp only [wz, wd, ws, seval, semI.eq_10, e_consignorref08_P, er_getN (i := 0) e7, er_getN (i := 0) e8, er_get e10], trivial⟩) ?_
    simp only [wz, wd, ws, seval, c72r7, semI.eq_10, semI.eq_11, semI.eq_3, semI.eq_5, semI.eq_7, e_consignorref08_P, er_getN (i := 0) e7, er_getN (i := 0) e8, er_get e10]
    repeat (refine And.intro ?_ ?_; · first | omega | (simp only [List.length_append, List.length_cons, List.length_nil] at *; omega) | (simp only [List.map_cons, List.map_nil] at *; omega) | (intro q; simp only [wz, wd, ws, seval, q]; done))
    refine call_alt (v := .b (.s (.d (.int .i64 t4)))) rfl rfl (by simp only [wz, wd, ws, seval]) (fun q => ⟨_, by simp only [wz, wd, ws, seval, semI.eq_10, e_consignorref08_P, er_getN (i := 0) e7, er_getN (i := 0) e8, er_get e10], trivial⟩) ?_
    simp only [wz, wd, ws, seval, c72r7, semI.eq_10, semI.eq_11, semI.eq_3, semI.eq_5, semI.eq_7, e_consignorref08_P, er_getN (i := 0) e7, er_getN (i := 0) e8, er_get e10]
    refine call_alt (v := .b (.s (.d (.int .i64 t3)))) rfl rfl (by simp only [wz, wd, ws, seval]) (fun q => ⟨_, by simp only [wz, wd, ws, seval, semI.eq_10, e_consignorref08_P, er_getN (i := 0) e7, er_getN (i := 0) e8, er_get e10], trivial⟩) ?_
    simp only [wz, wd, ws, seval, c72r7, semI.eq_10, semI.eq_11, semI.eq_3, semI.eq_5, semI.eq_7, e_consignorref08_P, er_getN (i := 0) e7, er_getN (i := 0) e8, er_get e10]
    repeat (refine And.intro ?_ ?_; · first | omega | (simp only [List.length_append, List.length_cons, List.length_nil] at *; omega) | (simp only [List.map_cons, List.map_nil] at *; omega) | (intro q; simp only [wz, wd, ws, seval, q]; done))
    refine .cond (p := (((decide ((t2.length : Int) > 2)) || (decide (t3 < 0))) || (decide (t4 < t3)))) (by first | rfl | simp only [wz, wd, ws, seval]) (fun h1 => ?_) (fun h1 => ?_)
    · rw [ite_t h1] at h
      refine .seq ?_
      refine Rw.walk ?_
      simp only [wz, wd, ws, seval, c72r8, semI.eq_10, semI.eq_11, semI.eq_3, semI.eq_5, semI.eq_7, e_consignorref08_P, er_getN (i := 0) e7, er_getN (i := 0) e8, er_get e10]
      obtain rfl := Option.some.inj h; replace h := h0_1; dsimp only at h
      obtain rfl := Option.some.inj h
      refine .ret ?_
      rw [← hR]
      simp only [wz, wd, ws, seval, rv72, semI.eq_10, e_consignorref08_P, er_getN (i := 0) e7, er_getN (i := 0) e8, er_get e10]
    · rw [ite_f h1] at h
      refine .skip ?_
      obtain rfl := Option.some.inj h
      refine .weak (Imp.co [] _ _ ?_ ?_ ?_ ?_ ?_) (tail _ rfl) <;> simp only [wz, wd, ws, seval, wi, er_nil, e_consignorref08_P]
  · rw [ite_f h1] at h
    refine .skip ?_
    obtain rfl := Option.some.inj h
    refine .weak (Imp.co [] _ _ ?_ ?_ ?_ ?_ ?_) (tail _ rfl) <;> simp only [wz, wd, ws, seval, wi, er_nil, e_consignorref08_P]
end Go.Proofs.YthcngbbceahdlaaDoor.V
end
