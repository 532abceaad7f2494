/- Go functions compute what Lean functions do. -/
import Derived.Test.YtedibjgdangfnaaGreatDoorProg
import Derived.Test.YtedibjgdangfnaaGreatDoorQRuleNamesB
import Derived.Test.YtedibjgdangfnaaGreatDoorQRuleNamesC
import Derived.KernelRfl
section
/- Go functions compute what Lean functions do. -/
namespace Go.Proofs.YtedibjgdangfnaaGreatDoor.V
open Go Go.RowKit
set_option linter.unusedVariables false
set_option linter.unusedSimpArgs false
set_option maxHeartbeats 1000000
set_option maxRecDepth 20000
theorem f_strings_Count_ok (s sub : Str) (y_ : Int) (h : f_strings_Count s sub = some y_) : Fun Tryz.prog glP 213 [.b (.s (.d (.str s))), .b (.s (.d (.str sub)))] (.b (.s (.d (.int .i64 y_)))) := by
  unfold f_strings_Count at h
  split at h
  · rename_i c
    obtain rfl := Option.some.inj h
    refine Fun.flat (by kernel_rfl) (of_int _ _) fun w S vs hA => ?_
    obtain ⟨v, u, rfl, h1, h2⟩ := args2 hA
    obtain rfl := repv_str (l := s) h1
    obtain rfl := repv_str (l := [c]) h2
    refine (Tryz.strings_Count_one ⟨⟨s⟩⟩ c w).mono fun e w' => ?_
    rintro ⟨rfl, rfl⟩
    exact ⟨rfl, Below.refl _ _⟩
  · cases h
theorem f_strings_explode_ok (s : Str) (n : Int) (y_ : List Str) (h : f_strings_explode s n = some y_) : Fun Tryz.prog glP 212 [.b (.s (.d (.str s))), .b (.s (.d (.int .i64 n)))] (.b (.s (.d (.sl (y_.map eS))))) := by cases h
theorem f_internal_stringslite_Index_ok (s sub : Str) (y_ : Int) (h : f_internal_stringslite_Index s sub = some y_) : Fun Tryz.prog glP 223 [.b (.s (.d (.str s))), .b (.s (.d (.str sub)))] (.b (.s (.d (.int .i64 y_)))) := by
  unfold f_internal_stringslite_Index at h
  split at h
  · rename_i c
    obtain rfl := Option.some.inj h
    refine Fun.flat (by kernel_rfl) (of_int _ _) fun w S vs hA => ?_
    obtain ⟨v, u, rfl, h1, h2⟩ := args2 hA
    obtain rfl := repv_str (l := s) h1
    obtain rfl := repv_str (l := [c]) h2
    refine (Tryz.stringslite_Index_one ⟨⟨s⟩⟩ c w).mono fun e w' => ?_
    rintro ⟨rfl, rfl⟩
    exact ⟨rfl, Below.refl _ _⟩
  · cases h
theorem f_strings_Trim_ok (s cs : Str) (y_ : Str) (h : f_strings_Trim s cs = some y_) : Fun Tryz.prog glP 237 [.b (.s (.d (.str s))), .b (.s (.d (.str cs)))] (.b (.s (.d (.str y_)))) := by
  obtain ⟨⟨h0, h1, h2⟩, h⟩ := gd_iff.1 h
  obtain rfl := Option.some.inj h
  refine Fun.flat (by kernel_rfl) (of_str _) fun w S vs hA => ?_
  obtain ⟨v, u, rfl, e1, e2⟩ := args2 hA
  obtain rfl := repv_str (l := s) e1
  obtain rfl := repv_str (l := cs) e2
  exact Any.strings_Trim_laid Tryz.lays160 (by kernel_rfl) ⟨⟨s⟩⟩ ⟨⟨cs⟩⟩ w (show s.length ≤ _ by omega) (show cs.length < _ by omega) (fun j b hj => of_decide_eq_true (List.all_eq_true.1 h2 b (List.mem_of_getElem? hj)))
-- 14 consignor/consignorlaw14.few
def c14r0 : List Opn := [
  ⟨(some 1), none, .box 9 (.t 0)⟩, 
  ⟨(some 2), none, .new [(.d (.int .i64 0)), (.d (.int .i64 0)), .nils, .nils, (.d (.str [])), (.d (.bool false)), (.d (.bool false)), (.d (.bool false)), (.d (.str []))]⟩]
def c14r1 : List Opn := [
  ⟨(some 7), none, .bsl 1 []⟩, 
  ⟨(some 8), none, .fadr 2 (.t 1)⟩, 
  ⟨(some 9), none, .load false 1 (.t 8)⟩, 
  ⟨(some 10), none, .fadr 2 (.t 1)⟩, 
  ⟨(some 11), none, .load false 1 (.t 10)⟩, 
  ⟨(some 12), none, .len (.sl 0) (.t 11)⟩, 
  ⟨(some 13), none, .mm false (.t 12) (.c (.s (.d (.int .i64 10))))⟩, 
  ⟨(some 14), none, .slc (.sl 1) (.t 9) none (some (.t 13)) none⟩, 
  ⟨(some 15), none, .app 1 16 false (.t 7) (.t 14)⟩, 
  ⟨(some 16), none, .bsl 1 []⟩, 
  ⟨(some 17), none, .fadr 3 (.t 1)⟩, 
  ⟨(some 18), none, .load false 1 (.t 17)⟩, 
  ⟨(some 19), none, .fadr 3 (.t 1)⟩, 
  ⟨(some 20), none, .load false 1 (.t 19)⟩, 
  ⟨(some 21), none, .len (.sl 0) (.t 20)⟩, 
  ⟨(some 22), none, .mm false (.t 21) (.c (.s (.d (.int .i64 10))))⟩, 
  ⟨(some 23), none, .slc (.sl 1) (.t 18) none (some (.t 22)) none⟩, 
  ⟨(some 24), none, .app 1 16 false (.t 16) (.t 23)⟩, 
  ⟨(some 25), none, .fadr 2 (.t 1)⟩, 
  ⟨none, none, .store 1 (.t 25) (.t 15)⟩, 
  ⟨(some 26), none, .fadr 3 (.t 1)⟩, 
  ⟨none, none, .store 1 (.t 26) (.t 24)⟩]
def c14r2 : List Opn := [
  ⟨(some 27), none, .fadr 2 (.t 1)⟩, 
  ⟨(some 28), none, .load false 1 (.t 27)⟩, 
  ⟨(some 29), none, .len (.sl 0) (.t 28)⟩, 
  ⟨(some 30), none, .mv (.c (.s (.d (.int .i64 0))))⟩]
def c14r3 : List Opn := [
  ⟨(some 31), none, .bin .lss (.t 30) (.t 29)⟩]
def c14r4 : List Opn := [
  ⟨(some 32), none, .mv (.t 30)⟩, 
  ⟨(some 33), none, .iadr (.sl 1) (.t 28) (.t 30)⟩, 
  ⟨(some 34), none, .load false 1 (.t 33)⟩, 
  ⟨(some 3), none, .mv (.t 32)⟩, 
  ⟨(some 4), none, .mv (.t 34)⟩]
def c14r5 : List Opn := [
  ⟨(some 35), none, .fadr 2 (.t 1)⟩, 
  ⟨(some 36), none, .load false 1 (.t 35)⟩, 
  ⟨(some 37), none, .mv (.t 3)⟩, 
  ⟨(some 38), none, .mv (.t 4)⟩, 
  ⟨(some 39), none, .mv (.t 4)⟩, 
  ⟨(some 40), none, .len .str (.t 39)⟩, 
  ⟨(some 41), none, .mm false (.t 40) (.c (.s (.d (.int .i64 130))))⟩, 
  ⟨(some 42), none, .slc .str (.t 38) none (some (.t 41)) none⟩, 
  ⟨(some 43), none, .iadr (.sl 1) (.t 36) (.t 37)⟩, 
  ⟨none, none, .store 1 (.t 43) (.t 42)⟩]
def c14r6 : List Opn := [
  ⟨(some 44), none, .bin .add (.t 30) (.c (.s (.d (.int .i64 1))))⟩, 
  ⟨(some 30), none, .mv (.t 44)⟩]
def c14l7 : C := .seq (.reg c14r3 none [1, 2, 28, 29, 30, 31]) (.seq (.cond (.t 31) (.skip) (.exit 0)) (.seq (.blk 1 (.seq (.reg c14r4 none [1, 2, 3, 4, 28, 29, 30]) (.reg c14r5 (some [0, 1, 0, 0, 0, 16, 48, 120, 255, 511]) [1, 2, 28, 29, 30]))) (.reg c14r6 none [1, 2, 28, 29, 30])))
def c14r7 : List Opn := [
  ⟨(some 45), none, .fadr 3 (.t 1)⟩, 
  ⟨(some 46), none, .load false 1 (.t 45)⟩, 
  ⟨(some 47), none, .len (.sl 0) (.t 46)⟩, 
  ⟨(some 48), none, .mv (.c (.s (.d (.int .i64 0))))⟩]
def c14r8 : List Opn := [
  ⟨(some 49), none, .bin .lss (.t 48) (.t 47)⟩]
def c14r9 : List Opn := [
  ⟨(some 50), none, .mv (.t 48)⟩, 
  ⟨(some 51), none, .iadr (.sl 1) (.t 46) (.t 48)⟩, 
  ⟨(some 52), none, .load false 1 (.t 51)⟩, 
  ⟨(some 5), none, .mv (.t 50)⟩, 
  ⟨(some 6), none, .mv (.t 52)⟩]
def c14r10 : List Opn := [
  ⟨(some 53), none, .fadr 3 (.t 1)⟩, 
  ⟨(some 54), none, .load false 1 (.t 53)⟩, 
  ⟨(some 55), none, .mv (.t 5)⟩, 
  ⟨(some 56), none, .mv (.t 6)⟩, 
  ⟨(some 57), none, .mv (.t 6)⟩, 
  ⟨(some 58), none, .len .str (.t 57)⟩, 
  ⟨(some 59), none, .mm false (.t 58) (.c (.s (.d (.int .i64 130))))⟩, 
  ⟨(some 60), none, .slc .str (.t 56) none (some (.t 59)) none⟩, 
  ⟨(some 61), none, .iadr (.sl 1) (.t 54) (.t 55)⟩, 
  ⟨none, none, .store 1 (.t 61) (.t 60)⟩]
def c14r11 : List Opn := [
  ⟨(some 62), none, .bin .add (.t 48) (.c (.s (.d (.int .i64 1))))⟩, 
  ⟨(some 48), none, .mv (.t 62)⟩]
def c14l13 : C := .seq (.reg c14r8 none [1, 2, 46, 47, 48, 49]) (.seq (.cond (.t 49) (.skip) (.exit 2)) (.seq (.blk 3 (.seq (.reg c14r9 none [1, 2, 5, 6, 46, 47, 48]) (.reg c14r10 (some [0, 1, 0, 0, 0, 16, 48, 120, 255, 511]) [1, 2, 46, 47, 48]))) (.reg c14r11 none [1, 2, 46, 47, 48])))
def c14r12 : List Opn := [
  ⟨(some 63), none, .fadr 4 (.t 1)⟩, 
  ⟨(some 64), none, .load false 1 (.t 63)⟩, 
  ⟨(some 65), none, .fadr 4 (.t 1)⟩, 
  ⟨(some 66), none, .load false 1 (.t 65)⟩, 
  ⟨(some 67), none, .len .str (.t 66)⟩, 
  ⟨(some 68), none, .mm false (.t 67) (.c (.s (.d (.int .i64 130))))⟩, 
  ⟨(some 69), none, .slc .str (.t 64) none (some (.t 68)) none⟩, 
  ⟨(some 70), none, .fadr 8 (.t 1)⟩, 
  ⟨(some 71), none, .load false 1 (.t 70)⟩, 
  ⟨(some 72), none, .fadr 8 (.t 1)⟩, 
  ⟨(some 73), none, .load false 1 (.t 72)⟩, 
  ⟨(some 74), none, .len .str (.t 73)⟩, 
  ⟨(some 75), none, .mm false (.t 74) (.c (.s (.d (.int .i64 205))))⟩, 
  ⟨(some 76), none, .slc .str (.t 71) none (some (.t 75)) none⟩, 
  ⟨(some 77), none, .fadr 4 (.t 1)⟩, 
  ⟨none, none, .store 1 (.t 77) (.t 69)⟩, 
  ⟨(some 78), none, .fadr 8 (.t 1)⟩, 
  ⟨none, none, .store 1 (.t 78) (.t 76)⟩]
def c14r13 : List Opn := [
  ⟨(some 79), none, .load true 9 (.t 1)⟩, 
  ⟨none, none, .store 9 (.t 2) (.t 79)⟩]
def c14 : C := .seq (.reg c14r0 none [1, 2]) (.seq (.reg c14r1 (some [0, 0, 2, 0, 8, 24, 56, 126, 255, 0, 0, 1024, 0, 4096, 12288, 28672, 64512, 131071, 15871, 524287, 1048575, 2097151]) [1, 2]) (.seq (.seq (.reg c14r2 none [1, 2, 28, 29, 30]) (.blk 0 (.loop c14l7))) (.seq (.seq (.reg c14r7 none [1, 2, 46, 47, 48]) (.blk 2 (.loop c14l13))) (.seq (.reg c14r12 (some [0, 1, 0, 4, 12, 28, 63, 0, 128, 0, 512, 1536, 3584, 8064, 2047, 18431, 65535, 131071]) [1, 2]) (.seq (.reg c14r13 none [2]) (.ret))))))
def k14 : List (Nat × List Nat) := [(13, [2]), (12, [1, 2]), (11, [1, 2, 46, 47, 48]), (10, [1, 2, 46, 47, 48]), (9, [1, 2, 5, 6, 46, 47, 48]), (8, [1, 2, 46, 47, 48, 49]), (7, [1, 2, 46, 47, 48]), (6, [1, 2, 28, 29, 30]), (5, [1, 2, 28, 29, 30]), (4, [1, 2, 3, 4, 28, 29, 30]), (3, [1, 2, 28, 29, 30, 31]), (2, [1, 2, 28, 29, 30]), (1, [1, 2]), (0, [1, 2])]
theorem cc14 : (Tryz.f14.body).bind (cC Tryz.prog 80 k14) = some c14 := by kernel_rfl
def rv14 : List RV := [.c 2 true 9]
theorem cr14 : cRVs Tryz.prog Tryz.f14.results.toList = some rv14 := by kernel_rfl
theorem f_law14_few_l7_ok (rv : api_Rule) (y_ : api_Rule) (R_ : St → Prop) (hR : (Ret Tryz.prog glP [7, 16] rv14 (.b (.agg ((e_api_Rule y_).map Lc.d)))) = R_) : ∀ (m_ : Nat) (v30 : Int) (v28 : (List Str)) (res_ : Int × (List Str)) (h : f_law14_few_l7 rv m_ v30 v28 = some res_) (k_ : List It) (hx : ∀ s_ : Int × (List Str), res_ = s_ → W Tryz.prog glP 80 k_ ⟨lkT [(1, .b (.s (.ptr 1 1 0 0))), (2, .b (.s (.ptr 2 1 0 0))), (28, .b (.s (.own 7 s_.2.length))), (29, .b (.s (.d (.int .i64 ((([] : List Str) ++ (cut rv.Repos 0 (if 10 < (rv.Repos.length : Int) then 10 else (rv.Repos.length : Int)))).length : Int))))), (30, .b (.s (.d (.int .i64 s_.1))))], lkG [(1, ⟨9, [[(.d (.int .i64 rv.Id)), (.d (.int .i64 rv.From)), (.own 7 s_.2.length), (.own 16 (([] : List Str) ++ (cut rv.Tags 0 (if 10 < (rv.Tags.length : Int) then 10 else (rv.Tags.length : Int)))).length), (.d (.str rv.Prefix)), (.d (.bool rv.Override)), (.d (.bool rv.Delete)), (.d (.bool rv.On)), (.d (.str rv.Cron))]], false⟩), (7, ⟨1, er eS s_.2, false⟩), (16, ⟨1, er eS (([] : List Str) ++ (cut rv.Tags 0 (if 10 < (rv.Tags.length : Int) then 10 else (rv.Tags.length : Int)))), false⟩), (2, ⟨9, [[(.d (.int .i64 0)), (.d (.int .i64 0)), .nils, .nils, (.d (.str ([] : Str))), (.d (.bool false)), (.d (.bool false)), (.d (.bool false)), (.d (.str ([] : Str)))]], false⟩)]⟩ R_), W Tryz.prog glP 80 (.c c14l7 :: .lp c14l7 :: .blk 0 :: k_) ⟨lkT [(1, .b (.s (.ptr 1 1 0 0))), (2, .b (.s (.ptr 2 1 0 0))), (28, .b (.s (.own 7 v28.length))), (29, .b (.s (.d (.int .i64 ((([] : List Str) ++ (cut rv.Repos 0 (if 10 < (rv.Repos.length : Int) then 10 else (rv.Repos.length : Int)))).length : Int))))), (30, .b (.s (.d (.int .i64 v30))))], lkG [(1, ⟨9, [[(.d (.int .i64 rv.Id)), (.d (.int .i64 rv.From)), (.own 7 v28.length), (.own 16 (([] : List Str) ++ (cut rv.Tags 0 (if 10 < (rv.Tags.length : Int) then 10 else (rv.Tags.length : Int)))).length), (.d (.str rv.Prefix)), (.d (.bool rv.Override)), (.d (.bool rv.Delete)), (.d (.bool rv.On)), (.d (.str rv.Cron))]], false⟩), (7, ⟨1, er eS v28, false⟩), (16, ⟨1, er eS (([] : List Str) ++ (cut rv.Tags 0 (if 10 < (rv.Tags.length : Int) then 10 else (rv.Tags.length : Int)))), false⟩), (2, ⟨9, [[(.d (.int .i64 0)), (.d (.int .i64 0)), .nils, .nils, (.d (.str ([] : Str))), (.d (.bool false)), (.d (.bool false)), (.d (.bool false)), (.d (.str ([] : Str)))]], false⟩)]⟩ R_ := by
  intro m_; induction m_ with
  | zero => intro v30 v28 res_ h; rw [f_law14_few_l7.eq_1] at h; cases h
  | succ m_ ih =>
    intro v30 v28 res_ h k_ hx; rw [f_law14_few_l7.eq_2] at h; refine W.cdef c14l7.eq_1 ?_
    refine .seq ?_
    refine Rw.walk ?_
    simp only [wz, wd, ws, seval, c14r3, semI.eq_10, semI.eq_11, semI.eq_3, semI.eq_5, semI.eq_7, e_api_Rule]
    refine .seq ?_
    refine .cond (p := (decide (v30 < ((([] : List Str) ++ (cut rv.Repos 0 (if 10 < (rv.Repos.length : Int) then 10 else (rv.Repos.length : Int)))).length : Int)))) (by first | rfl | simp only [wz, wd, ws, seval]) (fun h1 => ?_) (fun h1 => ?_)
    · rw [ite_t h1] at h
      refine .skip ?_
      refine .seq ?_
      refine .blk ?_
      refine .seq ?_
      refine Rw.walk ?_
      simp only [wz, wd, ws, seval, c14r4, semI.eq_10, semI.eq_11, semI.eq_3, semI.eq_5, semI.eq_7, e_api_Rule]
      obtain ⟨x, e5, h⟩ := Option.bind_eq_some_iff.1 h
      refine Go1.of (sem_iadrO (l := v28) e5 (by rfl) (by rfl) (by rfl)) ?_
      simp only [wz, wd, ws, seval, c14r4, semI.eq_10, semI.eq_11, semI.eq_3, semI.eq_5, semI.eq_7, e_api_Rule, er_get e5]
      refine RwD.walk ?_
      simp only [wz, wd, ws, seval, c14r5, semI.eq_3, semI.eq_5, semI.eq_7, e_api_Rule, er_get e5]
      refine GoD1.of (semI.eq_10 ..) ?_
      simp only [wz, wd, ws, seval, c14r5, semI.eq_3, semI.eq_5, semI.eq_7, e_api_Rule, er_get e5]
      obtain ⟨g6, h⟩ := gd_iff.1 h
      repeat (refine And.intro ?_ ?_; · first | omega | (simp only [List.length_append, List.length_cons, List.length_nil] at *; omega) | (simp only [List.map_cons, List.map_nil] at *; omega) | (intro q; simp only [wz, wd, ws, seval, q]; done))
      obtain ⟨x2, e7, h⟩ := Option.bind_eq_some_iff.1 h
      refine GoD1.of (sem_iadrO (l := v28) e7 (by rfl) (by rfl) (by rfl)) ?_
      simp only [wz, wd, ws, seval, c14r5, semI.eq_3, semI.eq_5, semI.eq_7, e_api_Rule, er_get e7]
      refine GoD1.of (sem_store (enc := eS) (l := v28) (a := x2) (a' := (cut x 0 (if 130 < (x.length : Int) then 130 else (x.length : Int)))) (v := .b (.s (.d (.str (cut x 0 (if 130 < (x.length : Int) then 130 else (x.length : Int))))))) (by rfl) (by rfl) (er_get e7) (by rfl) (by trivial) (by rfl) (Nat.le_of_ble_eq_true (by rfl)) (by rfl)) ?_
      simp only [wz, wd, ws, seval, c14r5, semI.eq_3, semI.eq_5, semI.eq_7, e_api_Rule, er_get e7]
      refine .eblk ?_
      refine Rw.walk ?_
      simp only [wz, wd, ws, seval, c14r6, semI.eq_10, semI.eq_11, semI.eq_3, semI.eq_5, semI.eq_7, e_api_Rule, er_get e7]
      refine .lp ?_
      refine .weak (Imp.co [] _ _ ?_ ?_ ?_ ?_ ?_) (ih (IntKind.i64.wrap (v30 + 1)) (v28.set v30.toNat (cut x 0 (if 130 < (x.length : Int) then 130 else (x.length : Int)))) _ h k_ hx) <;> simp only [wz, wd, ws, seval, wi, er_nil, e_api_Rule]
    · rw [ite_f h1] at h
      refine .exit rfl ?_
      obtain rfl := Option.some.inj h
      refine .weak (Imp.co [] _ _ ?_ ?_ ?_ ?_ ?_) (hx _ rfl) <;> simp only [wz, wd, ws, seval, wi, er_nil, e_api_Rule]
theorem f_law14_few_l13_ok (rv : api_Rule) (s : Int × (List Str)) (y_ : api_Rule) (R_ : St → Prop) (hR : (Ret Tryz.prog glP [7, 16] rv14 (.b (.agg ((e_api_Rule y_).map Lc.d)))) = R_) : ∀ (m_ : Nat) (v48 : Int) (v46 : (List Str)) (res_ : Int × (List Str)) (h : f_law14_few_l13 rv s m_ v48 v46 = some res_) (k_ : List It) (hx : ∀ s_ : Int × (List Str), res_ = s_ → W Tryz.prog glP 80 k_ ⟨lkT [(1, .b (.s (.ptr 1 1 0 0))), (2, .b (.s (.ptr 2 1 0 0))), (46, .b (.s (.own 16 s_.2.length))), (47, .b (.s (.d (.int .i64 ((([] : List Str) ++ (cut rv.Tags 0 (if 10 < (rv.Tags.length : Int) then 10 else (rv.Tags.length : Int)))).length : Int))))), (48, .b (.s (.d (.int .i64 s_.1))))], lkG [(1, ⟨9, [[(.d (.int .i64 rv.Id)), (.d (.int .i64 rv.From)), (.own 7 s.2.length), (.own 16 s_.2.length), (.d (.str rv.Prefix)), (.d (.bool rv.Override)), (.d (.bool rv.Delete)), (.d (.bool rv.On)), (.d (.str rv.Cron))]], false⟩), (7, ⟨1, er eS s.2, false⟩), (16, ⟨1, er eS s_.2, false⟩), (2, ⟨9, [[(.d (.int .i64 0)), (.d (.int .i64 0)), .nils, .nils, (.d (.str ([] : Str))), (.d (.bool false)), (.d (.bool false)), (.d (.bool false)), (.d (.str ([] : Str)))]], false⟩)]⟩ R_), W Tryz.prog glP 80 (.c c14l13 :: .lp c14l13 :: .blk 2 :: k_) ⟨lkT [(1, .b (.s (.ptr 1 1 0 0))), (2, .b (.s (.ptr 2 1 0 0))), (46, .b (.s (.own 16 v46.length))), (47, .b (.s (.d (.int .i64 ((([] : List Str) ++ (cut rv.Tags 0 (if 10 < (rv.Tags.length : Int) then 10 else (rv.Tags.length : Int)))).length : Int))))), (48, .b (.s (.d (.int .i64 v48))))], lkG [(1, ⟨9, [[(.d (.int .i64 rv.Id)), (.d (.int .i64 rv.From)), (.own 7 s.2.length), (.own 16 v46.length), (.d (.str rv.Prefix)), (.d (.bool rv.Override)), (.d (.bool rv.Delete)), (.d (.bool rv.On)), (.d (.str rv.Cron))]], false⟩), (7, ⟨1, er eS s.2, false⟩), (16, ⟨1, er eS v46, false⟩), (2, ⟨9, [[(.d (.int .i64 0)), (.d (.int .i64 0)), .nils, .nils, (.d (.str ([] : Str))), (.d (.bool false)), (.d (.bool false)), (.d (.bool false)), (.d (.str ([] : Str)))]], false⟩)]⟩ R_ := by
  intro m_; induction m_ with
  | zero => intro v48 v46 res_ h; rw [f_law14_few_l13.eq_1] at h; cases h
  | succ m_ ih =>
    intro v48 v46 res_ h k_ hx; rw [f_law14_few_l13.eq_2] at h; refine W.cdef c14l13.eq_1 ?_
    refine .seq ?_
    refine Rw.walk ?_
    simp only [wz, wd, ws, seval, c14r8, semI.eq_10, semI.eq_11, semI.eq_3, semI.eq_5, semI.eq_7, e_api_Rule]
    refine .seq ?_
    refine .cond (p := (decide (v48 < ((([] : List Str) ++ (cut rv.Tags 0 (if 10 < (rv.Tags.length : Int) then 10 else (rv.Tags.length : Int)))).length : Int)))) (by first | rfl | simp only [wz, wd, ws, seval]) (fun h1 => ?_) (fun h1 => ?_)
    · rw [ite_t h1] at h
      refine .skip ?_
      refine .seq ?_
      refine .blk ?_
      refine .seq ?_
      refine Rw.walk ?_
      simp only [wz, wd, ws, seval, c14r9, semI.eq_10, semI.eq_11, semI.eq_3, semI.eq_5, semI.eq_7, e_api_Rule]
      obtain ⟨x, e8, h⟩ := Option.bind_eq_some_iff.1 h
      refine Go1.of (sem_iadrO (l := v46) e8 (by rfl) (by rfl) (by rfl)) ?_
      simp only [wz, wd, ws, seval, c14r9, semI.eq_10, semI.eq_11, semI.eq_3, semI.eq_5, semI.eq_7, e_api_Rule, er_get e8]
      refine RwD.walk ?_
      simp only [wz, wd, ws, seval, c14r10, semI.eq_3, semI.eq_5, semI.eq_7, e_api_Rule, er_get e8]
      refine GoD1.of (semI.eq_10 ..) ?_
      simp only [wz, wd, ws, seval, c14r10, semI.eq_3, semI.eq_5, semI.eq_7, e_api_Rule, er_get e8]
      obtain ⟨g9, h⟩ := gd_iff.1 h
      repeat (refine And.intro ?_ ?_; · first | omega | (simp only [List.length_append, List.length_cons, List.length_nil] at *; omega) | (simp only [List.map_cons, List.map_nil] at *; omega) | (intro q; simp only [wz, wd, ws, seval, q]; done))
      obtain ⟨x2, e10, h⟩ := Option.bind_eq_some_iff.1 h
      refine GoD1.of (sem_iadrO (l := v46) e10 (by rfl) (by rfl) (by rfl)) ?_
      simp only [wz, wd, ws, seval, c14r10, semI.eq_3, semI.eq_5, semI.eq_7, e_api_Rule, er_get e10]
      refine GoD1.of (sem_store (enc := eS) (l := v46) (a := x2) (a' := (cut x 0 (if 130 < (x.length : Int) then 130 else (x.length : Int)))) (v := .b (.s (.d (.str (cut x 0 (if 130 < (x.length : Int) then 130 else (x.length : Int))))))) (by rfl) (by rfl) (er_get e10) (by rfl) (by trivial) (by rfl) (Nat.le_of_ble_eq_true (by rfl)) (by rfl)) ?_
      simp only [wz, wd, ws, seval, c14r10, semI.eq_3, semI.eq_5, semI.eq_7, e_api_Rule, er_get e10]
      refine .eblk ?_
      refine Rw.walk ?_
      simp only [wz, wd, ws, seval, c14r11, semI.eq_10, semI.eq_11, semI.eq_3, semI.eq_5, semI.eq_7, e_api_Rule, er_get e10]
      refine .lp ?_
      refine .weak (Imp.co [] _ _ ?_ ?_ ?_ ?_ ?_) (ih (IntKind.i64.wrap (v48 + 1)) (v46.set v48.toNat (cut x 0 (if 130 < (x.length : Int) then 130 else (x.length : Int)))) _ h k_ hx) <;> simp only [wz, wd, ws, seval, wi, er_nil, e_api_Rule]
    · rw [ite_f h1] at h
      refine .exit rfl ?_
      obtain rfl := Option.some.inj h
      refine .weak (Imp.co [] _ _ ?_ ?_ ?_ ?_ ?_) (hx _ rfl) <;> simp only [wz, wd, ws, seval, wi, er_nil, e_api_Rule]
theorem f_law14_few_ok (rv : api_Rule) (y_ : api_Rule) (h : f_law14_few rv = some y_) : Fun Tryz.prog glP 14 [.b (.agg ((e_api_Rule rv).map Lc.d))] (.b (.agg ((e_api_Rule y_).map Lc.d))) := by
  refine fun_walk [7, 16] Tryz.func14 Tryz.ntmps14 cc14 cr14 (by kernel_rfl) (by simp only [List.length_cons, List.length_nil]; decide) ?_
  generalize hR : Ret _ _ _ _ _ = R_
  simp only [wz, wd, ws, seval, e_api_Rule]
  unfold f_law14_few at h; unfold c14
  refine .seq ?_
  refine Rw.walk ?_
  simp only [wz, wd, ws, seval, c14r0, semI.eq_10, semI.eq_11, semI.eq_3, semI.eq_5, semI.eq_7, e_api_Rule]
  refine .seq ?_
  refine RwD.walk ?_
  simp only [wz, wd, ws, seval, c14r1, semI.eq_10, semI.eq_11, semI.eq_3, semI.eq_5, semI.eq_7, e_api_Rule]
  refine GoD1.of (sem_bsl (enc := eS) (m := ([] : List Str)) eS_len (by rfl) (by rfl) (by rfl) trivial) ?_
  simp only [wz, wd, ws, seval, c14r1, semI.eq_10, semI.eq_11, semI.eq_3, semI.eq_5, semI.eq_7, e_api_Rule]
  obtain ⟨g1, h⟩ := gd_iff.1 h
  repeat (refine And.intro ?_ ?_; · first | omega | (simp only [List.length_append, List.length_cons, List.length_nil] at *; omega) | (simp only [List.map_cons, List.map_nil] at *; omega) | (intro q; simp only [wz, wd, ws, seval, q]; done))
  refine GoD1.of (sem_slc (p := 0) (q := (if 10 < (rv.Repos.length : Int) then 10 else (rv.Repos.length : Int))) eS_len (by rfl) (by rfl) (by rfl)) ?_
  simp only [wz, wd, ws, seval, c14r1, semI.eq_10, semI.eq_11, semI.eq_3, semI.eq_5, semI.eq_7, e_api_Rule]
  repeat (refine And.intro ?_ ?_; · first | omega | (simp only [List.length_append, List.length_cons, List.length_nil] at *; omega) | (simp only [List.map_cons, List.map_nil] at *; omega) | (intro q; simp only [wz, wd, ws, seval, q]; done))
  obtain ⟨g2, h⟩ := gd_iff.1 h
  refine GoD1.of (sem_app (enc := eS) (l := ([] : List Str)) (m := (cut rv.Repos 0 (if 10 < (rv.Repos.length : Int) then 10 else (rv.Repos.length : Int)))) eS_len (by rfl) (by rfl) ((by rfl))) ?_
  simp only [wz, wd, ws, seval, c14r1, semI.eq_10, semI.eq_11, semI.eq_3, semI.eq_5, semI.eq_7, e_api_Rule]
  repeat (refine And.intro ?_ ?_; · first | omega | (simp only [List.length_append, List.length_cons, List.length_nil] at *; omega) | (simp only [List.map_cons, List.map_nil] at *; omega) | (intro q; simp only [wz, wd, ws, seval, q]; done))
  refine GoD1.of (sem_bsl (enc := eS) (m := ([] : List Str)) eS_len (by rfl) (by rfl) (by rfl) trivial) ?_
  simp only [wz, wd, ws, seval, c14r1, semI.eq_10, semI.eq_11, semI.eq_3, semI.eq_5, semI.eq_7, e_api_Rule]
  obtain ⟨g3, h⟩ := gd_iff.1 h
  repeat (refine And.intro ?_ ?_; · first | omega | (simp only [List.length_append, List.length_cons, List.length_nil] at *; omega) | (simp only [List.map_cons, List.map_nil] at *; omega) | (intro q; simp only [wz, wd, ws, seval, q]; done))
  refine GoD1.of (sem_slc (p := 0) (q := (if 10 < (rv.Tags.length : Int) then 10 else (rv.Tags.length : Int))) eS_len (by rfl) (by rfl) (by rfl)) ?_
  simp only [wz, wd, ws, seval, c14r1, semI.eq_10, semI.eq_11, semI.eq_3, semI.eq_5, semI.eq_7, e_api_Rule]
  repeat (refine And.intro ?_ ?_; · first | omega | (simp only [List.length_append, List.length_cons, List.length_nil] at *; omega) | (simp only [List.map_cons, List.map_nil] at *; omega) | (intro q; simp only [wz, wd, ws, seval, q]; done))
  obtain ⟨g4, h⟩ := gd_iff.1 h
  refine GoD1.of (sem_app (enc := eS) (l := ([] : List Str)) (m := (cut rv.Tags 0 (if 10 < (rv.Tags.length : Int) then 10 else (rv.Tags.length : Int)))) eS_len (by rfl) (by rfl) ((by rfl))) ?_
  simp only [wz, wd, ws, seval, c14r1, semI.eq_10, semI.eq_11, semI.eq_3, semI.eq_5, semI.eq_7, e_api_Rule]
  repeat (refine And.intro ?_ ?_; · first | omega | (simp only [List.length_append, List.length_cons, List.length_nil] at *; omega) | (simp only [List.map_cons, List.map_nil] at *; omega) | (intro q; simp only [wz, wd, ws, seval, q]; done))
  refine .seq ?_
  refine .seq ?_
  refine Rw.walk ?_
  simp only [wz, wd, ws, seval, c14r2, semI.eq_10, semI.eq_11, semI.eq_3, semI.eq_5, semI.eq_7, e_api_Rule]
  refine .blk ?_
  obtain ⟨s, hf, h⟩ := Option.bind_eq_some_iff.1 h
  refine .loop (.weak (Imp.co [] _ _ ?c1 ?c2 ?c3 ?c4 ?c5) (f_law14_few_l7_ok rv _ _ hR _ _ _ _ hf _ ?_))
  case c1 | c2 | c3 | c4 | c5 => simp only [wz, wd, ws, seval, wi, er_nil, e_api_Rule]
  · intro s_ hs; subst hs
    refine .seq ?_
    refine .seq ?_
    refine Rw.walk ?_
    simp only [wz, wd, ws, seval, c14r7, semI.eq_10, semI.eq_11, semI.eq_3, semI.eq_5, semI.eq_7, e_api_Rule]
    refine .blk ?_
    obtain ⟨s2, hf, h⟩ := Option.bind_eq_some_iff.1 h
    refine .loop (.weak (Imp.co [] _ _ ?c1 ?c2 ?c3 ?c4 ?c5) (f_law14_few_l13_ok rv s _ _ hR _ _ _ _ hf _ ?_))
    case c1 | c2 | c3 | c4 | c5 => simp only [wz, wd, ws, seval, wi, er_nil, e_api_Rule]
    · intro s2_ hs; subst hs
      refine .seq ?_
      refine RwD.walk ?_
      obtain ⟨g11, h⟩ := gd_iff.1 h
      obtain ⟨g12, h⟩ := gd_iff.1 h
      simp only [wz, wd, ws, seval, c14r12, semI.eq_10, semI.eq_11, semI.eq_3, semI.eq_5, semI.eq_7, e_api_Rule]
      repeat (refine And.intro ?_ ?_; · first | omega | (simp only [List.length_append, List.length_cons, List.length_nil] at *; omega) | (simp only [List.map_cons, List.map_nil] at *; omega) | (intro q; simp only [wz, wd, ws, seval, q]; done))
      refine .seq ?_
      refine Rw.walk ?_
      simp only [wz, wd, ws, seval, c14r13, semI.eq_10, semI.eq_11, semI.eq_3, semI.eq_5, semI.eq_7, e_api_Rule]
      obtain rfl := Option.some.inj h
      refine .ret ?_
      rw [← hR]
      simp only [wz, wd, ws, seval, rv14, semI.eq_10, e_api_Rule]
-- 196 strings.Index
def c196r0 : List Opn := [
  ⟨(some 4), none, .mv (.c (.s (.d (.int .i64 0))))⟩]
def c196r1 : List Opn := [
  ⟨(some 5), none, .mv (.t 0)⟩, 
  ⟨(some 6), none, .mv (.t 1)⟩, 
  ⟨(some 7), none, .call (.fn 223) [(.t 5), (.t 6)]⟩, 
  ⟨(some 4), none, .mv (.t 7)⟩]
def c196 : C := .seq (.reg c196r0 none [0, 1]) (.seq (.reg c196r1 none [4]) (.ret))
def k196 : List (Nat × List Nat) := [(1, [4]), (0, [0, 1])]
theorem cc196 : (Tryz.f196.body).bind (cC Tryz.prog 8 k196) = some c196 := by kernel_rfl
def rv196 : List RV := [.t 4]
theorem cr196 : cRVs Tryz.prog Tryz.f196.results.toList = some rv196 := by kernel_rfl
theorem f_strings_Index_ok (s : Str) (substr : Str) (y_ : Int) (h : f_strings_Index s substr = some y_) : Fun Tryz.prog glP 196 [.b (.s (.d (.str s))), .b (.s (.d (.str substr)))] (.b (.s (.d (.int .i64 y_)))) := by
  refine fun_walk [] Tryz.func196 Tryz.ntmps196 cc196 cr196 (by kernel_rfl) (by simp only [List.length_cons, List.length_nil]; decide) ?_
  generalize hR : Ret _ _ _ _ _ = R_
  simp only [wz, wd, ws, seval]
  unfold f_strings_Index at h; unfold c196
  refine .seq ?_
  refine Rw.walk ?_
  simp only [wz, wd, ws, seval, c196r0, semI.eq_10, semI.eq_11, semI.eq_3, semI.eq_5, semI.eq_7]
  refine .seq ?_
  refine Rw.walk ?_
  simp only [wz, wd, ws, seval, c196r1, semI.eq_10, semI.eq_11, semI.eq_3, semI.eq_5, semI.eq_7]
  obtain ⟨t, e1, h⟩ := Option.bind_eq_some_iff.1 h
  refine call_fun [] false ⟨trivial, trivial, trivial, trivial⟩ rfl ?_ (f_internal_stringslite_Index_ok _ _ _ e1) (fun _ => rfl) (fun i hi => by cases hi) ?_
  · simp only [wz, wd, ws, seval]
  simp only [wz, wd, ws, seval, c196r1, semI.eq_10, semI.eq_11, semI.eq_3, semI.eq_5, semI.eq_7]
  obtain rfl := Option.some.inj h
  refine .ret ?_
  rw [← hR]
  simp only [wz, wd, ws, seval, rv196]
-- 181 strings.genSplit
def c181r0 : List Opn := [
  ⟨(some 8), none, .mv (.c (.s .nils))⟩]
def c181r1 : List Opn := [
  ⟨(some 12), none, .mv (.t 3)⟩, 
  ⟨(some 13), none, .bin .eql (.t 12) (.c (.s (.d (.int .i64 0))))⟩]
def c181r2 : List Opn := [
  ⟨(some 8), none, .mv (.c (.s .nils))⟩]
def c181r3 : List Opn := [
  ⟨(some 14), none, .mv (.t 1)⟩, 
  ⟨(some 15), none, .bin .eql (.t 14) (.c (.s (.d (.str []))))⟩]
def c181r4 : List Opn := [
  ⟨(some 16), none, .mv (.t 0)⟩, 
  ⟨(some 17), none, .mv (.t 3)⟩, 
  ⟨(some 18), none, .call (.fn 212) [(.t 16), (.t 17)]⟩, 
  ⟨(some 8), none, .mv (.t 18)⟩]
def c181r5 : List Opn := [
  ⟨(some 19), none, .mv (.t 3)⟩, 
  ⟨(some 20), none, .bin .lss (.t 19) (.c (.s (.d (.int .i64 0))))⟩]
def c181r6 : List Opn := [
  ⟨(some 21), none, .mv (.t 0)⟩, 
  ⟨(some 22), none, .mv (.t 1)⟩, 
  ⟨(some 23), none, .call (.fn 213) [(.t 21), (.t 22)]⟩, 
  ⟨(some 24), none, .bin .add (.t 23) (.c (.s (.d (.int .i64 1))))⟩, 
  ⟨(some 3), none, .mv (.t 24)⟩]
def c181r7 : List Opn := [
  ⟨(some 25), none, .mv (.t 3)⟩, 
  ⟨(some 26), none, .mv (.t 0)⟩, 
  ⟨(some 27), none, .len .str (.t 26)⟩, 
  ⟨(some 28), none, .bin .add (.t 27) (.c (.s (.d (.int .i64 1))))⟩, 
  ⟨(some 29), none, .mm false (.t 25) (.t 28)⟩, 
  ⟨(some 3), none, .mv (.t 29)⟩]
def c181r8 : List Opn := [
  ⟨(some 30), none, .mv (.t 3)⟩, 
  ⟨(some 31), none, .mksl 1 16 [(.d (.str []))] (.t 30) (.t 30)⟩, 
  ⟨(some 9), none, .mv (.t 31)⟩]
def c181r9 : List Opn := [
  ⟨(some 32), none, .mv (.t 3)⟩, 
  ⟨(some 33), none, .bin .sub (.t 32) (.c (.s (.d (.int .i64 1))))⟩, 
  ⟨(some 3), none, .mv (.t 33)⟩]
def c181r10 : List Opn := [
  ⟨(some 10), none, .mv (.c (.s (.d (.int .i64 0))))⟩]
def c181r11 : List Opn := [
  ⟨(some 34), none, .mv (.t 10)⟩, 
  ⟨(some 35), none, .mv (.t 3)⟩, 
  ⟨(some 36), none, .bin .lss (.t 34) (.t 35)⟩]
def c181r12 : List Opn := [
  ⟨(some 37), none, .mv (.t 0)⟩, 
  ⟨(some 38), none, .mv (.t 1)⟩, 
  ⟨(some 39), none, .call (.fn 196) [(.t 37), (.t 38)]⟩, 
  ⟨(some 11), none, .mv (.t 39)⟩]
def c181r13 : List Opn := [
  ⟨(some 40), none, .mv (.t 11)⟩, 
  ⟨(some 41), none, .bin .lss (.t 40) (.c (.s (.d (.int .i64 0))))⟩]
def c181r14 : List Opn := [
  ⟨(some 42), none, .mv (.t 9)⟩, 
  ⟨(some 43), none, .mv (.t 10)⟩, 
  ⟨(some 44), none, .mv (.t 0)⟩, 
  ⟨(some 45), none, .mv (.t 11)⟩, 
  ⟨(some 46), none, .mv (.t 2)⟩, 
  ⟨(some 47), none, .bin .add (.t 45) (.t 46)⟩, 
  ⟨(some 48), none, .slc .str (.t 44) none (some (.t 47)) none⟩, 
  ⟨(some 49), none, .iadr (.sl 1) (.t 42) (.t 43)⟩, 
  ⟨none, none, .store 1 (.t 49) (.t 48)⟩]
def c181r15 : List Opn := [
  ⟨(some 50), none, .mv (.t 0)⟩, 
  ⟨(some 51), none, .mv (.t 11)⟩, 
  ⟨(some 52), none, .mv (.t 1)⟩, 
  ⟨(some 53), none, .len .str (.t 52)⟩, 
  ⟨(some 54), none, .bin .add (.t 51) (.t 53)⟩, 
  ⟨(some 55), none, .slc .str (.t 50) (some (.t 54)) none none⟩, 
  ⟨(some 0), none, .mv (.t 55)⟩]
def c181r16 : List Opn := [
  ⟨(some 56), none, .mv (.t 10)⟩, 
  ⟨(some 57), none, .bin .add (.t 56) (.c (.s (.d (.int .i64 1))))⟩, 
  ⟨(some 10), none, .mv (.t 57)⟩]
def c181l17 : C := .seq (.seq (.reg c181r11 none [0, 1, 2, 3, 9, 10, 36]) (.cond (.t 36) (.skip) (.exit 0))) (.blk 1 (.seq (.reg c181r12 none [0, 1, 2, 3, 9, 10, 11]) (.seq (.seq (.reg c181r13 none [0, 1, 2, 3, 9, 10, 11, 41]) (.cond (.t 41) (.exit 0) (.skip))) (.seq (.reg c181r14 none [0, 1, 2, 3, 9, 10, 11]) (.seq (.reg c181r15 none [0, 1, 2, 3, 9, 10]) (.reg c181r16 none [0, 1, 2, 3, 9, 10]))))))
def c181r17 : List Opn := [
  ⟨(some 58), none, .mv (.t 9)⟩, 
  ⟨(some 59), none, .mv (.t 10)⟩, 
  ⟨(some 60), none, .mv (.t 0)⟩, 
  ⟨(some 61), none, .iadr (.sl 1) (.t 58) (.t 59)⟩, 
  ⟨none, none, .store 1 (.t 61) (.t 60)⟩]
def c181r18 : List Opn := [
  ⟨(some 62), none, .mv (.t 9)⟩, 
  ⟨(some 63), none, .mv (.t 10)⟩, 
  ⟨(some 64), none, .bin .add (.t 63) (.c (.s (.d (.int .i64 1))))⟩, 
  ⟨(some 65), none, .slc (.sl 1) (.t 62) none (some (.t 64)) none⟩, 
  ⟨(some 8), none, .mv (.t 65)⟩]
def c181 : C := .seq (.reg c181r0 none [0, 1, 2, 3]) (.seq (.seq (.reg c181r1 none [0, 1, 2, 3, 13]) (.cond (.t 13) (.seq (.reg c181r2 none [8]) (.ret)) (.skip))) (.seq (.seq (.reg c181r3 none [0, 1, 2, 3, 15]) (.cond (.t 15) (.seq (.reg c181r4 none [8]) (.ret)) (.skip))) (.seq (.seq (.reg c181r5 none [0, 1, 2, 3, 20]) (.cond (.t 20) (.reg c181r6 none [0, 1, 2, 3]) (.skip))) (.seq (.reg c181r7 none [0, 1, 2, 3]) (.seq (.reg c181r8 none [0, 1, 2, 3, 9]) (.seq (.reg c181r9 none [0, 1, 2, 3, 9]) (.seq (.reg c181r10 none [0, 1, 2, 3, 9, 10]) (.seq (.blk 0 (.loop c181l17)) (.seq (.reg c181r17 none [9, 10]) (.seq (.reg c181r18 none [8]) (.ret)))))))))))
def k181 : List (Nat × List Nat) := [(18, [8]), (17, [9, 10]), (16, [0, 1, 2, 3, 9, 10]), (15, [0, 1, 2, 3, 9, 10]), (14, [0, 1, 2, 3, 9, 10, 11]), (13, [0, 1, 2, 3, 9, 10, 11, 41]), (12, [0, 1, 2, 3, 9, 10, 11]), (11, [0, 1, 2, 3, 9, 10, 36]), (10, [0, 1, 2, 3, 9, 10]), (9, [0, 1, 2, 3, 9]), (8, [0, 1, 2, 3, 9]), (7, [0, 1, 2, 3]), (6, [0, 1, 2, 3]), (5, [0, 1, 2, 3, 20]), (4, [8]), (3, [0, 1, 2, 3, 15]), (2, [8]), (1, [0, 1, 2, 3, 13]), (0, [0, 1, 2, 3])]
theorem cc181 : (Tryz.f181.body).bind (cC Tryz.prog 66 k181) = some c181 := by kernel_rfl
def rv181 : List RV := [.t 8]
theorem cr181 : cRVs Tryz.prog Tryz.f181.results.toList = some rv181 := by kernel_rfl
theorem f_strings_genSplit_l17_ok (s : Str) (sep : Str) (sepSave : Int) (n2 : Int) (y_ : (List Str)) (R_ : St → Prop) (hR : (Ret Tryz.prog glP [] rv181 (.b (.s (.d (.sl (y_.map eS)))))) = R_) : ∀ (m_ : Nat) (s3 : Str) (i : Int) (a : (List Str)) (res_ : Str × Int × (List Str)) (h : f_strings_genSplit_l17 s sep sepSave n2 m_ s3 i a = some res_) (k_ : List It) (hx : ∀ s_ : Str × Int × (List Str), res_ = s_ → W Tryz.prog glP 66 k_ ⟨lkT [(0, .b (.s (.d (.str s_.1)))), (1, .b (.s (.d (.str sep)))), (2, .b (.s (.d (.int .i64 sepSave)))), (3, .b (.s (.d (.int .i64 (IntKind.i64.wrap (n2 - 1)))))), (9, .b (.s (.own 31 s_.2.2.length))), (10, .b (.s (.d (.int .i64 s_.2.1))))], lkG [(31, ⟨1, er eS s_.2.2, false⟩)]⟩ R_), W Tryz.prog glP 66 (.c c181l17 :: .lp c181l17 :: .blk 0 :: k_) ⟨lkT [(0, .b (.s (.d (.str s3)))), (1, .b (.s (.d (.str sep)))), (2, .b (.s (.d (.int .i64 sepSave)))), (3, .b (.s (.d (.int .i64 (IntKind.i64.wrap (n2 - 1)))))), (9, .b (.s (.own 31 a.length))), (10, .b (.s (.d (.int .i64 i))))], lkG [(31, ⟨1, er eS a, false⟩)]⟩ R_ := by
  intro m_; induction m_ with
  | zero => intro s3 i a res_ h; rw [f_strings_genSplit_l17.eq_1] at h; cases h
  | succ m_ ih =>
    intro s3 i a res_ h k_ hx; rw [f_strings_genSplit_l17.eq_2] at h; refine W.cdef c181l17.eq_1 ?_
    refine .seq ?_
    refine .seq ?_
    refine Rw.walk ?_
    simp only [wz, wd, ws, seval, c181r11, semI.eq_10, semI.eq_11, semI.eq_3, semI.eq_5, semI.eq_7]
    refine .cond (p := (decide (i < (IntKind.i64.wrap (n2 - 1))))) (by first | rfl | simp only [wz, wd, ws, seval]) (fun h1 => ?_) (fun h1 => ?_)
    · rw [ite_t h1] at h
      refine .skip ?_
      refine .blk ?_
      refine .seq ?_
      refine Rw.walk ?_
      simp only [wz, wd, ws, seval, c181r12, semI.eq_10, semI.eq_11, semI.eq_3, semI.eq_5, semI.eq_7]
      obtain ⟨t, e4, h⟩ := Option.bind_eq_some_iff.1 h
      refine call_fun [] false ⟨trivial, trivial, trivial, trivial⟩ rfl ?_ (f_strings_Index_ok _ _ _ e4) (fun _ => rfl) (fun i hi => by cases hi) ?_
      · simp only [wz, wd, ws, seval]
      simp only [wz, wd, ws, seval, c181r12, semI.eq_10, semI.eq_11, semI.eq_3, semI.eq_5, semI.eq_7]
      refine .seq ?_
      refine .seq ?_
      refine Rw.walk ?_
      simp only [wz, wd, ws, seval, c181r13, semI.eq_10, semI.eq_11, semI.eq_3, semI.eq_5, semI.eq_7]
      refine .cond (p := (decide (t < 0))) (by first | rfl | simp only [wz, wd, ws, seval]) (fun h1 => ?_) (fun h1 => ?_)
      · rw [ite_t h1] at h
        refine .exit rfl ?_
        obtain rfl := Option.some.inj h
        refine .weak (Imp.co [] _ _ ?_ ?_ ?_ ?_ ?_) (hx _ rfl) <;> simp only [wz, wd, ws, seval, wi, er_nil]
      · rw [ite_f h1] at h
        refine .skip ?_
        refine .seq ?_
        refine Rw.walk ?_
        obtain ⟨g5, h⟩ := gd_iff.1 h
        simp only [wz, wd, ws, seval, c181r14, semI.eq_3, semI.eq_5, semI.eq_7]
        repeat (refine And.intro ?_ ?_; · first | omega | (simp only [List.length_append, List.length_cons, List.length_nil] at *; omega) | (simp only [List.map_cons, List.map_nil] at *; omega) | (intro q; simp only [wz, wd, ws, seval, q]; done))
        obtain ⟨x, e6, h⟩ := Option.bind_eq_some_iff.1 h
        refine Go1.of (sem_iadrO (l := a) e6 (by rfl) (by rfl) (by rfl)) ?_
        simp only [wz, wd, ws, seval, c181r14, semI.eq_3, semI.eq_5, semI.eq_7, er_get e6]
        refine Go1.of (sem_store (enc := eS) (l := a) (a := x) (a' := (cut s3 0 (IntKind.i64.wrap (t + sepSave)))) (v := .b (.s (.d (.str (cut s3 0 (IntKind.i64.wrap (t + sepSave))))))) (by rfl) (by rfl) (er_get e6) (by rfl) (by trivial) (by rfl) (Nat.le_of_ble_eq_true (by rfl)) (by rfl)) ?_
        simp only [wz, wd, ws, seval, c181r14, semI.eq_3, semI.eq_5, semI.eq_7, er_get e6]
        refine .seq ?_
        refine Rw.walk ?_
        obtain ⟨g7, h⟩ := gd_iff.1 h
        simp only [wz, wd, ws, seval, c181r15, semI.eq_10, semI.eq_11, semI.eq_3, semI.eq_5, semI.eq_7, er_get e6]
        repeat (refine And.intro ?_ ?_; · first | omega | (simp only [List.length_append, List.length_cons, List.length_nil] at *; omega) | (simp only [List.map_cons, List.map_nil] at *; omega) | (intro q; simp only [wz, wd, ws, seval, q]; done))
        refine Rw.walk ?_
        simp only [wz, wd, ws, seval, c181r16, semI.eq_10, semI.eq_11, semI.eq_3, semI.eq_5, semI.eq_7, er_get e6]
        refine .eblk ?_
        refine .lp ?_
        refine .weak (Imp.co [] _ _ ?_ ?_ ?_ ?_ ?_) (ih (cut s3 (IntKind.i64.wrap (t + (sep.length : Int))) (s3.length : Int)) (IntKind.i64.wrap (i + 1)) (a.set i.toNat (cut s3 0 (IntKind.i64.wrap (t + sepSave)))) _ h k_ hx) <;> simp only [wz, wd, ws, seval, wi, er_nil]
    · rw [ite_f h1] at h
      refine .exit rfl ?_
      obtain rfl := Option.some.inj h
      refine .weak (Imp.co [] _ _ ?_ ?_ ?_ ?_ ?_) (hx _ rfl) <;> simp only [wz, wd, ws, seval, wi, er_nil]
theorem f_strings_genSplit_ok (s : Str) (sep : Str) (sepSave : Int) (n : Int) (y_ : (List Str)) (h : f_strings_genSplit s sep sepSave n = some y_) : Fun Tryz.prog glP 181 [.b (.s (.d (.str s))), .b (.s (.d (.str sep))), .b (.s (.d (.int .i64 sepSave))), .b (.s (.d (.int .i64 n)))] (.b (.s (.d (.sl (y_.map eS))))) := by
  refine fun_walk [] Tryz.func181 Tryz.ntmps181 cc181 cr181 (by kernel_rfl) (by simp only [List.length_cons, List.length_nil]; decide) ?_
  generalize hR : Ret _ _ _ _ _ = R_
  simp only [wz, wd, ws, seval]
  unfold f_strings_genSplit at h; unfold c181
  refine .seq ?_
  refine Rw.walk ?_
  simp only [wz, wd, ws, seval, c181r0, semI.eq_10, semI.eq_11, semI.eq_3, semI.eq_5, semI.eq_7]
  refine .seq ?_
  refine .seq ?_
  refine Rw.walk ?_
  simp only [wz, wd, ws, seval, c181r1, semI.eq_10, semI.eq_11, semI.eq_3, semI.eq_5, semI.eq_7]
  refine .cond (p := (n == 0)) (by first | rfl | simp only [wz, wd, ws, seval]) (fun h1 => ?_) (fun h1 => ?_)
  · rw [ite_t h1] at h
    refine .seq ?_
    refine Rw.walk ?_
    simp only [wz, wd, ws, seval, c181r2, semI.eq_10, semI.eq_11, semI.eq_3, semI.eq_5, semI.eq_7]
    obtain rfl := Option.some.inj h
    refine .ret ?_
    rw [← hR]
    simp only [wz, wd, ws, seval, rv181]
  · rw [ite_f h1] at h
    refine .skip ?_
    refine .seq ?_
    refine .seq ?_
    refine Rw.walk ?_
    simp only [wz, wd, ws, seval, c181r3, semI.eq_10, semI.eq_11, semI.eq_3, semI.eq_5, semI.eq_7]
    refine .cond (p := (sep == ([] : Str))) (by first | rfl | simp only [wz, wd, ws, seval]) (fun h1 => ?_) (fun h1 => ?_)
    · rw [ite_t h1] at h
      refine .seq ?_
      refine Rw.walk ?_
      simp only [wz, wd, ws, seval, c181r4, semI.eq_10, semI.eq_11, semI.eq_3, semI.eq_5, semI.eq_7]
      obtain ⟨t, e1, h⟩ := Option.bind_eq_some_iff.1 h
      refine call_fun [] true ⟨trivial, trivial, trivial, trivial⟩ rfl ?_ (f_strings_explode_ok _ _ _ e1) (fun h => by cases h) (fun i hi => by cases hi) ?_
      · simp only [wz, wd, ws, seval]
      simp only [wz, wd, ws, seval, c181r4, semI.eq_10, semI.eq_11, semI.eq_3, semI.eq_5, semI.eq_7]
      obtain rfl := Option.some.inj h
      refine .ret ?_
      rw [← hR]
      simp only [wz, wd, ws, seval, rv181]
    · rw [ite_f h1] at h
      refine .skip ?_
      refine .seq ?_
      obtain ⟨s2, hf, h⟩ := Option.bind_eq_some_iff.1 h
      refine W.cut1 ⟨lkT [(0, .b (.s (.d (.str s)))), (1, .b (.s (.d (.str sep)))), (2, .b (.s (.d (.int .i64 sepSave)))), (3, .b (.s (.d (.int .i64 s2))))], lkG []⟩ ?_ (fun tail => ?_)
      · skip
        refine .seq ?_
        refine Rw.walk ?_
        simp only [wz, wd, ws, seval, c181r7, semI.eq_10, semI.eq_11, semI.eq_3, semI.eq_5, semI.eq_7]
        obtain ⟨n2, e2, h⟩ := Option.bind_eq_some_iff.1 h
        replace e2 := Option.some.inj e2
        first | simp only [e2] | (simp only [wz, wd, ws, seval] at e2; simp only [e2])
        refine .seq ?_
        refine Rw.walk ?_
        simp only [wz, wd, ws, seval, c181r8, semI.eq_10, semI.eq_11, semI.eq_3, semI.eq_5, semI.eq_7]
        obtain ⟨g3, h⟩ := gd_iff.1 h
        repeat (refine And.intro ?_ ?_; · first | omega | (simp only [List.length_append, List.length_cons, List.length_nil] at *; omega) | (simp only [List.map_cons, List.map_nil] at *; omega) | (intro q; simp only [wz, wd, ws, seval, q]; done))
        refine Go1.of (sem_mksl (enc := eS) (z1 := []) (p := n2) (q := n2) (by rfl) (by rfl) (by rfl) (by rfl) (by rfl)) ?_
        simp only [wz, wd, ws, seval, c181r8, semI.eq_10, semI.eq_11, semI.eq_3, semI.eq_5, semI.eq_7]
        repeat (refine And.intro ?_ ?_; · first | omega | (simp only [List.length_append, List.length_cons, List.length_nil] at *; omega) | (simp only [List.map_cons, List.map_nil] at *; omega) | (intro q; simp only [wz, wd, ws, seval, q]; done))
        refine .seq ?_
        refine Rw.walk ?_
        simp only [wz, wd, ws, seval, c181r9, semI.eq_10, semI.eq_11, semI.eq_3, semI.eq_5, semI.eq_7]
        refine .seq ?_
        refine Rw.walk ?_
        simp only [wz, wd, ws, seval, c181r10, semI.eq_10, semI.eq_11, semI.eq_3, semI.eq_5, semI.eq_7]
        refine .seq ?_
        refine .blk ?_
        obtain ⟨s3, hf, h⟩ := Option.bind_eq_some_iff.1 h
        refine .loop (.weak (Imp.co [] _ _ ?c1 ?c2 ?c3 ?c4 ?c5) (f_strings_genSplit_l17_ok s sep sepSave n2 _ _ hR _ _ _ _ _ hf _ ?_))
        case c1 | c2 | c3 | c4 | c5 => simp only [wz, wd, ws, seval, wi, er_nil]
        · intro s3_ hs; subst hs
          refine .seq ?_
          refine Rw.walk ?_
          simp only [wz, wd, ws, seval, c181r17, semI.eq_3, semI.eq_5, semI.eq_7]
          obtain ⟨x, e8, h⟩ := Option.bind_eq_some_iff.1 h
          refine Go1.of (sem_iadrO (l := s3.2.2) e8 (by rfl) (by rfl) (by rfl)) ?_
          simp only [wz, wd, ws, seval, c181r17, semI.eq_3, semI.eq_5, semI.eq_7, er_get e8]
          refine Go1.of (sem_store (enc := eS) (l := s3.2.2) (a := x) (a' := s3.1) (v := .b (.s (.d (.str s3.1)))) (by rfl) (by rfl) (er_get e8) (by rfl) (by trivial) (by rfl) (Nat.le_of_ble_eq_true (by rfl)) (by rfl)) ?_
          simp only [wz, wd, ws, seval, c181r17, semI.eq_3, semI.eq_5, semI.eq_7, er_get e8]
          refine .seq ?_
          refine .weak (Imp.co [31] [(9, .b (.s (.d (.sl ((s3.2.2.set s3.2.1.toNat s3.1).map eS))))), (10, .b (.s (.d (.int .i64 s3.2.1))))] [] ?c1 ?c2 ?c3 ?c4 ?c5) ?c6
          case c1 | c2 | c3 | c4 | c5 => simp only [wz, wd, ws, seval, wi, er_nil]
          refine Rw.walk ?_
          simp only [wz, wd, ws, seval, c181r18, semI.eq_10, semI.eq_11, semI.eq_3, semI.eq_5, semI.eq_7, er_get e8]
          obtain ⟨g9, h⟩ := gd_iff.1 h
          repeat (refine And.intro ?_ ?_; · first | omega | (simp only [List.length_append, List.length_cons, List.length_nil] at *; omega) | (simp only [List.map_cons, List.map_nil] at *; omega) | (intro q; simp only [wz, wd, ws, seval, q]; done))
          refine Go1.of (sem_slc (p := 0) (q := (IntKind.i64.wrap (s3.2.1 + 1))) eS_len (by rfl) (by rfl) (by rfl)) ?_
          simp only [wz, wd, ws, seval, c181r18, semI.eq_10, semI.eq_11, semI.eq_3, semI.eq_5, semI.eq_7, er_get e8]
          repeat (refine And.intro ?_ ?_; · first | omega | (simp only [List.length_append, List.length_cons, List.length_nil] at *; omega) | (simp only [List.map_cons, List.map_nil] at *; omega) | (intro q; simp only [wz, wd, ws, seval, q]; done))
          obtain rfl := Option.some.inj h
          refine .ret ?_
          rw [← hR]
          simp only [wz, wd, ws, seval, rv181, er_get e8]
      replace h := hf
      refine .seq ?_
      refine Rw.walk ?_
      simp only [wz, wd, ws, seval, c181r5, semI.eq_10, semI.eq_11, semI.eq_3, semI.eq_5, semI.eq_7]
      refine .cond (p := (decide (n < 0))) (by first | rfl | simp only [wz, wd, ws, seval]) (fun h1 => ?_) (fun h1 => ?_)
      · rw [ite_t h1] at h
        refine Rw.walk ?_
        simp only [wz, wd, ws, seval, c181r6, semI.eq_10, semI.eq_11, semI.eq_3, semI.eq_5, semI.eq_7]
        obtain ⟨t, e10, h⟩ := Option.bind_eq_some_iff.1 h
        refine call_fun [] false ⟨trivial, trivial, trivial, trivial⟩ rfl ?_ (f_strings_Count_ok _ _ _ e10) (fun _ => rfl) (fun i hi => by cases hi) ?_
        · simp only [wz, wd, ws, seval]
        simp only [wz, wd, ws, seval, c181r6, semI.eq_10, semI.eq_11, semI.eq_3, semI.eq_5, semI.eq_7]
        obtain rfl := Option.some.inj h
        refine .weak (Imp.co [] _ _ ?_ ?_ ?_ ?_ ?_) (tail) <;> simp only [wz, wd, ws, seval, wi, er_nil]
      · rw [ite_f h1] at h
        refine .skip ?_
        obtain rfl := Option.some.inj h
        refine .weak (Imp.co [] _ _ ?_ ?_ ?_ ?_ ?_) (tail) <;> simp only [wz, wd, ws, seval, wi, er_nil]
-- 126 strings.Split
def c126r0 : List Opn := [
  ⟨(some 4), none, .mv (.c (.s .nils))⟩]
def c126r1 : List Opn := [
  ⟨(some 5), none, .mv (.t 0)⟩, 
  ⟨(some 6), none, .mv (.t 1)⟩, 
  ⟨(some 7), none, .call (.fn 181) [(.t 5), (.t 6), (.c (.s (.d (.int .i64 0)))), (.c (.s (.d (.int .i64 (-1)))))]⟩, 
  ⟨(some 4), none, .mv (.t 7)⟩]
def c126 : C := .seq (.reg c126r0 none [0, 1]) (.seq (.reg c126r1 none [4]) (.ret))
def k126 : List (Nat × List Nat) := [(1, [4]), (0, [0, 1])]
theorem cc126 : (Tryz.f126.body).bind (cC Tryz.prog 8 k126) = some c126 := by kernel_rfl
def rv126 : List RV := [.t 4]
theorem cr126 : cRVs Tryz.prog Tryz.f126.results.toList = some rv126 := by kernel_rfl
theorem f_strings_Split_ok (s : Str) (sep : Str) (y_ : (List Str)) (h : f_strings_Split s sep = some y_) : Fun Tryz.prog glP 126 [.b (.s (.d (.str s))), .b (.s (.d (.str sep)))] (.b (.s (.d (.sl (y_.map eS))))) := by
  refine fun_walk [] Tryz.func126 Tryz.ntmps126 cc126 cr126 (by kernel_rfl) (by simp only [List.length_cons, List.length_nil]; decide) ?_
  generalize hR : Ret _ _ _ _ _ = R_
  simp only [wz, wd, ws, seval]
  unfold f_strings_Split at h; unfold c126
  refine .seq ?_
  refine Rw.walk ?_
  simp only [wz, wd, ws, seval, c126r0, semI.eq_10, semI.eq_11, semI.eq_3, semI.eq_5, semI.eq_7]
  refine .seq ?_
  refine Rw.walk ?_
  simp only [wz, wd, ws, seval, c126r1, semI.eq_10, semI.eq_11, semI.eq_3, semI.eq_5, semI.eq_7]
  obtain ⟨t, e1, h⟩ := Option.bind_eq_some_iff.1 h
  refine call_fun [] true ⟨trivial, trivial, trivial, trivial, trivial, trivial⟩ rfl ?_ (f_strings_genSplit_ok _ _ _ _ _ e1) (fun h => by cases h) (fun i hi => by cases hi) ?_
  · simp only [wz, wd, ws, seval]
  simp only [wz, wd, ws, seval, c126r1, semI.eq_10, semI.eq_11, semI.eq_3, semI.eq_5, semI.eq_7]
  obtain rfl := Option.some.inj h
  refine .ret ?_
  rw [← hR]
  simp only [wz, wd, ws, seval, rv126]
-- 127 consignor/cron.fields
def c127r0 : List Opn := [
  ⟨(some 0), none, .new [(.d (.int .i64 0)), (.d (.int .i64 0)), (.d (.int .i64 0)), (.d (.int .i64 0)), (.d (.int .i64 0)), (.d (.int .i64 0)), (.d (.int .i64 0)), (.d (.int .i64 0)), (.d (.int .i64 0)), (.d (.int .i64 0))]⟩]
def c127r1 : List Opn := [
  ⟨(some 1), none, .build [(.d (.int .i64 0)), (.d (.int .i64 0))] [(0, 1, (.c (.s (.d (.int .i64 0))))), (1, 1, (.c (.s (.d (.int .i64 59)))))]⟩, 
  ⟨(some 2), none, .build [(.d (.int .i64 0)), (.d (.int .i64 0))] [(0, 1, (.c (.s (.d (.int .i64 0))))), (1, 1, (.c (.s (.d (.int .i64 23)))))]⟩, 
  ⟨(some 3), none, .build [(.d (.int .i64 0)), (.d (.int .i64 0))] [(0, 1, (.c (.s (.d (.int .i64 1))))), (1, 1, (.c (.s (.d (.int .i64 31)))))]⟩, 
  ⟨(some 4), none, .build [(.d (.int .i64 0)), (.d (.int .i64 0))] [(0, 1, (.c (.s (.d (.int .i64 1))))), (1, 1, (.c (.s (.d (.int .i64 12)))))]⟩, 
  ⟨(some 5), none, .build [(.d (.int .i64 0)), (.d (.int .i64 0))] [(0, 1, (.c (.s (.d (.int .i64 0))))), (1, 1, (.c (.s (.d (.int .i64 6)))))]⟩, 
  ⟨(some 6), none, .build [(.d (.int .i64 0)), (.d (.int .i64 0)), (.d (.int .i64 0)), (.d (.int .i64 0)), (.d (.int .i64 0)), (.d (.int .i64 0)), (.d (.int .i64 0)), (.d (.int .i64 0)), (.d (.int .i64 0)), (.d (.int .i64 0))] [(0, 2, (.t 1)), (2, 2, (.t 2)), (4, 2, (.t 3)), (6, 2, (.t 4)), (8, 2, (.t 5))]⟩, 
  ⟨none, none, .store 10 (.t 0) (.t 6)⟩]
def c127 : C := .seq (.reg c127r0 none [0]) (.seq (.reg c127r1 none [0]) (.ret))
def k127 : List (Nat × List Nat) := [(1, [0]), (0, [0])]
theorem cc127 : (Tryz.f127.body).bind (cC Tryz.prog 7 k127) = some c127 := by kernel_rfl
def rv127 : List RV := [.c 0 true 10]
theorem cr127 : cRVs Tryz.prog Tryz.f127.results.toList = some rv127 := by kernel_rfl
theorem f_cron_fields_ok (y_ : (List cron_bounds)) (h : f_cron_fields = some y_) : Fun Tryz.prog glP 127 [] (.b (.agg (ea e_cron_bounds y_))) := by
  refine fun_walk [] Tryz.func127 Tryz.ntmps127 cc127 cr127 (by kernel_rfl) (by simp only [List.length_cons, List.length_nil]; decide) ?_
  generalize hR : Ret _ _ _ _ _ = R_
  simp only [wz, wd, ws, seval, e_cron_bounds]
  unfold f_cron_fields at h; unfold c127
  refine .seq ?_
  refine Rw.walk ?_
  simp only [wz, wd, ws, seval, c127r0, semI.eq_10, semI.eq_11, e_cron_bounds]
  refine Go1.of (sem_newA (enc := e_cron_bounds) (l := (List.replicate 5 default)) (by first | rfl | (simp only [List.length_map, List.length_replicate, List.length_set]; rfl)) (by first | rfl | (simp only [List.length_map, List.length_replicate, List.length_set]; rfl)) (by first | rfl | (simp only [List.length_map, List.length_replicate, List.length_set]; rfl))) ?_
  simp only [wz, wd, ws, seval, c127r0, semI.eq_10, semI.eq_11, e_cron_bounds]
  refine .seq ?_
  refine Rw.walk ?_
  simp only [wz, wd, ws, seval, c127r1, e_cron_bounds]
  refine Go1.of (semI.eq_7 ..) ?_
  simp only [wz, wd, ws, seval, c127r1, e_cron_bounds]
  refine Go1.of (semI.eq_7 ..) ?_
  simp only [wz, wd, ws, seval, c127r1, e_cron_bounds]
  refine Go1.of (semI.eq_7 ..) ?_
  simp only [wz, wd, ws, seval, c127r1, e_cron_bounds]
  refine Go1.of (semI.eq_7 ..) ?_
  simp only [wz, wd, ws, seval, c127r1, e_cron_bounds]
  refine Go1.of (semI.eq_7 ..) ?_
  simp only [wz, wd, ws, seval, c127r1, e_cron_bounds]
  refine Go1.of (sem_buildA (enc := e_cron_bounds) (l := ([(cron_bounds.mk 0 59), (cron_bounds.mk 0 23), (cron_bounds.mk 1 31), (cron_bounds.mk 1 12), (cron_bounds.mk 0 6)] : (List cron_bounds))) (by simp only [wz, wd, ws, seval, e_cron_bounds]) (by simp only [wz, wd, ws, seval, e_cron_bounds]) (by simp only [wz, wd, ws, seval, ea_nil, ea_cons, e_cron_bounds])) ?_
  simp only [wz, wd, ws, seval, c127r1, e_cron_bounds]
  refine Go1.of (sem_storeW (l := (List.replicate 5 default)) (m := ([(cron_bounds.mk 0 59), (cron_bounds.mk 0 23), (cron_bounds.mk 1 31), (cron_bounds.mk 1 12), (cron_bounds.mk 0 6)] : (List cron_bounds))) (n0 := 5) e_cron_bounds_len (by first | rfl | (simp only [List.length_map, List.length_replicate, List.length_set]; rfl)) (by first | rfl | (simp only [List.length_map, List.length_replicate, List.length_set]; rfl)) (by first | rfl | (simp only [List.length_map, List.length_replicate, List.length_set]; rfl)) (by first | exact trivial | exact Eq.refl _) (by first | rfl | (simp only [List.length_map, List.length_replicate, List.length_set]; rfl)) (by first | exact trivial | exact Eq.refl _)) ?_
  simp only [wz, wd, ws, seval, c127r1, e_cron_bounds]
  obtain ⟨gr, h⟩ := gd_iff.1 h
  obtain rfl := Option.some.inj h
  refine .ret ?_
  rw [← hR]
  exact ret_cellA (n0 := 5) e_cron_bounds_len (by rfl) (by rfl) (by rfl) (by first | exact gr | exact Eq.refl _)
-- 236 internal/stringslite.Cut
def c236r0 : List Opn := [
  ⟨(some 4), none, .mv (.c (.s (.d (.str []))))⟩, 
  ⟨(some 5), none, .mv (.c (.s (.d (.str []))))⟩, 
  ⟨(some 6), none, .mv (.c (.s (.d (.bool false))))⟩]
def c236r1 : List Opn := [
  ⟨(some 8), none, .mv (.t 0)⟩, 
  ⟨(some 9), none, .mv (.t 1)⟩, 
  ⟨(some 10), none, .call (.fn 223) [(.t 8), (.t 9)]⟩, 
  ⟨(some 7), none, .mv (.t 10)⟩]
def c236r2 : List Opn := [
  ⟨(some 11), none, .mv (.t 7)⟩, 
  ⟨(some 12), none, .bin .geq (.t 11) (.c (.s (.d (.int .i64 0))))⟩]
def c236r3 : List Opn := [
  ⟨(some 13), none, .mv (.t 0)⟩, 
  ⟨(some 14), none, .mv (.t 7)⟩, 
  ⟨(some 15), none, .slc .str (.t 13) none (some (.t 14)) none⟩, 
  ⟨(some 16), none, .mv (.t 0)⟩, 
  ⟨(some 17), none, .mv (.t 7)⟩, 
  ⟨(some 18), none, .mv (.t 1)⟩, 
  ⟨(some 19), none, .len .str (.t 18)⟩, 
  ⟨(some 20), none, .bin .add (.t 17) (.t 19)⟩, 
  ⟨(some 21), none, .slc .str (.t 16) (some (.t 20)) none none⟩, 
  ⟨(some 4), none, .mv (.t 15)⟩, 
  ⟨(some 5), none, .mv (.t 21)⟩, 
  ⟨(some 6), none, .mv (.c (.s (.d (.bool true))))⟩]
def c236r4 : List Opn := [
  ⟨(some 22), none, .mv (.t 0)⟩, 
  ⟨(some 4), none, .mv (.t 22)⟩, 
  ⟨(some 5), none, .mv (.c (.s (.d (.str []))))⟩, 
  ⟨(some 6), none, .mv (.c (.s (.d (.bool false))))⟩]
def c236 : C := .seq (.reg c236r0 none [0, 1]) (.seq (.seq (.reg c236r1 none [0, 1, 7]) (.seq (.reg c236r2 none [0, 1, 7, 12]) (.cond (.t 12) (.seq (.reg c236r3 (some [0, 0, 3, 0, 0, 0, 32, 112, 248, 7, 1023, 2047]) [4, 5, 6]) (.ret)) (.skip)))) (.seq (.reg c236r4 none [4, 5, 6]) (.ret)))
def k236 : List (Nat × List Nat) := [(4, [4, 5, 6]), (3, [4, 5, 6]), (2, [0, 1, 7, 12]), (1, [0, 1, 7]), (0, [0, 1])]
theorem cc236 : (Tryz.f236.body).bind (cC Tryz.prog 23 k236) = some c236 := by kernel_rfl
def rv236 : List RV := [.t 4, .t 5, .t 6]
theorem cr236 : cRVs Tryz.prog Tryz.f236.results.toList = some rv236 := by kernel_rfl
theorem f_internal_stringslite_Cut_ok (s : Str) (sep : Str) (y_ : Str × Str × Bool) (h : f_internal_stringslite_Cut s sep = some y_) : Fun Tryz.prog glP 236 [.b (.s (.d (.str s))), .b (.s (.d (.str sep)))] (.tup [.s (.d (.str y_.1)), .s (.d (.str y_.2.1)), .s (.d (.bool y_.2.2))]) := by
  refine fun_walk [] Tryz.func236 Tryz.ntmps236 cc236 cr236 (by kernel_rfl) (by simp only [List.length_cons, List.length_nil]; decide) ?_
  generalize hR : Ret _ _ _ _ _ = R_
  simp only [wz, wd, ws, seval]
  unfold f_internal_stringslite_Cut at h; unfold c236
  refine .seq ?_
  refine Rw.walk ?_
  simp only [wz, wd, ws, seval, c236r0, semI.eq_10, semI.eq_11, semI.eq_3, semI.eq_5, semI.eq_7]
  refine .seq ?_
  refine .seq ?_
  refine Rw.walk ?_
  simp only [wz, wd, ws, seval, c236r1, semI.eq_10, semI.eq_11, semI.eq_3, semI.eq_5, semI.eq_7]
  obtain ⟨t, e1, h⟩ := Option.bind_eq_some_iff.1 h
  refine call_fun [] false ⟨trivial, trivial, trivial, trivial⟩ rfl ?_ (f_internal_stringslite_Index_ok _ _ _ e1) (fun _ => rfl) (fun i hi => by cases hi) ?_
  · simp only [wz, wd, ws, seval]
  simp only [wz, wd, ws, seval, c236r1, semI.eq_10, semI.eq_11, semI.eq_3, semI.eq_5, semI.eq_7]
  refine .seq ?_
  refine Rw.walk ?_
  simp only [wz, wd, ws, seval, c236r2, semI.eq_10, semI.eq_11, semI.eq_3, semI.eq_5, semI.eq_7]
  refine .cond (p := (decide (t ≥ 0))) (by first | rfl | simp only [wz, wd, ws, seval]) (fun h1 => ?_) (fun h1 => ?_)
  · rw [ite_t h1] at h
    refine .seq ?_
    refine RwD.walk ?_
    obtain ⟨g2, h⟩ := gd_iff.1 h
    obtain ⟨g3, h⟩ := gd_iff.1 h
    simp only [wz, wd, ws, seval, c236r3, semI.eq_10, semI.eq_11, semI.eq_3, semI.eq_5, semI.eq_7]
    repeat (refine And.intro ?_ ?_; · first | omega | (simp only [List.length_append, List.length_cons, List.length_nil] at *; omega) | (simp only [List.map_cons, List.map_nil] at *; omega) | (intro q; simp only [wz, wd, ws, seval, q]; done))
    obtain rfl := Option.some.inj h
    refine .ret ?_
    rw [← hR]
    simp only [wz, wd, ws, seval, rv236]
  · rw [ite_f h1] at h
    refine .skip ?_
    refine .seq ?_
    refine Rw.walk ?_
    simp only [wz, wd, ws, seval, c236r4, semI.eq_10, semI.eq_11, semI.eq_3, semI.eq_5, semI.eq_7]
    obtain rfl := Option.some.inj h
    refine .ret ?_
    rw [← hR]
    simp only [wz, wd, ws, seval, rv236]
-- 214 strings.Cut
def c214r0 : List Opn := [
  ⟨(some 4), none, .mv (.c (.s (.d (.str []))))⟩, 
  ⟨(some 5), none, .mv (.c (.s (.d (.str []))))⟩, 
  ⟨(some 6), none, .mv (.c (.s (.d (.bool false))))⟩]
def c214r1 : List Opn := [
  ⟨(some 7), none, .mv (.t 0)⟩, 
  ⟨(some 8), none, .mv (.t 1)⟩, 
  ⟨(some 9), none, .call (.fn 236) [(.t 7), (.t 8)]⟩, 
  ⟨(some 10), none, .ext (.t 9) 0⟩, 
  ⟨(some 11), none, .ext (.t 9) 1⟩, 
  ⟨(some 12), none, .ext (.t 9) 2⟩, 
  ⟨(some 4), none, .mv (.t 10)⟩, 
  ⟨(some 5), none, .mv (.t 11)⟩, 
  ⟨(some 6), none, .mv (.t 12)⟩]
def c214 : C := .seq (.reg c214r0 none [0, 1]) (.seq (.reg c214r1 none [4, 5, 6]) (.ret))
def k214 : List (Nat × List Nat) := [(1, [4, 5, 6]), (0, [0, 1])]
theorem cc214 : (Tryz.f214.body).bind (cC Tryz.prog 13 k214) = some c214 := by kernel_rfl
def rv214 : List RV := [.t 4, .t 5, .t 6]
theorem cr214 : cRVs Tryz.prog Tryz.f214.results.toList = some rv214 := by kernel_rfl
theorem f_strings_Cut_ok (s : Str) (sep : Str) (y_ : Str × Str × Bool) (h : f_strings_Cut s sep = some y_) : Fun Tryz.prog glP 214 [.b (.s (.d (.str s))), .b (.s (.d (.str sep)))] (.tup [.s (.d (.str y_.1)), .s (.d (.str y_.2.1)), .s (.d (.bool y_.2.2))]) := by
  refine fun_walk [] Tryz.func214 Tryz.ntmps214 cc214 cr214 (by kernel_rfl) (by simp only [List.length_cons, List.length_nil]; decide) ?_
  generalize hR : Ret _ _ _ _ _ = R_
  simp only [wz, wd, ws, seval]
  unfold f_strings_Cut at h; unfold c214
  refine .seq ?_
  refine Rw.walk ?_
  simp only [wz, wd, ws, seval, c214r0, semI.eq_10, semI.eq_11, semI.eq_3, semI.eq_5, semI.eq_7]
  refine .seq ?_
  refine Rw.walk ?_
  simp only [wz, wd, ws, seval, c214r1, semI.eq_10, semI.eq_11, semI.eq_3, semI.eq_5, semI.eq_7]
  obtain ⟨t, e1, h⟩ := Option.bind_eq_some_iff.1 h
  refine call_fun [] false ⟨trivial, trivial, trivial, trivial⟩ rfl ?_ (f_internal_stringslite_Cut_ok _ _ _ e1) (fun _ => rfl) (fun i hi => by cases hi) ?_
  · simp only [wz, wd, ws, seval]
  simp only [wz, wd, ws, seval, c214r1, semI.eq_10, semI.eq_11, semI.eq_3, semI.eq_5, semI.eq_7]
  obtain rfl := Option.some.inj h
  refine .ret ?_
  rw [← hR]
  simp only [wz, wd, ws, seval, rv214]
-- 216 consignor/cron.number
def c216r0 : List Opn := [
  ⟨(some 3), none, .box 2 (.t 1)⟩, 
  ⟨(some 4), none, .mv (.c (.s (.d (.int .i64 0))))⟩, 
  ⟨(some 5), none, .mv (.c (.s (.d (.z .nilIface))))⟩]
def c216r1 : List Opn := [
  ⟨(some 8), none, .mv (.t 0)⟩, 
  ⟨(some 9), none, .len .str (.t 8)⟩, 
  ⟨(some 10), none, .bin .lss (.t 9) (.c (.s (.d (.int .i64 1))))⟩, 
  ⟨(some 11), none, .mv (.t 10)⟩, 
  ⟨(some 12), some (11, false), .mv (.t 0)⟩, 
  ⟨(some 13), some (11, false), .len .str (.t 12)⟩, 
  ⟨(some 14), some (11, false), .bin .gtr (.t 13) (.c (.s (.d (.int .i64 2))))⟩, 
  ⟨(some 15), none, .pick (.t 11) (.c (.s (.d (.bool true)))) (.t 14)⟩, 
  ⟨(some 16), none, .mv (.t 15)⟩, 
  ⟨(some 17), some (16, false), .mv (.t 0)⟩, 
  ⟨(some 18), some (16, false), .call (.fn 237) [(.t 17), (.c (.s (.d (.str [48, 49, 50, 51, 52, 53, 54, 55, 56, 57]))))]⟩, 
  ⟨(some 19), some (16, false), .bin .neq (.t 18) (.c (.s (.d (.str []))))⟩, 
  ⟨(some 20), none, .pick (.t 16) (.c (.s (.d (.bool true)))) (.t 19)⟩, 
  ⟨(some 21), none, .mv (.t 20)⟩, 
  ⟨(some 22), some (21, false), .mv (.t 0)⟩, 
  ⟨(some 23), some (21, false), .len .str (.t 22)⟩, 
  ⟨(some 24), some (21, false), .bin .eql (.t 23) (.c (.s (.d (.int .i64 2))))⟩, 
  ⟨(some 25), some (21, false), .mv (.t 24)⟩, 
  ⟨(some 26), some (25, true), .mv (.t 0)⟩, 
  ⟨(some 27), some (25, true), .idx .str (.t 26) (.c (.s (.d (.int .i64 0))))⟩, 
  ⟨(some 28), some (25, true), .bin .eql (.t 27) (.c (.s (.d (.int .u8 48))))⟩, 
  ⟨(some 29), some (21, false), .pick (.t 25) (.t 28) (.c (.s (.d (.bool false))))⟩, 
  ⟨(some 30), none, .pick (.t 21) (.c (.s (.d (.bool true)))) (.t 29)⟩]
def c216r2 : List Opn := [
  ⟨(some 31), none, .build [] []⟩, 
  ⟨(some 32), none, .mkif 205 (.t 31)⟩, 
  ⟨(some 4), none, .mv (.c (.s (.d (.int .i64 0))))⟩, 
  ⟨(some 5), none, .mv (.t 32)⟩]
def c216r3 : List Opn := [
  ⟨(some 6), none, .mv (.c (.s (.d (.int .i64 0))))⟩]
def c216r4 : List Opn := [
  ⟨(some 33), none, .mv (.t 0)⟩, 
  ⟨(some 34), none, .len .str (.t 33)⟩, 
  ⟨(some 35), none, .mv (.c (.s (.d (.int .i64 0))))⟩]
def c216r5 : List Opn := [
  ⟨(some 36), none, .bin .lss (.t 35) (.t 34)⟩]
def c216r6 : List Opn := [
  ⟨(some 37), none, .mv (.t 35)⟩, 
  ⟨(some 7), none, .mv (.t 37)⟩]
def c216r7 : List Opn := [
  ⟨(some 38), none, .mv (.t 6)⟩, 
  ⟨(some 39), none, .bin .mul (.c (.s (.d (.int .i64 10)))) (.t 38)⟩, 
  ⟨(some 40), none, .mv (.t 0)⟩, 
  ⟨(some 41), none, .mv (.t 7)⟩, 
  ⟨(some 42), none, .idx .str (.t 40) (.t 41)⟩, 
  ⟨(some 43), none, .bin .sub (.t 42) (.c (.s (.d (.int .u8 48))))⟩, 
  ⟨(some 44), none, .cv (.toInt .i64) (.t 43)⟩, 
  ⟨(some 45), none, .bin .add (.t 39) (.t 44)⟩, 
  ⟨(some 6), none, .mv (.t 45)⟩]
def c216r8 : List Opn := [
  ⟨(some 46), none, .bin .add (.t 35) (.c (.s (.d (.int .i64 1))))⟩, 
  ⟨(some 35), none, .mv (.t 46)⟩]
def c216l9 : C := .seq (.reg c216r5 none [0, 3, 6, 34, 35, 36]) (.seq (.cond (.t 36) (.skip) (.exit 0)) (.seq (.blk 1 (.seq (.reg c216r6 none [0, 3, 6, 7, 34, 35]) (.reg c216r7 none [0, 3, 6, 34, 35]))) (.reg c216r8 none [0, 3, 6, 34, 35])))
def c216r9 : List Opn := [
  ⟨(some 47), none, .mv (.t 6)⟩, 
  ⟨(some 48), none, .fadr 0 (.t 3)⟩, 
  ⟨(some 49), none, .load false 1 (.t 48)⟩, 
  ⟨(some 50), none, .bin .lss (.t 47) (.t 49)⟩, 
  ⟨(some 51), none, .mv (.t 50)⟩, 
  ⟨(some 52), some (51, false), .mv (.t 6)⟩, 
  ⟨(some 53), some (51, false), .fadr 1 (.t 3)⟩, 
  ⟨(some 54), some (51, false), .load false 1 (.t 53)⟩, 
  ⟨(some 55), some (51, false), .bin .gtr (.t 52) (.t 54)⟩, 
  ⟨(some 56), none, .pick (.t 51) (.c (.s (.d (.bool true)))) (.t 55)⟩]
def c216r10 : List Opn := [
  ⟨(some 57), none, .build [] []⟩, 
  ⟨(some 58), none, .mkif 205 (.t 57)⟩, 
  ⟨(some 4), none, .mv (.c (.s (.d (.int .i64 0))))⟩, 
  ⟨(some 5), none, .mv (.t 58)⟩]
def c216r11 : List Opn := [
  ⟨(some 59), none, .mv (.t 6)⟩, 
  ⟨(some 4), none, .mv (.t 59)⟩, 
  ⟨(some 5), none, .mv (.c (.s (.d (.z .nilIface))))⟩]
def c216 : C := .seq (.reg c216r0 none [0, 3]) (.seq (.seq (.reg c216r1 none [0, 3, 30]) (.cond (.t 30) (.seq (.reg c216r2 none [4, 5]) (.ret)) (.skip))) (.seq (.reg c216r3 none [0, 3, 6]) (.seq (.seq (.reg c216r4 none [0, 3, 6, 34, 35]) (.blk 0 (.loop c216l9))) (.seq (.seq (.reg c216r9 none [6, 56]) (.cond (.t 56) (.seq (.reg c216r10 none [4, 5]) (.ret)) (.skip))) (.seq (.reg c216r11 none [4, 5]) (.ret))))))
def k216 : List (Nat × List Nat) := [(11, [4, 5]), (10, [4, 5]), (9, [6, 56]), (8, [0, 3, 6, 34, 35]), (7, [0, 3, 6, 34, 35]), (6, [0, 3, 6, 7, 34, 35]), (5, [0, 3, 6, 34, 35, 36]), (4, [0, 3, 6, 34, 35]), (3, [0, 3, 6]), (2, [4, 5]), (1, [0, 3, 30]), (0, [0, 3])]
theorem cc216 : (Tryz.f216.body).bind (cC Tryz.prog 60 k216) = some c216 := by kernel_rfl
def rv216 : List RV := [.t 4, .t 5]
theorem cr216 : cRVs Tryz.prog Tryz.f216.results.toList = some rv216 := by kernel_rfl
theorem f_cron_number_l9_ok (s : Str) (b : cron_bounds) (y_ : Int × Sc) (R_ : St → Prop) (hR : (Ret Tryz.prog glP [] rv216 (.tup [.s (.d (.int .i64 y_.1)), .s (.d y_.2)])) = R_) : ∀ (m_ : Nat) (n : Int) (v35 : Int) (res_ : Int × Int) (h : f_cron_number_l9 s b m_ n v35 = some res_) (k_ : List It) (hx : ∀ s_ : Int × Int, res_ = s_ → W Tryz.prog glP 60 k_ ⟨lkT [(0, .b (.s (.d (.str s)))), (3, .b (.s (.ptr 3 1 0 0))), (6, .b (.s (.d (.int .i64 s_.1)))), (34, .b (.s (.d (.int .i64 (s.length : Int))))), (35, .b (.s (.d (.int .i64 s_.2))))], lkG [(3, ⟨2, [[(.d (.int .i64 b.low)), (.d (.int .i64 b.high))]], false⟩)]⟩ R_), W Tryz.prog glP 60 (.c c216l9 :: .lp c216l9 :: .blk 0 :: k_) ⟨lkT [(0, .b (.s (.d (.str s)))), (3, .b (.s (.ptr 3 1 0 0))), (6, .b (.s (.d (.int .i64 n)))), (34, .b (.s (.d (.int .i64 (s.length : Int))))), (35, .b (.s (.d (.int .i64 v35))))], lkG [(3, ⟨2, [[(.d (.int .i64 b.low)), (.d (.int .i64 b.high))]], false⟩)]⟩ R_ := by
  intro m_; induction m_ with
  | zero => intro n v35 res_ h; rw [f_cron_number_l9.eq_1] at h; cases h
  | succ m_ ih =>
    intro n v35 res_ h k_ hx; rw [f_cron_number_l9.eq_2] at h; refine W.cdef c216l9.eq_1 ?_
    refine .seq ?_
    refine Rw.walk ?_
    simp only [wz, wd, ws, seval, c216r5, semI.eq_10, semI.eq_11, semI.eq_3, semI.eq_5, semI.eq_7, e_cron_bounds, e_cron_part]
    refine .seq ?_
    refine .cond (p := (decide (v35 < (s.length : Int)))) (by first | rfl | simp only [wz, wd, ws, seval]) (fun h1 => ?_) (fun h1 => ?_)
    · rw [ite_t h1] at h
      refine .skip ?_
      refine .seq ?_
      refine .blk ?_
      refine .seq ?_
      refine Rw.walk ?_
      simp only [wz, wd, ws, seval, c216r6, semI.eq_10, semI.eq_11, semI.eq_3, semI.eq_5, semI.eq_7, e_cron_bounds, e_cron_part]
      refine Rw.walk ?_
      simp only [wz, wd, ws, seval, c216r7, semI.eq_10, semI.eq_11, semI.eq_3, semI.eq_5, semI.eq_7, e_cron_bounds, e_cron_part]
      obtain ⟨c, e3, h⟩ := Option.bind_eq_some_iff.1 h
      refine Go1.of (sem_idx e3 (by rfl) (by rfl)) ?_
      simp only [wz, wd, ws, seval, c216r7, semI.eq_10, semI.eq_11, semI.eq_3, semI.eq_5, semI.eq_7, e_cron_bounds, e_cron_part]
      obtain ⟨n2, e4, h⟩ := Option.bind_eq_some_iff.1 h
      replace e4 := Option.some.inj e4
      first | simp only [e4] | (simp only [wz, wd, ws, seval, e_cron_bounds, e_cron_part] at e4; simp only [e4])
      refine .eblk ?_
      refine Rw.walk ?_
      simp only [wz, wd, ws, seval, c216r8, semI.eq_10, semI.eq_11, semI.eq_3, semI.eq_5, semI.eq_7, e_cron_bounds, e_cron_part]
      refine .lp ?_
      refine .weak (Imp.co [] _ _ ?_ ?_ ?_ ?_ ?_) (ih n2 (IntKind.i64.wrap (v35 + 1)) _ h k_ hx) <;> simp only [wz, wd, ws, seval, wi, er_nil, e_cron_bounds, e_cron_part]
    · rw [ite_f h1] at h
      refine .exit rfl ?_
      obtain rfl := Option.some.inj h
      refine .weak (Imp.co [] _ _ ?_ ?_ ?_ ?_ ?_) (hx _ rfl) <;> simp only [wz, wd, ws, seval, wi, er_nil, e_cron_bounds, e_cron_part]
theorem f_cron_number_ok (s : Str) (b : cron_bounds) (y_ : Int × Sc) (h : f_cron_number s b = some y_) : Fun Tryz.prog glP 216 [.b (.s (.d (.str s))), .b (.agg ((e_cron_bounds b).map Lc.d))] (.tup [.s (.d (.int .i64 y_.1)), .s (.d y_.2)]) := by
  refine fun_walk [] Tryz.func216 Tryz.ntmps216 cc216 cr216 (by kernel_rfl) (by simp only [List.length_cons, List.length_nil]; decide) ?_
  generalize hR : Ret _ _ _ _ _ = R_
  simp only [wz, wd, ws, seval, e_cron_bounds, e_cron_part]
  unfold f_cron_number at h; unfold c216
  refine .seq ?_
  refine Rw.walk ?_
  simp only [wz, wd, ws, seval, c216r0, semI.eq_10, semI.eq_11, semI.eq_3, semI.eq_5, semI.eq_7, e_cron_bounds, e_cron_part]
  refine .seq ?_
  refine .seq ?_
  refine Rw.walk ?_
  simp only [wz, wd, ws, seval, c216r1, semI.eq_10, semI.eq_11, semI.eq_3, semI.eq_5, semI.eq_7, e_cron_bounds, e_cron_part]
  repeat (refine And.intro ?_ ?_; · first | omega | (simp only [List.length_append, List.length_cons, List.length_nil] at *; omega) | (simp only [List.map_cons, List.map_nil] at *; omega) | (intro q; simp only [wz, wd, ws, seval, q]; done))
  obtain ⟨t, e1, h⟩ := Option.bind_eq_some_iff.1 h
  refine call_funG [] rfl (by simp only [wz, wd, ws, seval]) rfl ?_ (fun q => (f_strings_Trim_ok _ _ _ (gx_iff e1 (by first | exact q | simpa using q)))) rfl (fun i hi => by cases hi) ?_
  · simp only [wz, wd, ws, seval, e_cron_bounds, e_cron_part]
  simp only [wz, wd, ws, seval, c216r1, semI.eq_10, semI.eq_11, semI.eq_3, semI.eq_5, semI.eq_7, e_cron_bounds, e_cron_part]
  repeat (refine And.intro ?_ ?_; · first | omega | (simp only [List.length_append, List.length_cons, List.length_nil] at *; omega) | (simp only [List.map_cons, List.map_nil] at *; omega) | (intro q; simp only [wz, wd, ws, seval, q]; done))
  obtain ⟨g2, h⟩ := gd_iff.1 h
  refine Go2.of (se_idxS) ?_
  simp only [wz, wd, ws, seval, c216r1, semI.eq_10, semI.eq_11, semI.eq_3, semI.eq_5, semI.eq_7, e_cron_bounds, e_cron_part]
  repeat (refine And.intro ?_ ?_; · first | omega | exact g2 | (intro q; first | omega | (have q2 := g2 (by simpa using q); omega) | (have q2 := g2 q; omega) | (have q2 := g2 (by rw [q]; rfl); omega) | (have q2 := g2 (by simpa using q); simp only [List.length_append, List.length_cons, List.length_nil] at q2 ⊢; omega)) | (simp only [List.length_append, List.length_cons, List.length_nil] at *; omega) | (simp only [List.map_cons, List.map_nil] at *; omega) | (intro q; simp only [wz, wd, ws, seval, q]; done))
  refine .cond (p := ((((decide ((s.length : Int) < 1)) || (decide ((s.length : Int) > 2))) || (!(t == ([] : Str)))) || (((s.length : Int) == 2) && ((bn (s.getD 0 0)) == 48)))) (by first | rfl | simp only [wz, wd, ws, seval]) (fun h1 => ?_) (fun h1 => ?_)
  · rw [ite_t h1] at h
    refine .seq ?_
    refine Rw.walk ?_
    simp only [wz, wd, ws, seval, c216r2, semI.eq_10, semI.eq_11, semI.eq_3, semI.eq_5, semI.eq_7, e_cron_bounds, e_cron_part]
    obtain rfl := Option.some.inj h
    refine .ret ?_
    rw [← hR]
    simp only [wz, wd, ws, seval, rv216, e_cron_bounds, e_cron_part]
  · rw [ite_f h1] at h
    refine .skip ?_
    refine .seq ?_
    refine Rw.walk ?_
    simp only [wz, wd, ws, seval, c216r3, semI.eq_10, semI.eq_11, semI.eq_3, semI.eq_5, semI.eq_7, e_cron_bounds, e_cron_part]
    refine .seq ?_
    refine .seq ?_
    refine Rw.walk ?_
    simp only [wz, wd, ws, seval, c216r4, semI.eq_10, semI.eq_11, semI.eq_3, semI.eq_5, semI.eq_7, e_cron_bounds, e_cron_part]
    refine .blk ?_
    obtain ⟨s2, hf, h⟩ := Option.bind_eq_some_iff.1 h
    refine .loop (.weak (Imp.co [] _ _ ?c1 ?c2 ?c3 ?c4 ?c5) (f_cron_number_l9_ok s b _ _ hR _ _ _ _ hf _ ?_))
    case c1 | c2 | c3 | c4 | c5 => simp only [wz, wd, ws, seval, wi, er_nil, e_cron_bounds, e_cron_part]
    · intro s2_ hs; subst hs
      refine .seq ?_
      refine .seq ?_
      refine Rw.walk ?_
      simp only [wz, wd, ws, seval, c216r9, semI.eq_10, semI.eq_11, semI.eq_3, semI.eq_5, semI.eq_7, e_cron_bounds, e_cron_part]
      refine call_alt (v := .b (.s (.d (.int .i64 b.high)))) rfl rfl (by simp only [wz, wd, ws, seval]) (fun q => ⟨_, by simp only [wz, wd, ws, seval, semI.eq_10, e_cron_bounds, e_cron_part], trivial⟩) ?_
      simp only [wz, wd, ws, seval, c216r9, semI.eq_10, semI.eq_11, semI.eq_3, semI.eq_5, semI.eq_7, e_cron_bounds, e_cron_part]
      repeat (refine And.intro ?_ ?_; · first | omega | (simp only [List.length_append, List.length_cons, List.length_nil] at *; omega) | (simp only [List.map_cons, List.map_nil] at *; omega) | (intro q; simp only [wz, wd, ws, seval, q]; done))
      refine .cond (p := ((decide (s2.1 < b.low)) || (decide (s2.1 > b.high)))) (by first | rfl | simp only [wz, wd, ws, seval]) (fun h1 => ?_) (fun h1 => ?_)
      · rw [ite_t h1] at h
        refine .seq ?_
        refine Rw.walk ?_
        simp only [wz, wd, ws, seval, c216r10, semI.eq_10, semI.eq_11, semI.eq_3, semI.eq_5, semI.eq_7, e_cron_bounds, e_cron_part]
        obtain rfl := Option.some.inj h
        refine .ret ?_
        rw [← hR]
        simp only [wz, wd, ws, seval, rv216, e_cron_bounds, e_cron_part]
      · rw [ite_f h1] at h
        refine .skip ?_
        refine .seq ?_
        refine Rw.walk ?_
        simp only [wz, wd, ws, seval, c216r11, semI.eq_10, semI.eq_11, semI.eq_3, semI.eq_5, semI.eq_7, e_cron_bounds, e_cron_part]
        obtain rfl := Option.some.inj h
        refine .ret ?_
        rw [← hR]
        simp only [wz, wd, ws, seval, rv216, e_cron_bounds, e_cron_part]
-- 215 consignor/cron.span
def c215r0 : List Opn := [
  ⟨(some 3), none, .box 2 (.t 1)⟩, 
  ⟨(some 4), none, .new [(.d (.int .i64 0)), (.d (.int .i64 0))]⟩, 
  ⟨(some 5), none, .mv (.c (.s (.d (.bool false))))⟩, 
  ⟨(some 6), none, .mv (.c (.s (.d (.z .nilIface))))⟩]
def c215r1 : List Opn := [
  ⟨(some 13), none, .mv (.t 0)⟩, 
  ⟨(some 14), none, .bin .eql (.t 13) (.c (.s (.d (.str [42]))))⟩]
def c215r2 : List Opn := [
  ⟨(some 15), none, .load true 2 (.t 3)⟩, 
  ⟨none, none, .store 2 (.t 4) (.t 15)⟩, 
  ⟨(some 5), none, .mv (.c (.s (.d (.bool true))))⟩, 
  ⟨(some 6), none, .mv (.c (.s (.d (.z .nilIface))))⟩]
def c215r3 : List Opn := [
  ⟨(some 17), none, .mv (.t 0)⟩, 
  ⟨(some 18), none, .call (.fn 214) [(.t 17), (.c (.s (.d (.str [45]))))]⟩, 
  ⟨(some 16), none, .mv (.t 18)⟩, 
  ⟨(some 19), none, .ext (.t 16) 0⟩, 
  ⟨(some 20), none, .ext (.t 16) 1⟩, 
  ⟨(some 21), none, .ext (.t 16) 2⟩, 
  ⟨(some 7), none, .mv (.t 19)⟩, 
  ⟨(some 8), none, .mv (.t 20)⟩, 
  ⟨(some 9), none, .mv (.t 21)⟩]
def c215r4 : List Opn := [
  ⟨(some 23), none, .mv (.t 7)⟩, 
  ⟨(some 24), none, .load true 2 (.t 3)⟩, 
  ⟨(some 25), none, .call (.fn 216) [(.t 23), (.t 24)]⟩, 
  ⟨(some 22), none, .mv (.t 25)⟩, 
  ⟨(some 26), none, .ext (.t 22) 0⟩, 
  ⟨(some 27), none, .ext (.t 22) 1⟩, 
  ⟨(some 10), none, .mv (.t 26)⟩, 
  ⟨(some 11), none, .mv (.t 27)⟩]
def c215r5 : List Opn := [
  ⟨(some 28), none, .mv (.t 9)⟩, 
  ⟨(some 29), none, .un .not (.t 28)⟩, 
  ⟨(some 30), none, .mv (.t 29)⟩, 
  ⟨(some 31), some (30, false), .mv (.t 11)⟩, 
  ⟨(some 32), some (30, false), .bic .neq (.t 31) (.c (.s (.d (.z .nilIface))))⟩, 
  ⟨(some 33), none, .pick (.t 30) (.c (.s (.d (.bool true)))) (.t 32)⟩]
def c215r6 : List Opn := [
  ⟨(some 34), none, .mv (.t 10)⟩, 
  ⟨(some 35), none, .mv (.t 10)⟩, 
  ⟨(some 36), none, .build [(.d (.int .i64 0)), (.d (.int .i64 0))] [(0, 1, (.t 34)), (1, 1, (.t 35))]⟩, 
  ⟨(some 37), none, .mv (.t 11)⟩, 
  ⟨none, none, .store 2 (.t 4) (.t 36)⟩, 
  ⟨(some 5), none, .mv (.c (.s (.d (.bool false))))⟩, 
  ⟨(some 6), none, .mv (.t 37)⟩]
def c215r7 : List Opn := [
  ⟨(some 39), none, .mv (.t 8)⟩, 
  ⟨(some 40), none, .load true 2 (.t 3)⟩, 
  ⟨(some 41), none, .call (.fn 216) [(.t 39), (.t 40)]⟩, 
  ⟨(some 38), none, .mv (.t 41)⟩, 
  ⟨(some 42), none, .ext (.t 38) 0⟩, 
  ⟨(some 43), none, .ext (.t 38) 1⟩, 
  ⟨(some 12), none, .mv (.t 42)⟩, 
  ⟨(some 11), none, .mv (.t 43)⟩]
def c215r8 : List Opn := [
  ⟨(some 44), none, .mv (.t 11)⟩, 
  ⟨(some 45), none, .bic .eql (.t 44) (.c (.s (.d (.z .nilIface))))⟩, 
  ⟨(some 46), none, .mv (.t 45)⟩, 
  ⟨(some 47), some (46, true), .mv (.t 10)⟩, 
  ⟨(some 48), some (46, true), .mv (.t 12)⟩, 
  ⟨(some 49), some (46, true), .bin .gtr (.t 47) (.t 48)⟩, 
  ⟨(some 50), none, .pick (.t 46) (.t 49) (.c (.s (.d (.bool false))))⟩]
def c215r9 : List Opn := [
  ⟨(some 51), none, .build [] []⟩, 
  ⟨(some 52), none, .mkif 205 (.t 51)⟩, 
  ⟨(some 11), none, .mv (.t 52)⟩]
def c215r10 : List Opn := [
  ⟨(some 53), none, .mv (.t 10)⟩, 
  ⟨(some 54), none, .mv (.t 12)⟩, 
  ⟨(some 55), none, .build [(.d (.int .i64 0)), (.d (.int .i64 0))] [(0, 1, (.t 53)), (1, 1, (.t 54))]⟩, 
  ⟨(some 56), none, .mv (.t 11)⟩, 
  ⟨none, none, .store 2 (.t 4) (.t 55)⟩, 
  ⟨(some 5), none, .mv (.c (.s (.d (.bool true))))⟩, 
  ⟨(some 6), none, .mv (.t 56)⟩]
def c215 : C := .seq (.reg c215r0 none [0, 3, 4]) (.seq (.seq (.reg c215r1 none [0, 3, 4, 14]) (.cond (.t 14) (.seq (.reg c215r2 none [4, 5, 6]) (.ret)) (.skip))) (.seq (.reg c215r3 none [3, 4, 7, 8, 9]) (.seq (.reg c215r4 none [3, 4, 8, 9, 10, 11]) (.seq (.seq (.reg c215r5 none [3, 4, 8, 10, 11, 33]) (.cond (.t 33) (.seq (.reg c215r6 none [4, 5, 6]) (.ret)) (.skip))) (.seq (.reg c215r7 none [4, 10, 11, 12]) (.seq (.seq (.reg c215r8 none [4, 10, 11, 12, 50]) (.cond (.t 50) (.reg c215r9 none [4, 10, 11, 12]) (.skip))) (.seq (.reg c215r10 none [4, 5, 6]) (.ret))))))))
def k215 : List (Nat × List Nat) := [(10, [4, 5, 6]), (9, [4, 10, 11, 12]), (8, [4, 10, 11, 12, 50]), (7, [4, 10, 11, 12]), (6, [4, 5, 6]), (5, [3, 4, 8, 10, 11, 33]), (4, [3, 4, 8, 9, 10, 11]), (3, [3, 4, 7, 8, 9]), (2, [4, 5, 6]), (1, [0, 3, 4, 14]), (0, [0, 3, 4])]
theorem cc215 : (Tryz.f215.body).bind (cC Tryz.prog 57 k215) = some c215 := by kernel_rfl
def rv215 : List RV := [.c 4 true 2, .t 5, .t 6]
theorem cr215 : cRVs Tryz.prog Tryz.f215.results.toList = some rv215 := by kernel_rfl
theorem f_cron_span_ok (s : Str) (b : cron_bounds) (y_ : cron_bounds × Bool × Sc) (h : f_cron_span s b = some y_) : Fun Tryz.prog glP 215 [.b (.s (.d (.str s))), .b (.agg ((e_cron_bounds b).map Lc.d))] (.tup [.agg ((e_cron_bounds y_.1).map Lc.d), .s (.d (.bool y_.2.1)), .s (.d y_.2.2)]) := by
  refine fun_walk [] Tryz.func215 Tryz.ntmps215 cc215 cr215 (by kernel_rfl) (by simp only [List.length_cons, List.length_nil]; decide) ?_
  generalize hR : Ret _ _ _ _ _ = R_
  simp only [wz, wd, ws, seval, e_cron_bounds, e_cron_part]
  unfold f_cron_span at h; unfold c215
  refine .seq ?_
  refine Rw.walk ?_
  simp only [wz, wd, ws, seval, c215r0, semI.eq_10, semI.eq_11, semI.eq_3, semI.eq_5, semI.eq_7, e_cron_bounds, e_cron_part]
  refine .seq ?_
  refine .seq ?_
  refine Rw.walk ?_
  simp only [wz, wd, ws, seval, c215r1, semI.eq_10, semI.eq_11, semI.eq_3, semI.eq_5, semI.eq_7, e_cron_bounds, e_cron_part]
  refine .cond (p := (s == ([42] : Str))) (by first | rfl | simp only [wz, wd, ws, seval]) (fun h1 => ?_) (fun h1 => ?_)
  · rw [ite_t h1] at h
    refine .seq ?_
    refine Rw.walk ?_
    simp only [wz, wd, ws, seval, c215r2, semI.eq_10, semI.eq_11, semI.eq_3, semI.eq_5, semI.eq_7, e_cron_bounds, e_cron_part]
    obtain rfl := Option.some.inj h
    refine .ret ?_
    rw [← hR]
    simp only [wz, wd, ws, seval, rv215, semI.eq_10, e_cron_bounds, e_cron_part]
  · rw [ite_f h1] at h
    refine .skip ?_
    refine .seq ?_
    refine Rw.walk ?_
    simp only [wz, wd, ws, seval, c215r3, semI.eq_10, semI.eq_11, semI.eq_3, semI.eq_5, semI.eq_7, e_cron_bounds, e_cron_part]
    obtain ⟨t, e1, h⟩ := Option.bind_eq_some_iff.1 h
    refine call_fun [] false ⟨trivial, trivial, trivial, trivial⟩ rfl ?_ (f_strings_Cut_ok _ _ _ e1) (fun _ => rfl) (fun i hi => by cases hi) ?_
    · simp only [wz, wd, ws, seval, e_cron_bounds, e_cron_part]
    simp only [wz, wd, ws, seval, c215r3, semI.eq_10, semI.eq_11, semI.eq_3, semI.eq_5, semI.eq_7, e_cron_bounds, e_cron_part]
    refine .seq ?_
    refine Rw.walk ?_
    simp only [wz, wd, ws, seval, c215r4, semI.eq_10, semI.eq_11, semI.eq_3, semI.eq_5, semI.eq_7, e_cron_bounds, e_cron_part]
    obtain ⟨t2, e2, h⟩ := Option.bind_eq_some_iff.1 h
    refine call_fun [] true ⟨trivial, trivial, trivial, trivial⟩ rfl ?_ (f_cron_number_ok _ _ _ e2) (fun h => by cases h) (fun i hi => by cases hi) ?_
    · simp only [wz, wd, ws, seval, e_cron_bounds, e_cron_part]
    simp only [wz, wd, ws, seval, c215r4, semI.eq_10, semI.eq_11, semI.eq_3, semI.eq_5, semI.eq_7, e_cron_bounds, e_cron_part]
    refine .seq ?_
    refine .seq ?_
    refine Rw.walk ?_
    obtain ⟨g3, h⟩ := gd_iff.1 h
    simp only [wz, wd, ws, seval, c215r5, semI.eq_10, semI.eq_11, semI.eq_3, semI.eq_5, semI.eq_7, e_cron_bounds, e_cron_part]
    repeat (refine And.intro ?_ ?_; · first | omega | exact g3 | exact g3 | (intro q; first | omega | (have q2 := g3 (by simpa using q); omega) | (have q2 := g3 q; omega) | (have q2 := g3 (by rw [q]; rfl); omega) | (have q2 := g3 (by simpa using q); simp only [List.length_append, List.length_cons, List.length_nil] at q2 ⊢; omega)) | (simp only [List.length_append, List.length_cons, List.length_nil] at *; omega) | (simp only [List.map_cons, List.map_nil] at *; omega) | (intro q; simp only [wz, wd, ws, seval, q]; done))
    refine .cond (p := ((!t.2.2) || (!(nilI t2.2)))) (by first | rfl | simp only [wz, wd, ws, seval]) (fun h1 => ?_) (fun h1 => ?_)
    · rw [ite_t h1] at h
      refine .seq ?_
      refine Rw.walk ?_
      simp only [wz, wd, ws, seval, c215r6, semI.eq_10, semI.eq_11, semI.eq_3, semI.eq_5, semI.eq_7, e_cron_bounds, e_cron_part]
      obtain rfl := Option.some.inj h
      refine .ret ?_
      rw [← hR]
      simp only [wz, wd, ws, seval, rv215, semI.eq_10, e_cron_bounds, e_cron_part]
    · rw [ite_f h1] at h
      refine .skip ?_
      refine .seq ?_
      refine Rw.walk ?_
      simp only [wz, wd, ws, seval, c215r7, semI.eq_10, semI.eq_11, semI.eq_3, semI.eq_5, semI.eq_7, e_cron_bounds, e_cron_part]
      obtain ⟨t3, e4, h⟩ := Option.bind_eq_some_iff.1 h
      refine call_fun [] true ⟨trivial, trivial, trivial, trivial⟩ rfl ?_ (f_cron_number_ok _ _ _ e4) (fun h => by cases h) (fun i hi => by cases hi) ?_
      · simp only [wz, wd, ws, seval, e_cron_bounds, e_cron_part]
      simp only [wz, wd, ws, seval, c215r7, semI.eq_10, semI.eq_11, semI.eq_3, semI.eq_5, semI.eq_7, e_cron_bounds, e_cron_part]
      refine .seq ?_
      refine .seq ?_
      refine Rw.walk ?_
      obtain ⟨g5, h⟩ := gd_iff.1 h
      simp only [wz, wd, ws, seval, c215r8, semI.eq_10, semI.eq_11, semI.eq_3, semI.eq_5, semI.eq_7, e_cron_bounds, e_cron_part]
      repeat (refine And.intro ?_ ?_; · first | omega | exact g5 | (simp only [List.length_append, List.length_cons, List.length_nil] at *; omega) | (simp only [List.map_cons, List.map_nil] at *; omega) | (intro q; simp only [wz, wd, ws, seval, q]; done))
      refine .cond (p := ((nilI t3.2) && (decide (t2.1 > t3.1)))) (by first | rfl | simp only [wz, wd, ws, seval]) (fun h1 => ?_) (fun h1 => ?_)
      · rw [ite_t h1] at h
        refine Rw.walk ?_
        simp only [wz, wd, ws, seval, c215r9, semI.eq_10, semI.eq_11, semI.eq_3, semI.eq_5, semI.eq_7, e_cron_bounds, e_cron_part]
        refine .seq ?_
        refine Rw.walk ?_
        simp only [wz, wd, ws, seval, c215r10, semI.eq_10, semI.eq_11, semI.eq_3, semI.eq_5, semI.eq_7, e_cron_bounds, e_cron_part]
        obtain rfl := Option.some.inj h
        refine .ret ?_
        rw [← hR]
        simp only [wz, wd, ws, seval, rv215, semI.eq_10, e_cron_bounds, e_cron_part]
      · rw [ite_f h1] at h
        refine .skip ?_
        refine .seq ?_
        refine Rw.walk ?_
        simp only [wz, wd, ws, seval, c215r10, semI.eq_10, semI.eq_11, semI.eq_3, semI.eq_5, semI.eq_7, e_cron_bounds, e_cron_part]
        obtain rfl := Option.some.inj h
        refine .ret ?_
        rw [← hR]
        simp only [wz, wd, ws, seval, rv215, semI.eq_10, e_cron_bounds, e_cron_part]
-- 182 consignor/cron.values
def c182r0 : List Opn := [
  ⟨(some 3), none, .box 2 (.t 1)⟩, 
  ⟨(some 4), none, .mv (.c (.s (.d (.int .u64 0))))⟩, 
  ⟨(some 5), none, .mv (.c (.s (.d (.z .nilIface))))⟩]
def c182r1 : List Opn := [
  ⟨(some 16), none, .mv (.t 0)⟩, 
  ⟨(some 17), none, .call (.fn 214) [(.t 16), (.c (.s (.d (.str [47]))))]⟩, 
  ⟨(some 15), none, .mv (.t 17)⟩, 
  ⟨(some 18), none, .ext (.t 15) 0⟩, 
  ⟨(some 19), none, .ext (.t 15) 1⟩, 
  ⟨(some 20), none, .ext (.t 15) 2⟩, 
  ⟨(some 6), none, .mv (.t 18)⟩, 
  ⟨(some 7), none, .mv (.t 19)⟩, 
  ⟨(some 8), none, .mv (.t 20)⟩]
def c182r2 : List Opn := [
  ⟨(some 22), none, .mv (.t 6)⟩, 
  ⟨(some 23), none, .load true 2 (.t 3)⟩, 
  ⟨(some 24), none, .call (.fn 215) [(.t 22), (.t 23)]⟩, 
  ⟨(some 21), none, .mv (.t 24)⟩, 
  ⟨(some 25), none, .ext (.t 21) 0⟩, 
  ⟨(some 26), none, .ext (.t 21) 1⟩, 
  ⟨(some 27), none, .ext (.t 21) 2⟩, 
  ⟨(some 9), none, .new [(.d (.int .i64 0)), (.d (.int .i64 0))]⟩, 
  ⟨none, none, .store 2 (.t 9) (.t 25)⟩, 
  ⟨(some 10), none, .mv (.t 26)⟩, 
  ⟨(some 11), none, .mv (.t 27)⟩]
def c182r3 : List Opn := [
  ⟨(some 12), none, .mv (.c (.s (.d (.int .i64 1))))⟩]
def c182r4 : List Opn := [
  ⟨(some 28), none, .mv (.t 11)⟩, 
  ⟨(some 29), none, .bic .eql (.t 28) (.c (.s (.d (.z .nilIface))))⟩, 
  ⟨(some 30), none, .mv (.t 29)⟩, 
  ⟨(some 31), some (30, true), .mv (.t 8)⟩, 
  ⟨(some 32), none, .pick (.t 30) (.t 31) (.c (.s (.d (.bool false))))⟩]
def c182r5 : List Opn := [
  ⟨(some 34), none, .mv (.t 7)⟩, 
  ⟨(some 35), none, .build [(.d (.int .i64 0)), (.d (.int .i64 0))] [(0, 1, (.c (.s (.d (.int .i64 1))))), (1, 1, (.c (.s (.d (.int .i64 59)))))]⟩, 
  ⟨(some 36), none, .call (.fn 216) [(.t 34), (.t 35)]⟩, 
  ⟨(some 33), none, .mv (.t 36)⟩, 
  ⟨(some 37), none, .ext (.t 33) 0⟩, 
  ⟨(some 38), none, .ext (.t 33) 1⟩, 
  ⟨(some 12), none, .mv (.t 37)⟩, 
  ⟨(some 11), none, .mv (.t 38)⟩]
def c182r6 : List Opn := [
  ⟨(some 39), none, .mv (.t 10)⟩, 
  ⟨(some 40), none, .un .not (.t 39)⟩]
def c182r7 : List Opn := [
  ⟨(some 41), none, .build [] []⟩, 
  ⟨(some 42), none, .mkif 205 (.t 41)⟩, 
  ⟨(some 11), none, .mv (.t 42)⟩]
def c182r8 : List Opn := [
  ⟨(some 43), none, .mv (.t 11)⟩, 
  ⟨(some 44), none, .bic .neq (.t 43) (.c (.s (.d (.z .nilIface))))⟩]
def c182r9 : List Opn := [
  ⟨(some 45), none, .mv (.t 11)⟩, 
  ⟨(some 4), none, .mv (.c (.s (.d (.int .u64 0))))⟩, 
  ⟨(some 5), none, .mv (.t 45)⟩]
def c182r10 : List Opn := [
  ⟨(some 13), none, .mv (.c (.s (.d (.int .u64 0))))⟩]
def c182r11 : List Opn := [
  ⟨(some 46), none, .fadr 0 (.t 9)⟩, 
  ⟨(some 47), none, .load false 1 (.t 46)⟩, 
  ⟨(some 14), none, .mv (.t 47)⟩]
def c182r12 : List Opn := [
  ⟨(some 48), none, .mv (.t 14)⟩, 
  ⟨(some 49), none, .fadr 1 (.t 9)⟩, 
  ⟨(some 50), none, .load false 1 (.t 49)⟩, 
  ⟨(some 51), none, .bin .leq (.t 48) (.t 50)⟩]
def c182r14 : List Opn := [
  ⟨(some 55), none, .mv (.t 13)⟩, 
  ⟨(some 56), none, .mv (.t 14)⟩, 
  ⟨(some 57), none, .bin .shl (.c (.s (.d (.int .u64 1)))) (.t 56)⟩, 
  ⟨(some 58), none, .bin .or (.t 55) (.t 57)⟩, 
  ⟨(some 13), none, .mv (.t 58)⟩]
def c182r13 : List Opn := [
  ⟨(some 52), none, .mv (.t 14)⟩, 
  ⟨(some 53), none, .mv (.t 12)⟩, 
  ⟨(some 54), none, .bin .add (.t 52) (.t 53)⟩, 
  ⟨(some 14), none, .mv (.t 54)⟩]
def c182l15 : C := .seq (.seq (.reg c182r12 none [9, 12, 13, 14, 51]) (.cond (.t 51) (.skip) (.exit 0))) (.seq (.blk 1 (.reg c182r14 none [9, 12, 13, 14])) (.reg c182r13 none [9, 12, 13, 14]))
def c182r15 : List Opn := [
  ⟨(some 59), none, .mv (.t 13)⟩, 
  ⟨(some 4), none, .mv (.t 59)⟩, 
  ⟨(some 5), none, .mv (.c (.s (.d (.z .nilIface))))⟩]
def c182 : C := .seq (.reg c182r0 none [0, 3]) (.seq (.reg c182r1 none [3, 6, 7, 8]) (.seq (.reg c182r2 none [7, 8, 9, 10, 11]) (.seq (.reg c182r3 none [7, 8, 9, 10, 11, 12]) (.seq (.seq (.reg c182r4 none [7, 9, 10, 11, 12, 32]) (.cond (.t 32) (.seq (.reg c182r5 none [9, 10, 11, 12]) (.seq (.reg c182r6 none [9, 11, 12, 40]) (.cond (.t 40) (.reg c182r7 none [9, 11, 12]) (.skip)))) (.skip))) (.seq (.seq (.reg c182r8 none [9, 11, 12, 44]) (.cond (.t 44) (.seq (.reg c182r9 none [4, 5]) (.ret)) (.skip))) (.seq (.reg c182r10 none [9, 12, 13]) (.seq (.seq (.reg c182r11 none [9, 12, 13, 14]) (.blk 0 (.loop c182l15))) (.seq (.reg c182r15 none [4, 5]) (.ret)))))))))
def k182 : List (Nat × List Nat) := [(15, [4, 5]), (13, [9, 12, 13, 14]), (14, [9, 12, 13, 14]), (12, [9, 12, 13, 14, 51]), (11, [9, 12, 13, 14]), (10, [9, 12, 13]), (9, [4, 5]), (8, [9, 11, 12, 44]), (7, [9, 11, 12]), (6, [9, 11, 12, 40]), (5, [9, 10, 11, 12]), (4, [7, 9, 10, 11, 12, 32]), (3, [7, 8, 9, 10, 11, 12]), (2, [7, 8, 9, 10, 11]), (1, [3, 6, 7, 8]), (0, [0, 3])]
theorem cc182 : (Tryz.f182.body).bind (cC Tryz.prog 60 k182) = some c182 := by kernel_rfl
def rv182 : List RV := [.t 4, .t 5]
theorem cr182 : cRVs Tryz.prog Tryz.f182.results.toList = some rv182 := by kernel_rfl
theorem f_cron_values_l15_ok (s : Str) (b : cron_bounds) (t2 : cron_bounds × Bool × Sc) (s2 : Sc × Int) (y_ : Int × Sc) (R_ : St → Prop) (hR : (Ret Tryz.prog glP [] rv182 (.tup [.s (.d (.int .u64 y_.1)), .s (.d y_.2)])) = R_) : ∀ (m_ : Nat) (n : Int) (v : Int) (res_ : Int × Int) (h : f_cron_values_l15 s b t2 s2 m_ n v = some res_) (k_ : List It) (hx : ∀ s_ : Int × Int, res_ = s_ → W Tryz.prog glP 60 k_ ⟨lkT [(9, .b (.s (.ptr 9 1 0 0))), (12, .b (.s (.d (.int .i64 s2.2)))), (13, .b (.s (.d (.int .u64 s_.1)))), (14, .b (.s (.d (.int .i64 s_.2))))], lkG [(9, ⟨2, [[(.d (.int .i64 t2.1.low)), (.d (.int .i64 t2.1.high))]], false⟩)]⟩ R_), W Tryz.prog glP 60 (.c c182l15 :: .lp c182l15 :: .blk 0 :: k_) ⟨lkT [(9, .b (.s (.ptr 9 1 0 0))), (12, .b (.s (.d (.int .i64 s2.2)))), (13, .b (.s (.d (.int .u64 n)))), (14, .b (.s (.d (.int .i64 v))))], lkG [(9, ⟨2, [[(.d (.int .i64 t2.1.low)), (.d (.int .i64 t2.1.high))]], false⟩)]⟩ R_ := by
  intro m_; induction m_ with
  | zero => intro n v res_ h; rw [f_cron_values_l15.eq_1] at h; cases h
  | succ m_ ih =>
    intro n v res_ h k_ hx; rw [f_cron_values_l15.eq_2] at h; refine W.cdef c182l15.eq_1 ?_
    refine .seq ?_
    refine .seq ?_
    refine Rw.walk ?_
    simp only [wz, wd, ws, seval, c182r12, semI.eq_10, semI.eq_11, semI.eq_3, semI.eq_5, semI.eq_7, e_cron_bounds, e_cron_part]
    refine .cond (p := (decide (v ≤ t2.1.high))) (by first | rfl | simp only [wz, wd, ws, seval]) (fun h1 => ?_) (fun h1 => ?_)
    · rw [ite_t h1] at h
      refine .skip ?_
      refine .seq ?_
      refine .blk ?_
      refine Rw.walk ?_
      obtain ⟨g4, h⟩ := gd_iff.1 h
      simp only [wz, wd, ws, seval, c182r14, semI.eq_10, semI.eq_11, semI.eq_3, semI.eq_5, semI.eq_7, e_cron_bounds, e_cron_part]
      repeat (refine And.intro ?_ ?_; · first | omega | (simp only [List.length_append, List.length_cons, List.length_nil] at *; omega) | (simp only [List.map_cons, List.map_nil] at *; omega) | (intro q; simp only [wz, wd, ws, seval, q]; done))
      obtain ⟨n2, e5, h⟩ := Option.bind_eq_some_iff.1 h
      replace e5 := Option.some.inj e5
      first | simp only [e5] | (simp only [wz, wd, ws, seval, e_cron_bounds, e_cron_part] at e5; simp only [e5])
      refine .eblk ?_
      refine Rw.walk ?_
      simp only [wz, wd, ws, seval, c182r13, semI.eq_10, semI.eq_11, semI.eq_3, semI.eq_5, semI.eq_7, e_cron_bounds, e_cron_part]
      refine .lp ?_
      refine .weak (Imp.co [] _ _ ?_ ?_ ?_ ?_ ?_) (ih n2 (IntKind.i64.wrap (v + s2.2)) _ h k_ hx) <;> simp only [wz, wd, ws, seval, wi, er_nil, e_cron_bounds, e_cron_part]
    · rw [ite_f h1] at h
      refine .exit rfl ?_
      obtain rfl := Option.some.inj h
      refine .weak (Imp.co [] _ _ ?_ ?_ ?_ ?_ ?_) (hx _ rfl) <;> simp only [wz, wd, ws, seval, wi, er_nil, e_cron_bounds, e_cron_part]
theorem f_cron_values_ok (s : Str) (b : cron_bounds) (y_ : Int × Sc) (h : f_cron_values s b = some y_) : Fun Tryz.prog glP 182 [.b (.s (.d (.str s))), .b (.agg ((e_cron_bounds b).map Lc.d))] (.tup [.s (.d (.int .u64 y_.1)), .s (.d y_.2)]) := by
  refine fun_walk [] Tryz.func182 Tryz.ntmps182 cc182 cr182 (by kernel_rfl) (by simp only [List.length_cons, List.length_nil]; decide) ?_
  generalize hR : Ret _ _ _ _ _ = R_
  simp only [wz, wd, ws, seval, e_cron_bounds, e_cron_part]
  unfold f_cron_values at h; unfold c182
  refine .seq ?_
  refine Rw.walk ?_
  simp only [wz, wd, ws, seval, c182r0, semI.eq_10, semI.eq_11, semI.eq_3, semI.eq_5, semI.eq_7, e_cron_bounds, e_cron_part]
  refine .seq ?_
  refine Rw.walk ?_
  simp only [wz, wd, ws, seval, c182r1, semI.eq_10, semI.eq_11, semI.eq_3, semI.eq_5, semI.eq_7, e_cron_bounds, e_cron_part]
  obtain ⟨t, e1, h⟩ := Option.bind_eq_some_iff.1 h
  refine call_fun [] false ⟨trivial, trivial, trivial, trivial⟩ rfl ?_ (f_strings_Cut_ok _ _ _ e1) (fun _ => rfl) (fun i hi => by cases hi) ?_
  · simp only [wz, wd, ws, seval, e_cron_bounds, e_cron_part]
  simp only [wz, wd, ws, seval, c182r1, semI.eq_10, semI.eq_11, semI.eq_3, semI.eq_5, semI.eq_7, e_cron_bounds, e_cron_part]
  refine .seq ?_
  refine Rw.walk ?_
  simp only [wz, wd, ws, seval, c182r2, semI.eq_10, semI.eq_11, semI.eq_3, semI.eq_5, semI.eq_7, e_cron_bounds, e_cron_part]
  obtain ⟨t2, e2, h⟩ := Option.bind_eq_some_iff.1 h
  refine call_fun [] true ⟨trivial, trivial, trivial, trivial⟩ rfl ?_ (f_cron_span_ok _ _ _ e2) (fun h => by cases h) (fun i hi => by cases hi) ?_
  · simp only [wz, wd, ws, seval, e_cron_bounds, e_cron_part]
  simp only [wz, wd, ws, seval, c182r2, semI.eq_10, semI.eq_11, semI.eq_3, semI.eq_5, semI.eq_7, e_cron_bounds, e_cron_part]
  refine .seq ?_
  refine Rw.walk ?_
  simp only [wz, wd, ws, seval, c182r3, semI.eq_10, semI.eq_11, semI.eq_3, semI.eq_5, semI.eq_7, e_cron_bounds, e_cron_part]
  refine .seq ?_
  obtain ⟨s2, hf, h⟩ := Option.bind_eq_some_iff.1 h
  refine W.cut1 ⟨lkT [(9, .b (.s (.ptr 9 1 0 0))), (11, .b (.s (.d s2.1))), (12, .b (.s (.d (.int .i64 s2.2))))], lkG [(9, ⟨2, [[(.d (.int .i64 t2.1.low)), (.d (.int .i64 t2.1.high))]], false⟩)]⟩ ?_ (fun tail => ?_)
  · skip
    refine .seq ?_
    refine .seq ?_
    refine Rw.walk ?_
    obtain ⟨g3, h⟩ := gd_iff.1 h
    simp only [wz, wd, ws, seval, c182r8, semI.eq_10, semI.eq_11, semI.eq_3, semI.eq_5, semI.eq_7, e_cron_bounds, e_cron_part]
    repeat (refine And.intro ?_ ?_; · first | omega | exact g3 | (simp only [List.length_append, List.length_cons, List.length_nil] at *; omega) | (simp only [List.map_cons, List.map_nil] at *; omega) | (intro q; simp only [wz, wd, ws, seval, q]; done))
    refine .cond (p := (!(nilI s2.1))) (by first | rfl | simp only [wz, wd, ws, seval]) (fun h1 => ?_) (fun h1 => ?_)
    · rw [ite_t h1] at h
      refine .seq ?_
      refine Rw.walk ?_
      simp only [wz, wd, ws, seval, c182r9, semI.eq_10, semI.eq_11, semI.eq_3, semI.eq_5, semI.eq_7, e_cron_bounds, e_cron_part]
      obtain rfl := Option.some.inj h
      refine .ret ?_
      rw [← hR]
      simp only [wz, wd, ws, seval, rv182, e_cron_bounds, e_cron_part]
    · rw [ite_f h1] at h
      refine .skip ?_
      refine .seq ?_
      refine Rw.walk ?_
      simp only [wz, wd, ws, seval, c182r10, semI.eq_10, semI.eq_11, semI.eq_3, semI.eq_5, semI.eq_7, e_cron_bounds, e_cron_part]
      refine .seq ?_
      refine .seq ?_
      refine Rw.walk ?_
      simp only [wz, wd, ws, seval, c182r11, semI.eq_10, semI.eq_11, semI.eq_3, semI.eq_5, semI.eq_7, e_cron_bounds, e_cron_part]
      refine .blk ?_
      obtain ⟨s3, hf, h⟩ := Option.bind_eq_some_iff.1 h
      refine .loop (.weak (Imp.co [] _ _ ?c1 ?c2 ?c3 ?c4 ?c5) (f_cron_values_l15_ok s b t2 s2 _ _ hR _ _ _ _ hf _ ?_))
      case c1 | c2 | c3 | c4 | c5 => simp only [wz, wd, ws, seval, wi, er_nil, e_cron_bounds, e_cron_part]
      · intro s3_ hs; subst hs
        refine .seq ?_
        refine Rw.walk ?_
        simp only [wz, wd, ws, seval, c182r15, semI.eq_10, semI.eq_11, semI.eq_3, semI.eq_5, semI.eq_7, e_cron_bounds, e_cron_part]
        obtain rfl := Option.some.inj h
        refine .ret ?_
        rw [← hR]
        simp only [wz, wd, ws, seval, rv182, e_cron_bounds, e_cron_part]
  replace h := hf
  refine .seq ?_
  refine Rw.walk ?_
  obtain ⟨g6, h⟩ := gd_iff.1 h
  simp only [wz, wd, ws, seval, c182r4, semI.eq_10, semI.eq_11, semI.eq_3, semI.eq_5, semI.eq_7, e_cron_bounds, e_cron_part]
  repeat (refine And.intro ?_ ?_; · first | omega | exact g6 | (simp only [List.length_append, List.length_cons, List.length_nil] at *; omega) | (simp only [List.map_cons, List.map_nil] at *; omega) | (intro q; simp only [wz, wd, ws, seval, q]; done))
  refine .cond (p := ((nilI t2.2.2) && t.2.2)) (by first | rfl | simp only [wz, wd, ws, seval]) (fun h1 => ?_) (fun h1 => ?_)
  · rw [ite_t h1] at h
    refine .seq ?_
    refine Rw.walk ?_
    simp only [wz, wd, ws, seval, c182r5, semI.eq_10, semI.eq_11, semI.eq_3, semI.eq_5, semI.eq_7, e_cron_bounds, e_cron_part]
    obtain ⟨t3, e7, h⟩ := Option.bind_eq_some_iff.1 h
    refine call_fun [] true ⟨trivial, trivial, trivial, trivial⟩ rfl ?_ (f_cron_number_ok _ _ _ e7) (fun h => by cases h) (fun i hi => by cases hi) ?_
    · simp only [wz, wd, ws, seval, e_cron_bounds, e_cron_part]
    simp only [wz, wd, ws, seval, c182r5, semI.eq_10, semI.eq_11, semI.eq_3, semI.eq_5, semI.eq_7, e_cron_bounds, e_cron_part]
    refine .seq ?_
    refine Rw.walk ?_
    simp only [wz, wd, ws, seval, c182r6, semI.eq_10, semI.eq_11, semI.eq_3, semI.eq_5, semI.eq_7, e_cron_bounds, e_cron_part]
    refine .cond (p := (!t2.2.1)) (by first | rfl | simp only [wz, wd, ws, seval]) (fun h1 => ?_) (fun h1 => ?_)
    · rw [ite_t h1] at h
      refine Rw.walk ?_
      simp only [wz, wd, ws, seval, c182r7, semI.eq_10, semI.eq_11, semI.eq_3, semI.eq_5, semI.eq_7, e_cron_bounds, e_cron_part]
      obtain rfl := Option.some.inj h
      refine .weak (Imp.co [] _ _ ?_ ?_ ?_ ?_ ?_) (tail) <;> simp only [wz, wd, ws, seval, wi, er_nil, e_cron_bounds, e_cron_part]
    · rw [ite_f h1] at h
      refine .skip ?_
      obtain rfl := Option.some.inj h
      refine .weak (Imp.co [] _ _ ?_ ?_ ?_ ?_ ?_) (tail) <;> simp only [wz, wd, ws, seval, wi, er_nil, e_cron_bounds, e_cron_part]
  · rw [ite_f h1] at h
    refine .skip ?_
    obtain rfl := Option.some.inj h
    refine .weak (Imp.co [] _ _ ?_ ?_ ?_ ?_ ?_) (tail) <;> simp only [wz, wd, ws, seval, wi, er_nil, e_cron_bounds, e_cron_part]
theorem isPart_eq {x : Sc} {b : Bool} (h : isPart x = some b) : x = scPart b := by
  unfold isPart at h
  split at h
  · cases h; rfl
  · split at h
    · rename_i ht; cases h; rw [ht]; rfl
    · cases h
  · cases h
theorem repD_part {w : World} {S : Nat → Prop} {b : Bool} {u : Value} (h : RepD w S (scPart b) u) : u = errV b := by
  cases b with
  | false => cases h; rfl
  | true =>
    cases h with
    | ifa _ _ vs hl _ =>
      obtain ⟨vs⟩ := vs
      cases vs with
      | nil => rfl
      | cons _ _ => cases hl
theorem part_rep {w : World} {S : Nat → Prop} (b : Bool) : RepD w S (scPart b) (errV b) := by
  cases b with
  | false => exact .z .nilIface
  | true => exact .ifa _ _ #[] rfl fun j sc hj => by cases hj
theorem f_cron_field_ok (s : Str) (b : cron_bounds) (y_ : Int × Sc) (h : f_cron_field s b = some y_) : Fun Tryz.prog glP 128 [.b (.s (.d (.str s))), .b (.agg ((e_cron_bounds b).map Lc.d))] (.tup [.s (.d (.int .u64 y_.1)), .s (.d y_.2)]) := by
  obtain ⟨hN, h⟩ := gd_iff.1 h
  obtain ⟨r, hr, rfl⟩ := Option.map_eq_some_iff.1 h
  refine Fun.flatG (v := .tuple #[.int .u64 r.1, errV r.2]) (by kernel_rfl) (fun w S => repV_two (.int _ _) (part_rep _)) fun w S vs hS hG hA => ?_
  obtain ⟨v, u, rfl, h1, h2⟩ := args2 hA
  obtain rfl := repv_str (l := s) h1
  obtain ⟨us, rfl, hl, h2⟩ := h2
  obtain ⟨us⟩ := us
  match us, hl with
  | [a, c], _ =>
    have ha := h2 0 _ rfl
    have hc := h2 1 _ rfl
    cases ha with
    | d _ _ ha => cases hc with
      | d _ _ hc =>
        cases ha; cases hc
        refine cron_field_spec (partV b) s b.low b.high hN r hr w fun x q hq W hb => ?_
        obtain ⟨z, hz, hq⟩ := Option.bind_eq_some_iff.1 hq
        obtain ⟨e, he, rfl⟩ := Option.map_eq_some_iff.1 hq
        have hf := f_cron_values_ok x b z hz
        refine (hf.2 W S _ (fun k hk => Nat.lt_of_lt_of_le (hS k hk) hb.size) (hG.later hS hb) (repA_two (.d _ _ (.str _)) ⟨_, rfl, rfl, fun j lc hj => ?_⟩)).mono fun e' w' => ?_
        · match j, hj with
          | 0, hj => cases hj; exact .d _ _ (.int _ _)
          | 1, hj => cases hj; exact .d _ _ (.int _ _)
        · rintro ⟨u, S1, rfl, _, _, hr, hb⟩
          refine ⟨?_, hb⟩
          obtain ⟨vs, rfl, hl, hr⟩ := hr
          obtain ⟨vs⟩ := vs
          match vs, hl with
          | [a, b], _ =>
            have h1 := hr 0 _ rfl
            have h2 := hr 1 _ rfl
            cases h1 with
            | d _ _ h1 => cases h2 with
              | d _ _ h2 =>
                rw [isPart_eq he] at h2
                cases h1
                obtain rfl := repD_part h2
                rfl
theorem f_errors_Is_ok (e t : Sc) (y_ : Bool) (h : f_errors_Is e t = some y_) : Fun Tryz.prog glP 129 [.b (.s (.d e)), .b (.s (.d t))] (.b (.s (.d (.bool y_)))) := by
  unfold f_errors_Is at h
  split at h
  · rename_i ht
    obtain rfl := isPart_eq ht
    obtain rfl := isPart_eq h
    refine Fun.flatG (by kernel_rfl) (of_bool _) fun w S vs hS hG hA => ?_
    obtain ⟨v, u, rfl, h1, h2⟩ := args2 hA
    cases h1 with
    | d _ _ h1 => cases h2 with
      | d _ _ h2 =>
        obtain rfl := repD_part h1
        obtain rfl := repD_part h2
        cases y_ with
        | false => exact (is_nil_part w).mono fun e w' => by rintro ⟨rfl, rfl⟩; exact ⟨rfl, Below.refl _ _⟩
        | true => exact (is_part w).mono fun e w' => by rintro ⟨rfl, rfl⟩; exact ⟨rfl, Below.refl _ _⟩
  · cases h
-- 69 consignor/cron.Parse
def c69r0 : List Opn := [
  ⟨(some 2), none, .new [(.d (.int .u64 0)), (.d (.int .u64 0)), (.d (.int .u64 0)), (.d (.int .u64 0)), (.d (.int .u64 0)), (.d (.bool false)), (.d (.bool false))]⟩, 
  ⟨(some 3), none, .mv (.c (.s (.d (.int .i64 0))))⟩]
def c69r1 : List Opn := [
  ⟨(some 10), none, .mv (.t 0)⟩, 
  ⟨(some 11), none, .call (.fn 126) [(.t 10), (.c (.s (.d (.str [32]))))]⟩, 
  ⟨(some 4), none, .mv (.t 11)⟩]
def c69r2 : List Opn := [
  ⟨(some 12), none, .mv (.t 0)⟩, 
  ⟨(some 13), none, .len .str (.t 12)⟩, 
  ⟨(some 14), none, .bin .gtr (.t 13) (.c (.s (.d (.int .i64 200))))⟩, 
  ⟨(some 15), none, .mv (.t 14)⟩, 
  ⟨(some 16), some (15, false), .mv (.t 4)⟩, 
  ⟨(some 17), some (15, false), .len (.sl 0) (.t 16)⟩, 
  ⟨(some 18), some (15, false), .call (.fn 127) []⟩, 
  ⟨(some 19), some (15, false), .mv (.c (.s (.d (.int .i64 5))))⟩, 
  ⟨(some 20), some (15, false), .bin .neq (.t 17) (.t 19)⟩, 
  ⟨(some 21), none, .pick (.t 15) (.c (.s (.d (.bool true)))) (.t 20)⟩]
def c69r3 : List Opn := [
  ⟨(some 22), none, .build [(.d (.int .u64 0)), (.d (.int .u64 0)), (.d (.int .u64 0)), (.d (.int .u64 0)), (.d (.int .u64 0)), (.d (.bool false)), (.d (.bool false))] []⟩, 
  ⟨none, none, .store 7 (.t 2) (.t 22)⟩, 
  ⟨(some 3), none, .mv (.c (.s (.d (.int .i64 6))))⟩]
def c69r4 : List Opn := [
  ⟨(some 5), none, .new [(.d (.int .u64 0)), (.d (.int .u64 0)), (.d (.int .u64 0)), (.d (.int .u64 0)), (.d (.int .u64 0))]⟩]
def c69r5 : List Opn := [
  ⟨(some 23), none, .call (.fn 127) []⟩, 
  ⟨(some 24), none, .mv (.c (.s (.d (.int .i64 0))))⟩]
def c69r6 : List Opn := [
  ⟨(some 25), none, .bin .lss (.t 24) (.c (.s (.d (.int .i64 5))))⟩]
def c69r7 : List Opn := [
  ⟨(some 26), none, .mv (.t 24)⟩, 
  ⟨(some 27), none, .idx (.arr 5 2 true) (.t 23) (.t 24)⟩, 
  ⟨(some 7), none, .new [(.d (.int .i64 0)), (.d (.int .i64 0))]⟩, 
  ⟨(some 6), none, .mv (.t 26)⟩, 
  ⟨none, none, .store 2 (.t 7) (.t 27)⟩]
def c69r8 : List Opn := [
  ⟨(some 29), none, .mv (.t 4)⟩, 
  ⟨(some 30), none, .mv (.t 6)⟩, 
  ⟨(some 31), none, .iadr (.sl 1) (.t 29) (.t 30)⟩, 
  ⟨(some 32), none, .load false 1 (.t 31)⟩, 
  ⟨(some 33), none, .load true 2 (.t 7)⟩, 
  ⟨(some 34), none, .call (.fn 128) [(.t 32), (.t 33)]⟩, 
  ⟨(some 28), none, .mv (.t 34)⟩, 
  ⟨(some 35), none, .ext (.t 28) 0⟩, 
  ⟨(some 36), none, .ext (.t 28) 1⟩, 
  ⟨(some 8), none, .mv (.t 35)⟩, 
  ⟨(some 9), none, .mv (.t 36)⟩]
def c69r9 : List Opn := [
  ⟨(some 37), none, .mv (.t 9)⟩, 
  ⟨(some 38), none, .build [] []⟩, 
  ⟨(some 39), none, .mkif 205 (.t 38)⟩, 
  ⟨(some 40), none, .call (.fn 129) [(.t 37), (.t 39)]⟩]
def c69r10 : List Opn := [
  ⟨(some 41), none, .build [(.d (.int .u64 0)), (.d (.int .u64 0)), (.d (.int .u64 0)), (.d (.int .u64 0)), (.d (.int .u64 0)), (.d (.bool false)), (.d (.bool false))] []⟩, 
  ⟨none, none, .store 7 (.t 2) (.t 41)⟩, 
  ⟨(some 3), none, .mv (.c (.s (.d (.int .i64 6))))⟩]
def c69r11 : List Opn := [
  ⟨(some 42), none, .mv (.t 6)⟩, 
  ⟨(some 43), none, .mv (.t 8)⟩, 
  ⟨(some 44), none, .iadr (.ptr 5 1) (.t 5) (.t 42)⟩, 
  ⟨none, none, .store 1 (.t 44) (.t 43)⟩]
def c69r12 : List Opn := [
  ⟨(some 45), none, .bin .add (.t 24) (.c (.s (.d (.int .i64 1))))⟩, 
  ⟨(some 24), none, .mv (.t 45)⟩]
def c69l13 : C := .seq (.reg c69r6 none [2, 4, 5, 23, 24, 25]) (.seq (.cond (.t 25) (.skip) (.exit 0)) (.seq (.blk 1 (.seq (.reg c69r7 none [2, 4, 5, 6, 7, 23, 24]) (.seq (.reg c69r8 (some [0, 0, 3, 7, 0, 31, 63, 127, 127, 255, 1023]) [2, 4, 5, 6, 8, 9, 23, 24]) (.seq (.seq (.reg c69r9 none [2, 4, 5, 6, 8, 23, 24, 40]) (.cond (.t 40) (.seq (.reg c69r10 none [2, 3]) (.ret)) (.skip))) (.reg c69r11 none [2, 4, 5, 23, 24]))))) (.reg c69r12 none [2, 4, 5, 23, 24])))
def c69r13 : List Opn := [
  ⟨(some 46), none, .iadr (.ptr 5 1) (.t 5) (.c (.s (.d (.int .i64 0))))⟩, 
  ⟨(some 47), none, .load false 1 (.t 46)⟩, 
  ⟨(some 48), none, .iadr (.ptr 5 1) (.t 5) (.c (.s (.d (.int .i64 1))))⟩, 
  ⟨(some 49), none, .load false 1 (.t 48)⟩, 
  ⟨(some 50), none, .iadr (.ptr 5 1) (.t 5) (.c (.s (.d (.int .i64 2))))⟩, 
  ⟨(some 51), none, .load false 1 (.t 50)⟩, 
  ⟨(some 52), none, .iadr (.ptr 5 1) (.t 5) (.c (.s (.d (.int .i64 3))))⟩, 
  ⟨(some 53), none, .load false 1 (.t 52)⟩, 
  ⟨(some 54), none, .iadr (.ptr 5 1) (.t 5) (.c (.s (.d (.int .i64 4))))⟩, 
  ⟨(some 55), none, .load false 1 (.t 54)⟩, 
  ⟨(some 56), none, .mv (.t 4)⟩, 
  ⟨(some 57), none, .iadr (.sl 1) (.t 56) (.c (.s (.d (.int .i64 2))))⟩, 
  ⟨(some 58), none, .load false 1 (.t 57)⟩, 
  ⟨(some 59), none, .bin .eql (.t 58) (.c (.s (.d (.str [42]))))⟩, 
  ⟨(some 60), none, .mv (.t 4)⟩, 
  ⟨(some 61), none, .iadr (.sl 1) (.t 60) (.c (.s (.d (.int .i64 4))))⟩, 
  ⟨(some 62), none, .load false 1 (.t 61)⟩, 
  ⟨(some 63), none, .bin .eql (.t 62) (.c (.s (.d (.str [42]))))⟩, 
  ⟨(some 64), none, .build [(.d (.int .u64 0)), (.d (.int .u64 0)), (.d (.int .u64 0)), (.d (.int .u64 0)), (.d (.int .u64 0)), (.d (.bool false)), (.d (.bool false))] [(0, 1, (.t 47)), (1, 1, (.t 49)), (2, 1, (.t 51)), (3, 1, (.t 53)), (4, 1, (.t 55)), (5, 1, (.t 59)), (6, 1, (.t 63))]⟩, 
  ⟨none, none, .store 7 (.t 2) (.t 64)⟩, 
  ⟨(some 3), none, .mv (.c (.s (.d (.int .i64 0))))⟩]
def c69 : C := .seq (.reg c69r0 none [0, 2]) (.seq (.reg c69r1 none [0, 2, 4]) (.seq (.seq (.reg c69r2 none [2, 4, 21]) (.cond (.t 21) (.seq (.reg c69r3 none [2, 3]) (.ret)) (.skip))) (.seq (.reg c69r4 none [2, 4, 5]) (.seq (.seq (.reg c69r5 none [2, 4, 5, 23, 24]) (.blk 0 (.loop c69l13))) (.seq (.reg c69r13 (some [0, 1, 0, 4, 0, 16, 0, 64, 0, 256, 0, 1024, 3072, 7168, 0, 16384, 49152, 114688, 262143, 524287, 1048575]) [2, 3]) (.ret))))))
def k69 : List (Nat × List Nat) := [(13, [2, 3]), (12, [2, 4, 5, 23, 24]), (11, [2, 4, 5, 23, 24]), (10, [2, 3]), (9, [2, 4, 5, 6, 8, 23, 24, 40]), (8, [2, 4, 5, 6, 8, 9, 23, 24]), (7, [2, 4, 5, 6, 7, 23, 24]), (6, [2, 4, 5, 23, 24, 25]), (5, [2, 4, 5, 23, 24]), (4, [2, 4, 5]), (3, [2, 3]), (2, [2, 4, 21]), (1, [0, 2, 4]), (0, [0, 2])]
theorem cc69 : (Tryz.f69.body).bind (cC Tryz.prog 65 k69) = some c69 := by kernel_rfl
def rv69 : List RV := [.c 2 true 7, .t 3]
theorem cr69 : cRVs Tryz.prog Tryz.f69.results.toList = some rv69 := by kernel_rfl
theorem f_cron_Parse_l13_ok (s : Str) (t : (List Str)) (t2 : (List cron_bounds)) (y_ : api_Cron × Int) (R_ : St → Prop) (hR : (Ret Tryz.prog glP [] rv69 (.tup [.agg ((e_api_Cron y_.1).map Lc.d), .s (.d (.int .i64 y_.2))])) = R_) : ∀ (m_ : Nat) (v24 : Int) (bits : (List Int)) (res_ : (Int × (List Int)) ⊕ (api_Cron × Int)) (h : f_cron_Parse_l13 s t t2 m_ v24 bits = some res_) (k_ : List It) (hx : ∀ s_ : Int × (List Int), res_ = .inl s_ → W Tryz.prog glP 65 k_ ⟨lkT [(2, .b (.s (.ptr 2 1 0 0))), (4, .b (.s (.d (.sl (t.map eS))))), (5, .b (.s (.ptr 5 1 0 0))), (23, .b (.agg (ea e_cron_bounds t2))), (24, .b (.s (.d (.int .i64 s_.1))))], lkG [(2, ⟨7, [[(.d (.int .u64 0)), (.d (.int .u64 0)), (.d (.int .u64 0)), (.d (.int .u64 0)), (.d (.int .u64 0)), (.d (.bool false)), (.d (.bool false))]], false⟩), (5, ⟨5, [ea (eI .u64) s_.2], false⟩)]⟩ R_) (hr : ∀ z_ : api_Cron × Int, res_ = .inr z_ → z_ = y_), W Tryz.prog glP 65 (.c c69l13 :: .lp c69l13 :: .blk 0 :: k_) ⟨lkT [(2, .b (.s (.ptr 2 1 0 0))), (4, .b (.s (.d (.sl (t.map eS))))), (5, .b (.s (.ptr 5 1 0 0))), (23, .b (.agg (ea e_cron_bounds t2))), (24, .b (.s (.d (.int .i64 v24))))], lkG [(2, ⟨7, [[(.d (.int .u64 0)), (.d (.int .u64 0)), (.d (.int .u64 0)), (.d (.int .u64 0)), (.d (.int .u64 0)), (.d (.bool false)), (.d (.bool false))]], false⟩), (5, ⟨5, [ea (eI .u64) bits], false⟩)]⟩ R_ := by
  intro m_; induction m_ with
  | zero => intro v24 bits res_ h; rw [f_cron_Parse_l13.eq_1] at h; cases h
  | succ m_ ih =>
    intro v24 bits res_ h k_ hx hr; rw [f_cron_Parse_l13.eq_2] at h; refine W.cdef c69l13.eq_1 ?_
    refine .seq ?_
    refine Rw.walk ?_
    simp only [wz, wd, ws, seval, c69r6, semI.eq_10, semI.eq_11, semI.eq_3, semI.eq_5, semI.eq_7, e_cron_part, e_cron_bounds, e_api_Cron]
    refine .seq ?_
    refine .cond (p := (decide (v24 < 5))) (by first | rfl | simp only [wz, wd, ws, seval]) (fun h1 => ?_) (fun h1 => ?_)
    · rw [ite_t h1] at h
      refine .skip ?_
      refine .seq ?_
      refine .blk ?_
      refine .seq ?_
      refine Rw.walk ?_
      simp only [wz, wd, ws, seval, c69r7, semI.eq_10, semI.eq_11, semI.eq_3, semI.eq_5, semI.eq_7, e_cron_part, e_cron_bounds, e_api_Cron]
      obtain ⟨g3, h⟩ := gd_iff.1 h
      obtain ⟨x, e4, h⟩ := Option.bind_eq_some_iff.1 h
      refine Go1.of (sem_idxA (by rfl) e_cron_bounds_len e4 (by decide) (by rfl) (by rfl)) ?_
      simp only [wz, wd, ws, seval, c69r7, semI.eq_10, semI.eq_11, semI.eq_3, semI.eq_5, semI.eq_7, e_cron_part, e_cron_bounds, e_api_Cron]
      repeat (refine And.intro ?_ ?_; · first | omega | (simp only [List.length_append, List.length_cons, List.length_nil] at *; omega) | (simp only [List.map_cons, List.map_nil] at *; omega) | (intro q; simp only [wz, wd, ws, seval, q]; done))
      refine .seq ?_
      refine RwD.walk ?_
      simp only [wz, wd, ws, seval, c69r8, semI.eq_10, semI.eq_11, semI.eq_3, semI.eq_5, semI.eq_7, e_cron_part, e_cron_bounds, e_api_Cron]
      obtain ⟨x2, e5, h⟩ := Option.bind_eq_some_iff.1 h
      refine GoD1.of (sem_iadr eS_len e5 (by rfl) (by rfl)) ?_
      simp only [wz, wd, ws, seval, c69r8, semI.eq_10, semI.eq_11, semI.eq_3, semI.eq_5, semI.eq_7, e_cron_part, e_cron_bounds, e_api_Cron]
      obtain ⟨t3, e6, h⟩ := Option.bind_eq_some_iff.1 h
      refine call_fun [] true ⟨trivial, trivial, trivial, trivial⟩ rfl ?_ (f_cron_field_ok _ _ _ e6) (fun h => by cases h) (fun i hi => by cases hi) ?_
      · simp only [wz, wd, ws, seval, e_cron_part, e_cron_bounds, e_api_Cron]
      simp only [wz, wd, ws, seval, c69r8, semI.eq_10, semI.eq_11, semI.eq_3, semI.eq_5, semI.eq_7, e_cron_part, e_cron_bounds, e_api_Cron]
      refine .seq ?_
      refine .seq ?_
      refine Rw.walk ?_
      simp only [wz, wd, ws, seval, c69r9, semI.eq_10, semI.eq_11, semI.eq_3, semI.eq_5, semI.eq_7, e_cron_part, e_cron_bounds, e_api_Cron]
      obtain ⟨t4, e7, h⟩ := Option.bind_eq_some_iff.1 h
      refine call_fun [] false ⟨trivial, trivial, trivial, trivial⟩ rfl ?_ (f_errors_Is_ok _ _ _ e7) (fun _ => rfl) (fun i hi => by cases hi) ?_
      · simp only [wz, wd, ws, seval, e_cron_part, e_cron_bounds, e_api_Cron]
      simp only [wz, wd, ws, seval, c69r9, semI.eq_10, semI.eq_11, semI.eq_3, semI.eq_5, semI.eq_7, e_cron_part, e_cron_bounds, e_api_Cron]
      refine .cond (p := t4) (by first | rfl | simp only [wz, wd, ws, seval]) (fun h1 => ?_) (fun h1 => ?_)
      · rw [ite_t h1] at h
        refine .seq ?_
        refine Rw.walk ?_
        simp only [wz, wd, ws, seval, c69r10, semI.eq_10, semI.eq_11, semI.eq_3, semI.eq_5, semI.eq_7, e_cron_part, e_cron_bounds, e_api_Cron]
        obtain rfl := Option.some.inj h; obtain rfl := hr _ rfl
        refine .ret ?_
        rw [← hR]
        simp only [wz, wd, ws, seval, rv69, semI.eq_10, e_cron_part, e_cron_bounds, e_api_Cron]
      · rw [ite_f h1] at h
        refine .skip ?_
        refine Rw.walk ?_
        simp only [wz, wd, ws, seval, c69r11, semI.eq_3, semI.eq_5, semI.eq_7, e_cron_part, e_cron_bounds, e_api_Cron]
        obtain ⟨g8, h⟩ := gd_iff.1 h
        refine Go1.of (sem_iadrA (by rfl) (by rfl) (by rfl)) ?_
        simp only [wz, wd, ws, seval, c69r11, semI.eq_3, semI.eq_5, semI.eq_7, e_cron_part, e_cron_bounds, e_api_Cron]
        repeat (refine And.intro ?_ ?_; · first | omega | (simp only [List.length_append, List.length_cons, List.length_nil] at *; omega) | (simp only [List.map_cons, List.map_nil] at *; omega) | (intro q; simp only [wz, wd, ws, seval, q]; done))
        obtain ⟨g9, h⟩ := gd_iff.1 h
        refine Go1.of (sem_storeA (enc := (eI .u64)) (a' := t3.1) (i := v24) (eI_len _) (by rfl) (by rfl) (by omega) (by omega) (by rfl) (by trivial) (by rfl)) ?_
        simp only [wz, wd, ws, seval, c69r11, semI.eq_3, semI.eq_5, semI.eq_7, e_cron_part, e_cron_bounds, e_api_Cron]
        refine .eblk ?_
        refine Rw.walk ?_
        simp only [wz, wd, ws, seval, c69r12, semI.eq_10, semI.eq_11, semI.eq_3, semI.eq_5, semI.eq_7, e_cron_part, e_cron_bounds, e_api_Cron]
        refine .lp ?_
        refine .weak (Imp.co [] _ _ ?_ ?_ ?_ ?_ ?_) (ih (IntKind.i64.wrap (v24 + 1)) (bits.set v24.toNat t3.1) _ h k_ hx hr) <;> simp only [wz, wd, ws, seval, wi, er_nil, e_cron_part, e_cron_bounds, e_api_Cron]
    · rw [ite_f h1] at h
      refine .exit rfl ?_
      obtain rfl := Option.some.inj h
      refine .weak (Imp.co [] _ _ ?_ ?_ ?_ ?_ ?_) (hx _ rfl) <;> simp only [wz, wd, ws, seval, wi, er_nil, e_cron_part, e_cron_bounds, e_api_Cron]
theorem f_cron_Parse_ok (s : Str) (y_ : api_Cron × Int) (h : f_cron_Parse s = some y_) : Fun Tryz.prog glP 69 [.b (.s (.d (.str s)))] (.tup [.agg ((e_api_Cron y_.1).map Lc.d), .s (.d (.int .i64 y_.2))]) := by
  refine fun_walk [] Tryz.func69 Tryz.ntmps69 cc69 cr69 (by kernel_rfl) (by simp only [List.length_cons, List.length_nil]; decide) ?_
  generalize hR : Ret _ _ _ _ _ = R_
  simp only [wz, wd, ws, seval, e_cron_part, e_cron_bounds, e_api_Cron]
  unfold f_cron_Parse at h; unfold c69
  refine .seq ?_
  refine Rw.walk ?_
  simp only [wz, wd, ws, seval, c69r0, semI.eq_10, semI.eq_11, semI.eq_3, semI.eq_5, semI.eq_7, e_cron_part, e_cron_bounds, e_api_Cron]
  refine .seq ?_
  refine Rw.walk ?_
  simp only [wz, wd, ws, seval, c69r1, semI.eq_10, semI.eq_11, semI.eq_3, semI.eq_5, semI.eq_7, e_cron_part, e_cron_bounds, e_api_Cron]
  obtain ⟨t, e1, h⟩ := Option.bind_eq_some_iff.1 h
  refine call_fun [] true ⟨trivial, trivial, trivial, trivial⟩ rfl ?_ (f_strings_Split_ok _ _ _ e1) (fun h => by cases h) (fun i hi => by cases hi) ?_
  · simp only [wz, wd, ws, seval, e_cron_part, e_cron_bounds, e_api_Cron]
  simp only [wz, wd, ws, seval, c69r1, semI.eq_10, semI.eq_11, semI.eq_3, semI.eq_5, semI.eq_7, e_cron_part, e_cron_bounds, e_api_Cron]
  refine .seq ?_
  refine .seq ?_
  obtain ⟨s2, hf, h⟩ := Option.bind_eq_some_iff.1 h
  refine W.cut1 ⟨lkT [(2, .b (.s (.ptr 2 1 0 0))), (4, .b (.s (.d (.sl (t.map eS))))), (21, .b (.s (.d (.bool s2))))], lkG [(2, ⟨7, [[(.d (.int .u64 0)), (.d (.int .u64 0)), (.d (.int .u64 0)), (.d (.int .u64 0)), (.d (.int .u64 0)), (.d (.bool false)), (.d (.bool false))]], false⟩)]⟩ ?_ (fun tail => ?_)
  · skip
    refine .cond (p := s2) (by first | rfl | simp only [wz, wd, ws, seval]) (fun h1 => ?_) (fun h1 => ?_)
    · rw [ite_t h1] at h
      refine .seq ?_
      refine Rw.walk ?_
      simp only [wz, wd, ws, seval, c69r3, semI.eq_10, semI.eq_11, semI.eq_3, semI.eq_5, semI.eq_7, e_cron_part, e_cron_bounds, e_api_Cron]
      obtain rfl := Option.some.inj h
      refine .ret ?_
      rw [← hR]
      simp only [wz, wd, ws, seval, rv69, semI.eq_10, e_cron_part, e_cron_bounds, e_api_Cron]
    · rw [ite_f h1] at h
      refine .skip ?_
      refine .seq ?_
      refine Rw.walk ?_
      simp only [wz, wd, ws, seval, c69r4, semI.eq_10, semI.eq_11, e_cron_part, e_cron_bounds, e_api_Cron]
      refine Go1.of (sem_newA (enc := (eI .u64)) (l := (List.replicate 5 0)) (by first | rfl | (simp only [List.length_map, List.length_replicate, List.length_set]; rfl)) (by first | rfl | (simp only [List.length_map, List.length_replicate, List.length_set]; rfl)) (by first | rfl | (simp only [List.length_map, List.length_replicate, List.length_set]; rfl))) ?_
      simp only [wz, wd, ws, seval, c69r4, semI.eq_10, semI.eq_11, e_cron_part, e_cron_bounds, e_api_Cron]
      refine .seq ?_
      refine .seq ?_
      refine Rw.walk ?_
      simp only [wz, wd, ws, seval, c69r5, semI.eq_10, semI.eq_11, semI.eq_3, semI.eq_5, semI.eq_7, e_cron_part, e_cron_bounds, e_api_Cron]
      obtain ⟨t2, e2, h⟩ := Option.bind_eq_some_iff.1 h
      refine call_fun [] true ⟨trivial, trivial⟩ rfl ?_ (f_cron_fields_ok _ e2) (fun h => by cases h) (fun i hi => by cases hi) ?_
      · simp only [wz, wd, ws, seval, e_cron_part, e_cron_bounds, e_api_Cron]
      simp only [wz, wd, ws, seval, c69r5, semI.eq_10, semI.eq_11, semI.eq_3, semI.eq_5, semI.eq_7, e_cron_part, e_cron_bounds, e_api_Cron]
      refine .blk ?_
      obtain ⟨s3, hf, h⟩ := Option.bind_eq_some_iff.1 h
      refine .loop (.weak (Imp.co [] _ _ ?c1 ?c2 ?c3 ?c4 ?c5) (f_cron_Parse_l13_ok s t t2 _ _ hR _ _ _ _ hf _ ?_ ?_))
      case c1 | c2 | c3 | c4 | c5 => simp only [wz, wd, ws, seval, wi, er_nil, e_cron_part, e_cron_bounds, e_api_Cron]
      · intro s4 hs; subst hs; dsimp only at h
        refine .seq ?_
        refine RwD.walk ?_
        simp only [wz, wd, ws, seval, c69r13, semI.eq_3, semI.eq_5, semI.eq_7, e_cron_part, e_cron_bounds, e_api_Cron]
        refine GoD1.of (sem_iadrA (by rfl) (by rfl) (by rfl)) ?_
        simp only [wz, wd, ws, seval, c69r13, semI.eq_3, semI.eq_5, semI.eq_7, e_cron_part, e_cron_bounds, e_api_Cron]
        repeat (refine And.intro ?_ ?_; · first | omega | (simp only [List.length_append, List.length_cons, List.length_nil] at *; omega) | (simp only [List.map_cons, List.map_nil] at *; omega) | (intro q; simp only [wz, wd, ws, seval, q]; done))
        obtain ⟨x, e10, h⟩ := Option.bind_eq_some_iff.1 h
        refine GoD1.of (sem_loadA1 (eI_len _) e10 (by rfl) (by rfl) (by rfl)) ?_
        simp only [wz, wd, ws, seval, c69r13, semI.eq_3, semI.eq_5, semI.eq_7, e_cron_part, e_cron_bounds, e_api_Cron]
        refine GoD1.of (sem_iadrA (by rfl) (by rfl) (by rfl)) ?_
        simp only [wz, wd, ws, seval, c69r13, semI.eq_3, semI.eq_5, semI.eq_7, e_cron_part, e_cron_bounds, e_api_Cron]
        repeat (refine And.intro ?_ ?_; · first | omega | (simp only [List.length_append, List.length_cons, List.length_nil] at *; omega) | (simp only [List.map_cons, List.map_nil] at *; omega) | (intro q; simp only [wz, wd, ws, seval, q]; done))
        obtain ⟨x2, e11, h⟩ := Option.bind_eq_some_iff.1 h
        refine GoD1.of (sem_loadA1 (eI_len _) e11 (by rfl) (by rfl) (by rfl)) ?_
        simp only [wz, wd, ws, seval, c69r13, semI.eq_3, semI.eq_5, semI.eq_7, e_cron_part, e_cron_bounds, e_api_Cron]
        refine GoD1.of (sem_iadrA (by rfl) (by rfl) (by rfl)) ?_
        simp only [wz, wd, ws, seval, c69r13, semI.eq_3, semI.eq_5, semI.eq_7, e_cron_part, e_cron_bounds, e_api_Cron]
        repeat (refine And.intro ?_ ?_; · first | omega | (simp only [List.length_append, List.length_cons, List.length_nil] at *; omega) | (simp only [List.map_cons, List.map_nil] at *; omega) | (intro q; simp only [wz, wd, ws, seval, q]; done))
        obtain ⟨x3, e12, h⟩ := Option.bind_eq_some_iff.1 h
        refine GoD1.of (sem_loadA1 (eI_len _) e12 (by rfl) (by rfl) (by rfl)) ?_
        simp only [wz, wd, ws, seval, c69r13, semI.eq_3, semI.eq_5, semI.eq_7, e_cron_part, e_cron_bounds, e_api_Cron]
        refine GoD1.of (sem_iadrA (by rfl) (by rfl) (by rfl)) ?_
        simp only [wz, wd, ws, seval, c69r13, semI.eq_3, semI.eq_5, semI.eq_7, e_cron_part, e_cron_bounds, e_api_Cron]
        repeat (refine And.intro ?_ ?_; · first | omega | (simp only [List.length_append, List.length_cons, List.length_nil] at *; omega) | (simp only [List.map_cons, List.map_nil] at *; omega) | (intro q; simp only [wz, wd, ws, seval, q]; done))
        obtain ⟨x4, e13, h⟩ := Option.bind_eq_some_iff.1 h
        refine GoD1.of (sem_loadA1 (eI_len _) e13 (by rfl) (by rfl) (by rfl)) ?_
        simp only [wz, wd, ws, seval, c69r13, semI.eq_3, semI.eq_5, semI.eq_7, e_cron_part, e_cron_bounds, e_api_Cron]
        refine GoD1.of (sem_iadrA (by rfl) (by rfl) (by rfl)) ?_
        simp only [wz, wd, ws, seval, c69r13, semI.eq_3, semI.eq_5, semI.eq_7, e_cron_part, e_cron_bounds, e_api_Cron]
        repeat (refine And.intro ?_ ?_; · first | omega | (simp only [List.length_append, List.length_cons, List.length_nil] at *; omega) | (simp only [List.map_cons, List.map_nil] at *; omega) | (intro q; simp only [wz, wd, ws, seval, q]; done))
        obtain ⟨x5, e14, h⟩ := Option.bind_eq_some_iff.1 h
        refine GoD1.of (sem_loadA1 (eI_len _) e14 (by rfl) (by rfl) (by rfl)) ?_
        simp only [wz, wd, ws, seval, c69r13, semI.eq_3, semI.eq_5, semI.eq_7, e_cron_part, e_cron_bounds, e_api_Cron]
        obtain ⟨x6, e15, h⟩ := Option.bind_eq_some_iff.1 h
        refine GoD1.of (sem_iadr eS_len e15 (by rfl) (by rfl)) ?_
        simp only [wz, wd, ws, seval, c69r13, semI.eq_3, semI.eq_5, semI.eq_7, e_cron_part, e_cron_bounds, e_api_Cron]
        refine GoD1.of (semI.eq_10 ..) ?_
        simp only [wz, wd, ws, seval, c69r13, semI.eq_3, semI.eq_5, semI.eq_7, e_cron_part, e_cron_bounds, e_api_Cron]
        obtain ⟨x7, e16, h⟩ := Option.bind_eq_some_iff.1 h
        refine GoD1.of (sem_iadr eS_len e16 (by rfl) (by rfl)) ?_
        simp only [wz, wd, ws, seval, c69r13, semI.eq_3, semI.eq_5, semI.eq_7, e_cron_part, e_cron_bounds, e_api_Cron]
        refine GoD1.of (semI.eq_10 ..) ?_
        simp only [wz, wd, ws, seval, c69r13, semI.eq_3, semI.eq_5, semI.eq_7, e_cron_part, e_cron_bounds, e_api_Cron]
        refine GoD1.of (semI.eq_11 ..) ?_
        simp only [wz, wd, ws, seval, c69r13, semI.eq_3, semI.eq_5, semI.eq_7, e_cron_part, e_cron_bounds, e_api_Cron]
        obtain rfl := Option.some.inj h
        refine .ret ?_
        rw [← hR]
        simp only [wz, wd, ws, seval, rv69, semI.eq_10, e_cron_part, e_cron_bounds, e_api_Cron]
      · intro z hz; subst hz; dsimp only at h
        exact Option.some.inj h
  replace h := hf
  refine Rs.walk ?_
  simp only [wz, wd, ws, seval, c69r2, semI.eq_10, semI.eq_11, semI.eq_3, semI.eq_5, semI.eq_7, e_cron_part, e_cron_bounds, e_api_Cron]
  cases q4 : (decide ((s.length : Int) > 200))
  case' false =>
    rw [ite_f q4] at h
    simp only [wz, wd, ws, seval, q4, semI.eq_10, semI.eq_11, semI.eq_3, semI.eq_5, semI.eq_7, e_cron_part, e_cron_bounds, e_api_Cron]
    obtain ⟨t2, e17, h⟩ := Option.bind_eq_some_iff.1 h
    refine call_funT [] true rfl rfl (by simp only [wz, wd, ws, seval]) rfl ?_ (f_cron_fields_ok _ e17) (fun h => by cases h) (fun i hi => by cases hi) ?_
    · simp only [wz, wd, ws, seval, e_cron_part, e_cron_bounds, e_api_Cron]
    simp only [wz, wd, ws, seval, q4, semI.eq_10, semI.eq_11, semI.eq_3, semI.eq_5, semI.eq_7, e_cron_part, e_cron_bounds, e_api_Cron]
    repeat (refine And.intro ?_ ?_; · first | omega | (simp only [List.length_append, List.length_cons, List.length_nil] at *; omega) | (simp only [List.map_cons, List.map_nil] at *; omega) | (intro q; simp only [wz, wd, ws, seval, q]; done))
    obtain rfl := Option.some.inj h
    refine .weak (Imp.co [] _ _ ?_ ?_ ?_ ?_ ?_) (tail) <;> simp only [wz, wd, ws, seval, wi, er_nil, e_cron_part, e_cron_bounds, e_api_Cron]
  case' true =>
    rw [ite_t q4] at h
    simp only [wz, wd, ws, seval, q4, semI.eq_10, semI.eq_11, semI.eq_3, semI.eq_5, semI.eq_7, e_cron_part, e_cron_bounds, e_api_Cron]
    repeat (refine And.intro ?_ ?_; · first | omega | (simp only [List.length_append, List.length_cons, List.length_nil] at *; omega) | (simp only [List.map_cons, List.map_nil] at *; omega) | (intro q; simp only [wz, wd, ws, seval, q]; done))
    obtain rfl := Option.some.inj h
    refine .weak (Imp.co [] _ _ ?_ ?_ ?_ ?_ ?_) (tail) <;> simp only [wz, wd, ws, seval, wi, er_nil, e_cron_part, e_cron_bounds, e_api_Cron]
-- 185 slices.IndexFunc[[]string,string]
def c185r0 : List Opn := [
  ⟨(some 4), none, .mv (.c (.s (.d (.int .i64 0))))⟩]
def c185r1 : List Opn := [
  ⟨(some 6), none, .mv (.t 0)⟩, 
  ⟨(some 7), none, .len (.sl 0) (.t 6)⟩, 
  ⟨(some 8), none, .mv (.c (.s (.d (.int .i64 0))))⟩]
def c185r2 : List Opn := [
  ⟨(some 9), none, .bin .lss (.t 8) (.t 7)⟩]
def c185r3 : List Opn := [
  ⟨(some 10), none, .mv (.t 8)⟩, 
  ⟨(some 5), none, .mv (.t 10)⟩]
def c185r4 : List Opn := [
  ⟨(some 11), none, .mv (.t 1)⟩, 
  ⟨(some 12), none, .mv (.t 0)⟩, 
  ⟨(some 13), none, .mv (.t 5)⟩, 
  ⟨(some 14), none, .iadr (.sl 1) (.t 12) (.t 13)⟩, 
  ⟨(some 15), none, .load false 1 (.t 14)⟩, 
  ⟨(some 16), none, .call (.t 11) [(.t 15)]⟩]
def c185r5 : List Opn := [
  ⟨(some 17), none, .mv (.t 5)⟩, 
  ⟨(some 4), none, .mv (.t 17)⟩]
def c185r6 : List Opn := [
  ⟨(some 18), none, .bin .add (.t 8) (.c (.s (.d (.int .i64 1))))⟩, 
  ⟨(some 8), none, .mv (.t 18)⟩]
def c185l7 : C := .seq (.reg c185r2 none [0, 1, 7, 8, 9]) (.seq (.cond (.t 9) (.skip) (.exit 0)) (.seq (.blk 1 (.seq (.reg c185r3 none [0, 1, 5, 7, 8]) (.seq (.reg c185r4 none [0, 1, 5, 7, 8, 16]) (.cond (.t 16) (.seq (.reg c185r5 none [4]) (.ret)) (.skip))))) (.reg c185r6 none [0, 1, 7, 8])))
def c185r7 : List Opn := [
  ⟨(some 4), none, .mv (.c (.s (.d (.int .i64 (-1)))))⟩]
def c185 : C := .seq (.reg c185r0 none [0, 1]) (.seq (.seq (.reg c185r1 none [0, 1, 7, 8]) (.blk 0 (.loop c185l7))) (.seq (.reg c185r7 none [4]) (.ret)))
def k185 : List (Nat × List Nat) := [(7, [4]), (6, [0, 1, 7, 8]), (5, [4]), (4, [0, 1, 5, 7, 8, 16]), (3, [0, 1, 5, 7, 8]), (2, [0, 1, 7, 8, 9]), (1, [0, 1, 7, 8]), (0, [0, 1])]
theorem cc185 : (Tryz.f185.body).bind (cC Tryz.prog 19 k185) = some c185 := by kernel_rfl
def rv185 : List RV := [.t 4]
theorem cr185 : cRVs Tryz.prog Tryz.f185.results.toList = some rv185 := by kernel_rfl
theorem f_slices_IndexFunc_string_string_l7_ok (s : (List Str)) (f_f : FuncId) (f_c : List Sc) (f : Str → Option (Bool)) (f_h : ∀ (a0 : Str) (r : Bool), f a0 = some r → Fun Tryz.prog glP f_f (.b (.s (.d (.str a0))) :: f_c.map fun x => .b (.s (.d x))) (.b (.s (.d (.bool r))))) (y_ : Int) (R_ : St → Prop) (hR : (Ret Tryz.prog glP [] rv185 (.b (.s (.d (.int .i64 y_))))) = R_) : ∀ (m_ : Nat) (v8 : Int) (res_ : (Int) ⊕ (Int)) (h : f_slices_IndexFunc_string_string_l7 s f m_ v8 = some res_) (k_ : List It) (hx : ∀ s_ : Int, res_ = .inl s_ → W Tryz.prog glP 19 k_ ⟨lkT [(0, .b (.s (.d (.sl (s.map eS))))), (1, .b (.s (.d (.clo f_f f_c)))), (7, .b (.s (.d (.int .i64 (s.length : Int))))), (8, .b (.s (.d (.int .i64 s_))))], lkG []⟩ R_) (hr : ∀ z_ : Int, res_ = .inr z_ → z_ = y_), W Tryz.prog glP 19 (.c c185l7 :: .lp c185l7 :: .blk 0 :: k_) ⟨lkT [(0, .b (.s (.d (.sl (s.map eS))))), (1, .b (.s (.d (.clo f_f f_c)))), (7, .b (.s (.d (.int .i64 (s.length : Int))))), (8, .b (.s (.d (.int .i64 v8))))], lkG []⟩ R_ := by
  intro m_; induction m_ with
  | zero => intro v8 res_ h; rw [f_slices_IndexFunc_string_string_l7.eq_1] at h; cases h
  | succ m_ ih =>
    intro v8 res_ h k_ hx hr; rw [f_slices_IndexFunc_string_string_l7.eq_2] at h; refine W.cdef c185l7.eq_1 ?_
    refine .seq ?_
    refine Rw.walk ?_
    simp only [wz, wd, ws, seval, c185r2, semI.eq_10, semI.eq_11, semI.eq_3, semI.eq_5, semI.eq_7]
    refine .seq ?_
    refine .cond (p := (decide (v8 < (s.length : Int)))) (by first | rfl | simp only [wz, wd, ws, seval]) (fun h1 => ?_) (fun h1 => ?_)
    · rw [ite_t h1] at h
      refine .skip ?_
      refine .seq ?_
      refine .blk ?_
      refine .seq ?_
      refine Rw.walk ?_
      simp only [wz, wd, ws, seval, c185r3, semI.eq_10, semI.eq_11, semI.eq_3, semI.eq_5, semI.eq_7]
      refine .seq ?_
      refine Rw.walk ?_
      simp only [wz, wd, ws, seval, c185r4, semI.eq_10, semI.eq_11, semI.eq_3, semI.eq_5, semI.eq_7]
      obtain ⟨x, e1, h⟩ := Option.bind_eq_some_iff.1 h
      refine Go1.of (sem_iadr eS_len e1 (by rfl) (by rfl)) ?_
      simp only [wz, wd, ws, seval, c185r4, semI.eq_10, semI.eq_11, semI.eq_3, semI.eq_5, semI.eq_7]
      obtain ⟨b, e2, h⟩ := Option.bind_eq_some_iff.1 h
      refine call_fun [] false ⟨trivial, trivial, trivial⟩ rfl ?_ (f_h _ _ e2) (fun _ => rfl) (fun i hi => by cases hi) ?_
      · simp only [wz, wd, ws, seval]
      simp only [wz, wd, ws, seval, c185r4, semI.eq_10, semI.eq_11, semI.eq_3, semI.eq_5, semI.eq_7]
      refine .cond (p := b) (by first | rfl | simp only [wz, wd, ws, seval]) (fun h1 => ?_) (fun h1 => ?_)
      · rw [ite_t h1] at h
        refine .seq ?_
        refine Rw.walk ?_
        simp only [wz, wd, ws, seval, c185r5, semI.eq_10, semI.eq_11, semI.eq_3, semI.eq_5, semI.eq_7]
        obtain rfl := Option.some.inj h; obtain rfl := hr _ rfl
        refine .ret ?_
        rw [← hR]
        simp only [wz, wd, ws, seval, rv185]
      · rw [ite_f h1] at h
        refine .skip ?_
        refine .eblk ?_
        refine Rw.walk ?_
        simp only [wz, wd, ws, seval, c185r6, semI.eq_10, semI.eq_11, semI.eq_3, semI.eq_5, semI.eq_7]
        refine .lp ?_
        refine .weak (Imp.co [] _ _ ?_ ?_ ?_ ?_ ?_) (ih (IntKind.i64.wrap (v8 + 1)) _ h k_ hx hr) <;> simp only [wz, wd, ws, seval, wi, er_nil]
    · rw [ite_f h1] at h
      refine .exit rfl ?_
      obtain rfl := Option.some.inj h
      refine .weak (Imp.co [] _ _ ?_ ?_ ?_ ?_ ?_) (hx _ rfl) <;> simp only [wz, wd, ws, seval, wi, er_nil]
theorem f_slices_IndexFunc_string_string_ok (s : (List Str)) (f_f : FuncId) (f_c : List Sc) (f : Str → Option (Bool)) (f_h : ∀ (a0 : Str) (r : Bool), f a0 = some r → Fun Tryz.prog glP f_f (.b (.s (.d (.str a0))) :: f_c.map fun x => .b (.s (.d x))) (.b (.s (.d (.bool r))))) (y_ : Int) (h : f_slices_IndexFunc_string_string s f = some y_) : Fun Tryz.prog glP 185 [.b (.s (.d (.sl (s.map eS)))), .b (.s (.d (.clo f_f f_c)))] (.b (.s (.d (.int .i64 y_)))) := by
  refine fun_walk [] Tryz.func185 Tryz.ntmps185 cc185 cr185 (by kernel_rfl) (by simp only [List.length_cons, List.length_nil]; decide) ?_
  generalize hR : Ret _ _ _ _ _ = R_
  simp only [wz, wd, ws, seval]
  unfold f_slices_IndexFunc_string_string at h; unfold c185
  refine .seq ?_
  refine Rw.walk ?_
  simp only [wz, wd, ws, seval, c185r0, semI.eq_10, semI.eq_11, semI.eq_3, semI.eq_5, semI.eq_7]
  refine .seq ?_
  refine .seq ?_
  refine Rw.walk ?_
  simp only [wz, wd, ws, seval, c185r1, semI.eq_10, semI.eq_11, semI.eq_3, semI.eq_5, semI.eq_7]
  refine .blk ?_
  obtain ⟨s2, hf, h⟩ := Option.bind_eq_some_iff.1 h
  refine .loop (.weak (Imp.co [] _ _ ?c1 ?c2 ?c3 ?c4 ?c5) (f_slices_IndexFunc_string_string_l7_ok s f_f f_c f f_h _ _ hR _ _ _ hf _ ?_ ?_))
  case c1 | c2 | c3 | c4 | c5 => simp only [wz, wd, ws, seval, wi, er_nil]
  · intro s3 hs; subst hs; dsimp only at h
    refine .seq ?_
    refine Rw.walk ?_
    simp only [wz, wd, ws, seval, c185r7, semI.eq_10, semI.eq_11, semI.eq_3, semI.eq_5, semI.eq_7]
    obtain rfl := Option.some.inj h
    refine .ret ?_
    rw [← hR]
    simp only [wz, wd, ws, seval, rv185]
  · intro z hz; subst hz; dsimp only at h
    exact Option.some.inj h
-- 130 slices.ContainsFunc[[]string,string]
def c130r0 : List Opn := [
  ⟨(some 4), none, .mv (.c (.s (.d (.bool false))))⟩]
def c130r1 : List Opn := [
  ⟨(some 5), none, .mv (.t 0)⟩, 
  ⟨(some 6), none, .mv (.t 1)⟩, 
  ⟨(some 7), none, .call (.fn 185) [(.t 5), (.t 6)]⟩, 
  ⟨(some 8), none, .bin .geq (.t 7) (.c (.s (.d (.int .i64 0))))⟩, 
  ⟨(some 4), none, .mv (.t 8)⟩]
def c130 : C := .seq (.reg c130r0 none [0, 1]) (.seq (.reg c130r1 none [4]) (.ret))
def k130 : List (Nat × List Nat) := [(1, [4]), (0, [0, 1])]
theorem cc130 : (Tryz.f130.body).bind (cC Tryz.prog 9 k130) = some c130 := by kernel_rfl
def rv130 : List RV := [.t 4]
theorem cr130 : cRVs Tryz.prog Tryz.f130.results.toList = some rv130 := by kernel_rfl
theorem f_slices_ContainsFunc_string_string_ok (s : (List Str)) (f_f : FuncId) (f_c : List Sc) (f : Str → Option (Bool)) (f_h : ∀ (a0 : Str) (r : Bool), f a0 = some r → Fun Tryz.prog glP f_f (.b (.s (.d (.str a0))) :: f_c.map fun x => .b (.s (.d x))) (.b (.s (.d (.bool r))))) (y_ : Bool) (h : f_slices_ContainsFunc_string_string s f = some y_) : Fun Tryz.prog glP 130 [.b (.s (.d (.sl (s.map eS)))), .b (.s (.d (.clo f_f f_c)))] (.b (.s (.d (.bool y_)))) := by
  refine fun_walk [] Tryz.func130 Tryz.ntmps130 cc130 cr130 (by kernel_rfl) (by simp only [List.length_cons, List.length_nil]; decide) ?_
  generalize hR : Ret _ _ _ _ _ = R_
  simp only [wz, wd, ws, seval]
  unfold f_slices_ContainsFunc_string_string at h; unfold c130
  refine .seq ?_
  refine Rw.walk ?_
  simp only [wz, wd, ws, seval, c130r0, semI.eq_10, semI.eq_11, semI.eq_3, semI.eq_5, semI.eq_7]
  refine .seq ?_
  refine Rw.walk ?_
  simp only [wz, wd, ws, seval, c130r1, semI.eq_10, semI.eq_11, semI.eq_3, semI.eq_5, semI.eq_7]
  obtain ⟨t, e1, h⟩ := Option.bind_eq_some_iff.1 h
  refine call_fun [] false ⟨trivial, trivial, trivial, trivial⟩ rfl ?_ (f_slices_IndexFunc_string_string_ok _ f_f f_c f f_h _ e1) (fun _ => rfl) (fun i hi => by cases hi) ?_
  · simp only [wz, wd, ws, seval]
  simp only [wz, wd, ws, seval, c130r1, semI.eq_10, semI.eq_11, semI.eq_3, semI.eq_5, semI.eq_7]
  obtain rfl := Option.some.inj h
  refine .ret ?_
  rw [← hR]
  simp only [wz, wd, ws, seval, rv130]
-- 238 slices.IndexFunc[[]byte,byte]
def c238r0 : List Opn := [
  ⟨(some 4), none, .mv (.c (.s (.d (.int .i64 0))))⟩]
def c238r1 : List Opn := [
  ⟨(some 6), none, .mv (.t 0)⟩, 
  ⟨(some 7), none, .len (.sl 0) (.t 6)⟩, 
  ⟨(some 8), none, .mv (.c (.s (.d (.int .i64 0))))⟩]
def c238r2 : List Opn := [
  ⟨(some 9), none, .bin .lss (.t 8) (.t 7)⟩]
def c238r3 : List Opn := [
  ⟨(some 10), none, .mv (.t 8)⟩, 
  ⟨(some 5), none, .mv (.t 10)⟩]
def c238r4 : List Opn := [
  ⟨(some 11), none, .mv (.t 1)⟩, 
  ⟨(some 12), none, .mv (.t 0)⟩, 
  ⟨(some 13), none, .mv (.t 5)⟩, 
  ⟨(some 14), none, .iadr (.sl 1) (.t 12) (.t 13)⟩, 
  ⟨(some 15), none, .load false 1 (.t 14)⟩, 
  ⟨(some 16), none, .call (.t 11) [(.t 15)]⟩]
def c238r5 : List Opn := [
  ⟨(some 17), none, .mv (.t 5)⟩, 
  ⟨(some 4), none, .mv (.t 17)⟩]
def c238r6 : List Opn := [
  ⟨(some 18), none, .bin .add (.t 8) (.c (.s (.d (.int .i64 1))))⟩, 
  ⟨(some 8), none, .mv (.t 18)⟩]
def c238l7 : C := .seq (.reg c238r2 none [0, 1, 7, 8, 9]) (.seq (.cond (.t 9) (.skip) (.exit 0)) (.seq (.blk 1 (.seq (.reg c238r3 none [0, 1, 5, 7, 8]) (.seq (.reg c238r4 none [0, 1, 5, 7, 8, 16]) (.cond (.t 16) (.seq (.reg c238r5 none [4]) (.ret)) (.skip))))) (.reg c238r6 none [0, 1, 7, 8])))
def c238r7 : List Opn := [
  ⟨(some 4), none, .mv (.c (.s (.d (.int .i64 (-1)))))⟩]
def c238 : C := .seq (.reg c238r0 none [0, 1]) (.seq (.seq (.reg c238r1 none [0, 1, 7, 8]) (.blk 0 (.loop c238l7))) (.seq (.reg c238r7 none [4]) (.ret)))
def k238 : List (Nat × List Nat) := [(7, [4]), (6, [0, 1, 7, 8]), (5, [4]), (4, [0, 1, 5, 7, 8, 16]), (3, [0, 1, 5, 7, 8]), (2, [0, 1, 7, 8, 9]), (1, [0, 1, 7, 8]), (0, [0, 1])]
theorem cc238 : (Tryz.f238.body).bind (cC Tryz.prog 19 k238) = some c238 := by kernel_rfl
def rv238 : List RV := [.t 4]
theorem cr238 : cRVs Tryz.prog Tryz.f238.results.toList = some rv238 := by kernel_rfl
theorem f_slices_IndexFunc_byte_byte_l7_ok (s : (List Int)) (f_f : FuncId) (f_c : List Sc) (f : Int → Option (Bool)) (f_h : ∀ (a0 : Int) (r : Bool), f a0 = some r → Fun Tryz.prog glP f_f (.b (.s (.d (.int .u8 a0))) :: f_c.map fun x => .b (.s (.d x))) (.b (.s (.d (.bool r))))) (y_ : Int) (R_ : St → Prop) (hR : (Ret Tryz.prog glP [] rv238 (.b (.s (.d (.int .i64 y_))))) = R_) : ∀ (m_ : Nat) (v8 : Int) (res_ : (Int) ⊕ (Int)) (h : f_slices_IndexFunc_byte_byte_l7 s f m_ v8 = some res_) (k_ : List It) (hx : ∀ s_ : Int, res_ = .inl s_ → W Tryz.prog glP 19 k_ ⟨lkT [(0, .b (.s (.d (.sl (s.map (eI .u8)))))), (1, .b (.s (.d (.clo f_f f_c)))), (7, .b (.s (.d (.int .i64 (s.length : Int))))), (8, .b (.s (.d (.int .i64 s_))))], lkG []⟩ R_) (hr : ∀ z_ : Int, res_ = .inr z_ → z_ = y_), W Tryz.prog glP 19 (.c c238l7 :: .lp c238l7 :: .blk 0 :: k_) ⟨lkT [(0, .b (.s (.d (.sl (s.map (eI .u8)))))), (1, .b (.s (.d (.clo f_f f_c)))), (7, .b (.s (.d (.int .i64 (s.length : Int))))), (8, .b (.s (.d (.int .i64 v8))))], lkG []⟩ R_ := by
  intro m_; induction m_ with
  | zero => intro v8 res_ h; rw [f_slices_IndexFunc_byte_byte_l7.eq_1] at h; cases h
  | succ m_ ih =>
    intro v8 res_ h k_ hx hr; rw [f_slices_IndexFunc_byte_byte_l7.eq_2] at h; refine W.cdef c238l7.eq_1 ?_
    refine .seq ?_
    refine Rw.walk ?_
    simp only [wz, wd, ws, seval, c238r2, semI.eq_10, semI.eq_11, semI.eq_3, semI.eq_5, semI.eq_7]
    refine .seq ?_
    refine .cond (p := (decide (v8 < (s.length : Int)))) (by first | rfl | simp only [wz, wd, ws, seval]) (fun h1 => ?_) (fun h1 => ?_)
    · rw [ite_t h1] at h
      refine .skip ?_
      refine .seq ?_
      refine .blk ?_
      refine .seq ?_
      refine Rw.walk ?_
      simp only [wz, wd, ws, seval, c238r3, semI.eq_10, semI.eq_11, semI.eq_3, semI.eq_5, semI.eq_7]
      refine .seq ?_
      refine Rw.walk ?_
      simp only [wz, wd, ws, seval, c238r4, semI.eq_10, semI.eq_11, semI.eq_3, semI.eq_5, semI.eq_7]
      obtain ⟨x, e1, h⟩ := Option.bind_eq_some_iff.1 h
      refine Go1.of (sem_iadr (eI_len _) e1 (by rfl) (by rfl)) ?_
      simp only [wz, wd, ws, seval, c238r4, semI.eq_10, semI.eq_11, semI.eq_3, semI.eq_5, semI.eq_7]
      obtain ⟨b, e2, h⟩ := Option.bind_eq_some_iff.1 h
      refine call_fun [] false ⟨trivial, trivial, trivial⟩ rfl ?_ (f_h _ _ e2) (fun _ => rfl) (fun i hi => by cases hi) ?_
      · simp only [wz, wd, ws, seval]
      simp only [wz, wd, ws, seval, c238r4, semI.eq_10, semI.eq_11, semI.eq_3, semI.eq_5, semI.eq_7]
      refine .cond (p := b) (by first | rfl | simp only [wz, wd, ws, seval]) (fun h1 => ?_) (fun h1 => ?_)
      · rw [ite_t h1] at h
        refine .seq ?_
        refine Rw.walk ?_
        simp only [wz, wd, ws, seval, c238r5, semI.eq_10, semI.eq_11, semI.eq_3, semI.eq_5, semI.eq_7]
        obtain rfl := Option.some.inj h; obtain rfl := hr _ rfl
        refine .ret ?_
        rw [← hR]
        simp only [wz, wd, ws, seval, rv238]
      · rw [ite_f h1] at h
        refine .skip ?_
        refine .eblk ?_
        refine Rw.walk ?_
        simp only [wz, wd, ws, seval, c238r6, semI.eq_10, semI.eq_11, semI.eq_3, semI.eq_5, semI.eq_7]
        refine .lp ?_
        refine .weak (Imp.co [] _ _ ?_ ?_ ?_ ?_ ?_) (ih (IntKind.i64.wrap (v8 + 1)) _ h k_ hx hr) <;> simp only [wz, wd, ws, seval, wi, er_nil]
    · rw [ite_f h1] at h
      refine .exit rfl ?_
      obtain rfl := Option.some.inj h
      refine .weak (Imp.co [] _ _ ?_ ?_ ?_ ?_ ?_) (hx _ rfl) <;> simp only [wz, wd, ws, seval, wi, er_nil]
theorem f_slices_IndexFunc_byte_byte_ok (s : (List Int)) (f_f : FuncId) (f_c : List Sc) (f : Int → Option (Bool)) (f_h : ∀ (a0 : Int) (r : Bool), f a0 = some r → Fun Tryz.prog glP f_f (.b (.s (.d (.int .u8 a0))) :: f_c.map fun x => .b (.s (.d x))) (.b (.s (.d (.bool r))))) (y_ : Int) (h : f_slices_IndexFunc_byte_byte s f = some y_) : Fun Tryz.prog glP 238 [.b (.s (.d (.sl (s.map (eI .u8))))), .b (.s (.d (.clo f_f f_c)))] (.b (.s (.d (.int .i64 y_)))) := by
  refine fun_walk [] Tryz.func238 Tryz.ntmps238 cc238 cr238 (by kernel_rfl) (by simp only [List.length_cons, List.length_nil]; decide) ?_
  generalize hR : Ret _ _ _ _ _ = R_
  simp only [wz, wd, ws, seval]
  unfold f_slices_IndexFunc_byte_byte at h; unfold c238
  refine .seq ?_
  refine Rw.walk ?_
  simp only [wz, wd, ws, seval, c238r0, semI.eq_10, semI.eq_11, semI.eq_3, semI.eq_5, semI.eq_7]
  refine .seq ?_
  refine .seq ?_
  refine Rw.walk ?_
  simp only [wz, wd, ws, seval, c238r1, semI.eq_10, semI.eq_11, semI.eq_3, semI.eq_5, semI.eq_7]
  refine .blk ?_
  obtain ⟨s2, hf, h⟩ := Option.bind_eq_some_iff.1 h
  refine .loop (.weak (Imp.co [] _ _ ?c1 ?c2 ?c3 ?c4 ?c5) (f_slices_IndexFunc_byte_byte_l7_ok s f_f f_c f f_h _ _ hR _ _ _ hf _ ?_ ?_))
  case c1 | c2 | c3 | c4 | c5 => simp only [wz, wd, ws, seval, wi, er_nil]
  · intro s3 hs; subst hs; dsimp only at h
    refine .seq ?_
    refine Rw.walk ?_
    simp only [wz, wd, ws, seval, c238r7, semI.eq_10, semI.eq_11, semI.eq_3, semI.eq_5, semI.eq_7]
    obtain rfl := Option.some.inj h
    refine .ret ?_
    rw [← hR]
    simp only [wz, wd, ws, seval, rv238]
  · intro z hz; subst hz; dsimp only at h
    exact Option.some.inj h
-- 217 slices.ContainsFunc[[]byte,byte]
def c217r0 : List Opn := [
  ⟨(some 4), none, .mv (.c (.s (.d (.bool false))))⟩]
def c217r1 : List Opn := [
  ⟨(some 5), none, .mv (.t 0)⟩, 
  ⟨(some 6), none, .mv (.t 1)⟩, 
  ⟨(some 7), none, .call (.fn 238) [(.t 5), (.t 6)]⟩, 
  ⟨(some 8), none, .bin .geq (.t 7) (.c (.s (.d (.int .i64 0))))⟩, 
  ⟨(some 4), none, .mv (.t 8)⟩]
def c217 : C := .seq (.reg c217r0 none [0, 1]) (.seq (.reg c217r1 none [4]) (.ret))
def k217 : List (Nat × List Nat) := [(1, [4]), (0, [0, 1])]
theorem cc217 : (Tryz.f217.body).bind (cC Tryz.prog 9 k217) = some c217 := by kernel_rfl
def rv217 : List RV := [.t 4]
theorem cr217 : cRVs Tryz.prog Tryz.f217.results.toList = some rv217 := by kernel_rfl
theorem f_slices_ContainsFunc_byte_byte_ok (s : (List Int)) (f_f : FuncId) (f_c : List Sc) (f : Int → Option (Bool)) (f_h : ∀ (a0 : Int) (r : Bool), f a0 = some r → Fun Tryz.prog glP f_f (.b (.s (.d (.int .u8 a0))) :: f_c.map fun x => .b (.s (.d x))) (.b (.s (.d (.bool r))))) (y_ : Bool) (h : f_slices_ContainsFunc_byte_byte s f = some y_) : Fun Tryz.prog glP 217 [.b (.s (.d (.sl (s.map (eI .u8))))), .b (.s (.d (.clo f_f f_c)))] (.b (.s (.d (.bool y_)))) := by
  refine fun_walk [] Tryz.func217 Tryz.ntmps217 cc217 cr217 (by kernel_rfl) (by simp only [List.length_cons, List.length_nil]; decide) ?_
  generalize hR : Ret _ _ _ _ _ = R_
  simp only [wz, wd, ws, seval]
  unfold f_slices_ContainsFunc_byte_byte at h; unfold c217
  refine .seq ?_
  refine Rw.walk ?_
  simp only [wz, wd, ws, seval, c217r0, semI.eq_10, semI.eq_11, semI.eq_3, semI.eq_5, semI.eq_7]
  refine .seq ?_
  refine Rw.walk ?_
  simp only [wz, wd, ws, seval, c217r1, semI.eq_10, semI.eq_11, semI.eq_3, semI.eq_5, semI.eq_7]
  obtain ⟨t, e1, h⟩ := Option.bind_eq_some_iff.1 h
  refine call_fun [] false ⟨trivial, trivial, trivial, trivial⟩ rfl ?_ (f_slices_IndexFunc_byte_byte_ok _ f_f f_c f f_h _ e1) (fun _ => rfl) (fun i hi => by cases hi) ?_
  · simp only [wz, wd, ws, seval]
  simp only [wz, wd, ws, seval, c217r1, semI.eq_10, semI.eq_11, semI.eq_3, semI.eq_5, semI.eq_7]
  obtain rfl := Option.some.inj h
  refine .ret ?_
  rw [← hR]
  simp only [wz, wd, ws, seval, rv217]
-- 218 consignor/glob.pieces$1
def c218r0 : List Opn := [
  ⟨(some 2), none, .mv (.c (.s (.d (.bool false))))⟩]
def c218r1 : List Opn := [
  ⟨(some 3), none, .mv (.t 0)⟩, 
  ⟨(some 4), none, .bin .lss (.t 3) (.c (.s (.d (.int .u8 33))))⟩, 
  ⟨(some 5), none, .mv (.t 4)⟩, 
  ⟨(some 6), some (5, false), .mv (.t 0)⟩, 
  ⟨(some 7), some (5, false), .bin .gtr (.t 6) (.c (.s (.d (.int .u8 126))))⟩, 
  ⟨(some 8), none, .pick (.t 5) (.c (.s (.d (.bool true)))) (.t 7)⟩, 
  ⟨(some 2), none, .mv (.t 8)⟩]
def c218 : C := .seq (.reg c218r0 none [0]) (.seq (.reg c218r1 none [2]) (.ret))
def k218 : List (Nat × List Nat) := [(1, [2]), (0, [0])]
theorem cc218 : (Tryz.f218.body).bind (cC Tryz.prog 9 k218) = some c218 := by kernel_rfl
def rv218 : List RV := [.t 2]
theorem cr218 : cRVs Tryz.prog Tryz.f218.results.toList = some rv218 := by kernel_rfl
theorem f_glob_pieces_1_ok (c : Int) (y_ : Bool) (h : f_glob_pieces_1 c = some y_) : Fun Tryz.prog glP 218 [.b (.s (.d (.int .u8 c)))] (.b (.s (.d (.bool y_)))) := by
  refine fun_walk [] Tryz.func218 Tryz.ntmps218 cc218 cr218 (by kernel_rfl) (by simp only [List.length_cons, List.length_nil]; decide) ?_
  generalize hR : Ret _ _ _ _ _ = R_
  simp only [wz, wd, ws, seval]
  unfold f_glob_pieces_1 at h; unfold c218
  refine .seq ?_
  refine Rw.walk ?_
  simp only [wz, wd, ws, seval, c218r0, semI.eq_10, semI.eq_11, semI.eq_3, semI.eq_5, semI.eq_7]
  refine .seq ?_
  refine Rw.walk ?_
  simp only [wz, wd, ws, seval, c218r1, semI.eq_10, semI.eq_11, semI.eq_3, semI.eq_5, semI.eq_7]
  repeat (refine And.intro ?_ ?_; · first | omega | (simp only [List.length_append, List.length_cons, List.length_nil] at *; omega) | (simp only [List.map_cons, List.map_nil] at *; omega) | (intro q; simp only [wz, wd, ws, seval, q]; done))
  obtain rfl := Option.some.inj h
  refine .ret ?_
  rw [← hR]
  simp only [wz, wd, ws, seval, rv218]
-- 224 internal/stringslite.HasPrefix
def c224r0 : List Opn := [
  ⟨(some 4), none, .mv (.c (.s (.d (.bool false))))⟩]
def c224r1 : List Opn := [
  ⟨(some 5), none, .mv (.t 0)⟩, 
  ⟨(some 6), none, .len .str (.t 5)⟩, 
  ⟨(some 7), none, .mv (.t 1)⟩, 
  ⟨(some 8), none, .len .str (.t 7)⟩, 
  ⟨(some 9), none, .bin .geq (.t 6) (.t 8)⟩, 
  ⟨(some 10), none, .mv (.t 9)⟩, 
  ⟨(some 11), some (10, true), .mv (.t 0)⟩, 
  ⟨(some 12), some (10, true), .mv (.t 1)⟩, 
  ⟨(some 13), some (10, true), .len .str (.t 12)⟩, 
  ⟨(some 14), some (10, true), .slc .str (.t 11) none (some (.t 13)) none⟩, 
  ⟨(some 15), some (10, true), .mv (.t 1)⟩, 
  ⟨(some 16), some (10, true), .bin .eql (.t 14) (.t 15)⟩, 
  ⟨(some 17), none, .pick (.t 10) (.t 16) (.c (.s (.d (.bool false))))⟩, 
  ⟨(some 4), none, .mv (.t 17)⟩]
def c224 : C := .seq (.reg c224r0 none [0, 1]) (.seq (.reg c224r1 none [4]) (.ret))
def k224 : List (Nat × List Nat) := [(1, [4]), (0, [0, 1])]
theorem cc224 : (Tryz.f224.body).bind (cC Tryz.prog 18 k224) = some c224 := by kernel_rfl
def rv224 : List RV := [.t 4]
theorem cr224 : cRVs Tryz.prog Tryz.f224.results.toList = some rv224 := by kernel_rfl
theorem f_internal_stringslite_HasPrefix_ok (s : Str) (prefixv : Str) (y_ : Bool) (h : f_internal_stringslite_HasPrefix s prefixv = some y_) : Fun Tryz.prog glP 224 [.b (.s (.d (.str s))), .b (.s (.d (.str prefixv)))] (.b (.s (.d (.bool y_)))) := by
  refine fun_walk [] Tryz.func224 Tryz.ntmps224 cc224 cr224 (by kernel_rfl) (by simp only [List.length_cons, List.length_nil]; decide) ?_
  generalize hR : Ret _ _ _ _ _ = R_
  simp only [wz, wd, ws, seval]
  unfold f_internal_stringslite_HasPrefix at h; unfold c224
  refine .seq ?_
  refine Rw.walk ?_
  simp only [wz, wd, ws, seval, c224r0, semI.eq_10, semI.eq_11, semI.eq_3, semI.eq_5, semI.eq_7]
  refine .seq ?_
  refine Rw.walk ?_
  obtain ⟨g1, h⟩ := gd_iff.1 h
  simp only [wz, wd, ws, seval, c224r1, semI.eq_10, semI.eq_11, semI.eq_3, semI.eq_5, semI.eq_7]
  repeat (refine And.intro ?_ ?_; · first | omega | exact g1 | (intro q; first | omega | (have q2 := g1 (by simpa using q); omega) | (have q2 := g1 q; omega) | (have q2 := g1 (by rw [q]; rfl); omega) | (have q2 := g1 (by simpa using q); simp only [List.length_append, List.length_cons, List.length_nil] at q2 ⊢; omega)) | (simp only [List.length_append, List.length_cons, List.length_nil] at *; omega) | (simp only [List.map_cons, List.map_nil] at *; omega) | (intro q; simp only [wz, wd, ws, seval, q]; done))
  obtain rfl := Option.some.inj h
  refine .ret ?_
  rw [← hR]
  simp only [wz, wd, ws, seval, rv224]
-- 219 strings.HasPrefix
def c219r0 : List Opn := [
  ⟨(some 4), none, .mv (.c (.s (.d (.bool false))))⟩]
def c219r1 : List Opn := [
  ⟨(some 5), none, .mv (.t 0)⟩, 
  ⟨(some 6), none, .mv (.t 1)⟩, 
  ⟨(some 7), none, .call (.fn 224) [(.t 5), (.t 6)]⟩, 
  ⟨(some 4), none, .mv (.t 7)⟩]
def c219 : C := .seq (.reg c219r0 none [0, 1]) (.seq (.reg c219r1 none [4]) (.ret))
def k219 : List (Nat × List Nat) := [(1, [4]), (0, [0, 1])]
theorem cc219 : (Tryz.f219.body).bind (cC Tryz.prog 8 k219) = some c219 := by kernel_rfl
def rv219 : List RV := [.t 4]
theorem cr219 : cRVs Tryz.prog Tryz.f219.results.toList = some rv219 := by kernel_rfl
theorem f_strings_HasPrefix_ok (s : Str) (prefixv : Str) (y_ : Bool) (h : f_strings_HasPrefix s prefixv = some y_) : Fun Tryz.prog glP 219 [.b (.s (.d (.str s))), .b (.s (.d (.str prefixv)))] (.b (.s (.d (.bool y_)))) := by
  refine fun_walk [] Tryz.func219 Tryz.ntmps219 cc219 cr219 (by kernel_rfl) (by simp only [List.length_cons, List.length_nil]; decide) ?_
  generalize hR : Ret _ _ _ _ _ = R_
  simp only [wz, wd, ws, seval]
  unfold f_strings_HasPrefix at h; unfold c219
  refine .seq ?_
  refine Rw.walk ?_
  simp only [wz, wd, ws, seval, c219r0, semI.eq_10, semI.eq_11, semI.eq_3, semI.eq_5, semI.eq_7]
  refine .seq ?_
  refine Rw.walk ?_
  simp only [wz, wd, ws, seval, c219r1, semI.eq_10, semI.eq_11, semI.eq_3, semI.eq_5, semI.eq_7]
  obtain ⟨t, e1, h⟩ := Option.bind_eq_some_iff.1 h
  refine call_fun [] false ⟨trivial, trivial, trivial, trivial⟩ rfl ?_ (f_internal_stringslite_HasPrefix_ok _ _ _ e1) (fun _ => rfl) (fun i hi => by cases hi) ?_
  · simp only [wz, wd, ws, seval]
  simp only [wz, wd, ws, seval, c219r1, semI.eq_10, semI.eq_11, semI.eq_3, semI.eq_5, semI.eq_7]
  obtain rfl := Option.some.inj h
  refine .ret ?_
  rw [← hR]
  simp only [wz, wd, ws, seval, rv219]
-- 220 strings.Contains
def c220r0 : List Opn := [
  ⟨(some 4), none, .mv (.c (.s (.d (.bool false))))⟩]
def c220r1 : List Opn := [
  ⟨(some 5), none, .mv (.t 0)⟩, 
  ⟨(some 6), none, .mv (.t 1)⟩, 
  ⟨(some 7), none, .call (.fn 196) [(.t 5), (.t 6)]⟩, 
  ⟨(some 8), none, .bin .geq (.t 7) (.c (.s (.d (.int .i64 0))))⟩, 
  ⟨(some 4), none, .mv (.t 8)⟩]
def c220 : C := .seq (.reg c220r0 none [0, 1]) (.seq (.reg c220r1 none [4]) (.ret))
def k220 : List (Nat × List Nat) := [(1, [4]), (0, [0, 1])]
theorem cc220 : (Tryz.f220.body).bind (cC Tryz.prog 9 k220) = some c220 := by kernel_rfl
def rv220 : List RV := [.t 4]
theorem cr220 : cRVs Tryz.prog Tryz.f220.results.toList = some rv220 := by kernel_rfl
theorem f_strings_Contains_ok (s : Str) (substr : Str) (y_ : Bool) (h : f_strings_Contains s substr = some y_) : Fun Tryz.prog glP 220 [.b (.s (.d (.str s))), .b (.s (.d (.str substr)))] (.b (.s (.d (.bool y_)))) := by
  refine fun_walk [] Tryz.func220 Tryz.ntmps220 cc220 cr220 (by kernel_rfl) (by simp only [List.length_cons, List.length_nil]; decide) ?_
  generalize hR : Ret _ _ _ _ _ = R_
  simp only [wz, wd, ws, seval]
  unfold f_strings_Contains at h; unfold c220
  refine .seq ?_
  refine Rw.walk ?_
  simp only [wz, wd, ws, seval, c220r0, semI.eq_10, semI.eq_11, semI.eq_3, semI.eq_5, semI.eq_7]
  refine .seq ?_
  refine Rw.walk ?_
  simp only [wz, wd, ws, seval, c220r1, semI.eq_10, semI.eq_11, semI.eq_3, semI.eq_5, semI.eq_7]
  obtain ⟨t, e1, h⟩ := Option.bind_eq_some_iff.1 h
  refine call_fun [] false ⟨trivial, trivial, trivial, trivial⟩ rfl ?_ (f_strings_Index_ok _ _ _ e1) (fun _ => rfl) (fun i hi => by cases hi) ?_
  · simp only [wz, wd, ws, seval]
  simp only [wz, wd, ws, seval, c220r1, semI.eq_10, semI.eq_11, semI.eq_3, semI.eq_5, semI.eq_7]
  obtain rfl := Option.some.inj h
  refine .ret ?_
  rw [← hR]
  simp only [wz, wd, ws, seval, rv220]
end Go.Proofs.YtedibjgdangfnaaGreatDoor.V
end
