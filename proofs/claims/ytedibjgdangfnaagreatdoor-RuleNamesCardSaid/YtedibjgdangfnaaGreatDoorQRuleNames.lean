/- The row of the law RuleNames: for every input that the row speaks of the law returns true; each argument reads behind the call as it read before. -/
import Derived.Test.YtedibjgdangfnaaGreatDoorQRuleNamesE
import Derived.Test.YtedibjgdangfnaaGreatDoorQRuleNamesB
import Derived.Lib.Bytealg
import Derived.Test.YtedibjgdangfnaaGreatDoorQRuleNamesC
import Derived.Laws.BytesArg
import Derived.Below
import Derived.Lib.Join
import Derived.OwnWalk
import Derived.Orders
import Derived.WalkKit
import Derived.Laws.Slices
import Derived.LaidMore
import Derived.FnData
import Derived.Test.YtedibjgdangfnaaGreatDoorRows
import Derived.Test.YtedibjgdangfnaaGreatDoorTie
import Derived.Test.YtedibjgdangfnaaGreatDoorCards
import Derived.ProofKit
import Derived.OpenShut
import Derived.ShutString
import Derived.ChangeOld
import Derived.SizedLaws
import Derived.SliceStrings
import Derived.Carry
import Derived.KernelRfl
import Derived.Stop.Joined
import Derived.SevenTiedAt
import Derived.Test.YtedibjgdangfnaaGreatDoorWSized
section
/- CronEvery, CronDays. -/
namespace Go.Proofs.YtedibjgdangfnaaGreatDoor.V.M
set_option linter.unusedVariables false
set_option linter.unusedSimpArgs false
open Go Go.RowKit
def cAll : api_Cron := ⟨1152921504606846975, 16777215, 4294967294, 8190, 127, true, true⟩
def cMin (k : Nat) : api_Cron := ⟨((2 ^ k : Nat) : Int), 16777215, 4294967294, 8190, 127, true, true⟩
def cDay (k : Nat) : api_Cron := ⟨1152921504606846975, 16777215, 4294967294, 8190, ((2 ^ k : Nat) : Int), true, false⟩
theorem parse_all : f_cron_Parse ([42, 32, 42, 32, 42, 32, 42, 32, 42] : Str) = some (cAll, 0) := by kernel_rfl
def mIx (m : Int) : Int := (if 1 < (if (IntKind.i64.wrap (10 - m)) < 0 then 0 else (IntKind.i64.wrap (10 - m))) then 1 else (if (IntKind.i64.wrap (10 - m)) < 0 then 0 else (IntKind.i64.wrap (10 - m))))
def mTx (m : Int) : Str := cut (([(IntKind.u8.wrap (IntKind.i64.wrap (48 + (IntKind.i64.wrap (m.tdiv 10))))), (IntKind.u8.wrap (IntKind.i64.wrap (48 + (m.tmod 10))))] : List Int).map nb) (mIx m) 2
theorem parse_min (k : Nat) (h : k < 60) : (0 ≤ mIx (k : Int) ∧ mIx (k : Int) ≤ 2) ∧ (mTx (k : Int)).length + 8 ≤ 9223372036854775807 ∧ f_cron_Parse (mTx (k : Int) ++ ([32, 42, 32, 42, 32, 42, 32, 42] : Str)) = some (cMin k, 0) := by
  have h1 : (List.range 60).all (fun k => decide ((0 ≤ mIx (k : Int) ∧ mIx (k : Int) ≤ 2) ∧ (mTx (k : Int)).length + 8 ≤ 9223372036854775807 ∧ f_cron_Parse (mTx (k : Int) ++ ([32, 42, 32, 42, 32, 42, 32, 42] : Str)) = some (cMin k, 0))) = true := by kernel_rfl
  exact of_decide_eq_true (List.all_eq_true.1 h1 k (List.mem_range.2 h))
theorem parse_day (k : Nat) (h : k < 7) : f_cron_Parse (([42, 32, 42, 32, 42, 32, 42, 32] : Str) ++ (([(IntKind.u8.wrap (IntKind.i64.wrap (48 + (k : Int))))] : List Int).map nb)) = some (cDay k, 0) := by
  have h1 : (List.range 7).all (fun k => decide (f_cron_Parse (([42, 32, 42, 32, 42, 32, 42, 32] : Str) ++ (([(IntKind.u8.wrap (IntKind.i64.wrap (48 + (k : Int))))] : List Int).map nb)) = some (cDay k, 0))) = true := by kernel_rfl
  exact of_decide_eq_true (List.all_eq_true.1 h1 k (List.mem_range.2 h))
theorem bit_one (k j : Nat) (hk : k < 60) (hj : j < 60) : bitB ((2 ^ k : Nat) : Int) (j : Int) = decide (j = k) := by
  have h1 : (List.range 60).all (fun k => (List.range 60).all fun j => bitB ((2 ^ k : Nat) : Int) (j : Int) == decide (j = k)) = true := by kernel_rfl
  exact beq_iff_eq.1 (List.all_eq_true.1 (List.all_eq_true.1 h1 k (List.mem_range.2 hk)) j (List.mem_range.2 hj))
theorem bit_min (j : Nat) (hj : j < 60) : bitB 1152921504606846975 (j : Int) = true := by
  have h1 : (List.range 60).all (fun j => bitB 1152921504606846975 (j : Int)) = true := by kernel_rfl
  exact List.all_eq_true.1 h1 j (List.mem_range.2 hj)
theorem bit_hour (j : Nat) (hj : j < 24) : bitB 16777215 (j : Int) = true := by
  have h1 : (List.range 24).all (fun j => bitB 16777215 (j : Int)) = true := by kernel_rfl
  exact List.all_eq_true.1 h1 j (List.mem_range.2 hj)
theorem bit_month (j : Nat) (hj : j < 12) : bitB 8190 ((j : Int) + 1) = true := by
  have h1 : (List.range 12).all (fun j => bitB 8190 ((j : Int) + 1)) = true := by kernel_rfl
  exact List.all_eq_true.1 h1 j (List.mem_range.2 hj)
theorem clk_is (t : Int) (h0 : 0 ≤ t) (h1 : t ≤ 1099511627776) : ∃ (D : Int) (q : Nat) (Y : Int), clk t = ⟨t % 60, t % 1440 / 60, D, (q : Int) + 1, Y, (t / 1440 + 4) % 7⟩ ∧
    q < 12 ∧ 1 ≤ D ∧ D ≤ dOf ((q : Int) + 1) Y ∧ 1970 ≤ Y ∧ Y ≤ 3000000 ∧ t / 1440 + 719527 = dB Y + cumD Y q + D - 1 := by
  obtain ⟨D, q, Y, e, k⟩ := At_ok t h0 h1
  refine ⟨D, q, Y, ?_, k⟩
  unfold clk
  rw [e]
theorem fires_all (t : Int) (h0 : 0 ≤ t) (h1 : t ≤ 1099511627776) : firesT cAll t = true := by
  obtain ⟨D, q, Y, e, k1, k⟩ := clk_is t h0 h1
  obtain ⟨a, ha⟩ := Int.eq_ofNat_of_zero_le (by omega : 0 ≤ t % 60)
  obtain ⟨b, hb⟩ := Int.eq_ofNat_of_zero_le (by omega : 0 ≤ t % 1440 / 60)
  unfold firesT firesB
  rw [e]
  show (bitB 1152921504606846975 (t % 60) && bitB 16777215 (t % 1440 / 60) && bitB 8190 ((q : Int) + 1) && true) = true
  rw [ha, hb, bit_min a (by omega), bit_hour b (by omega), bit_month q k1]
  rfl
theorem fires_min (k : Nat) (hk : k < 60) (t : Int) (h0 : 0 ≤ t) (h1 : t ≤ 1099511627776) : firesT (cMin k) t = decide (t % 60 = k) := by
  obtain ⟨D, q, Y, e, k1, k2⟩ := clk_is t h0 h1
  obtain ⟨a, ha⟩ := Int.eq_ofNat_of_zero_le (by omega : 0 ≤ t % 60)
  obtain ⟨b, hb⟩ := Int.eq_ofNat_of_zero_le (by omega : 0 ≤ t % 1440 / 60)
  unfold firesT firesB
  rw [e]
  show (bitB ((2 ^ k : Nat) : Int) (t % 60) && bitB 16777215 (t % 1440 / 60) && bitB 8190 ((q : Int) + 1) && true) = _
  rw [ha, hb, bit_one k a hk (by omega), bit_hour b (by omega), bit_month q k1]
  simp; omega
theorem fires_day (k : Nat) (hk : k < 7) (t : Int) (h0 : 0 ≤ t) (h1 : t ≤ 1099511627776) : firesT (cDay k) t = decide ((t / 1440 + 4) % 7 = k) := by
  obtain ⟨D, q, Y, e, k1, k2⟩ := clk_is t h0 h1
  obtain ⟨a, ha⟩ := Int.eq_ofNat_of_zero_le (by omega : 0 ≤ t % 60)
  obtain ⟨b, hb⟩ := Int.eq_ofNat_of_zero_le (by omega : 0 ≤ t % 1440 / 60)
  obtain ⟨c, hc⟩ := Int.eq_ofNat_of_zero_le (by omega : 0 ≤ (t / 1440 + 4) % 7)
  unfold firesT firesB
  rw [e]
  show (bitB 1152921504606846975 (t % 60) && bitB 16777215 (t % 1440 / 60) && bitB 8190 ((q : Int) + 1) && bitB ((2 ^ k : Nat) : Int) ((t / 1440 + 4) % 7)) = _
  rw [ha, hb, hc, bit_min a (by omega), bit_one k c (by omega) (by omega), bit_hour b (by omega), bit_month q k1]
  simp; omega
theorem CW_all : CW cAll := by unfold CW cAll; dsimp only; omega
theorem CW_min (k : Nat) (hk : k < 60) : CW (cMin k) := by
  have h : 2 ^ k ≤ 2 ^ 60 := Nat.pow_le_pow_right (by omega) (by omega)
  have h2 : (2 : Nat) ^ 60 = 1152921504606846976 := rfl
  unfold CW cMin
  generalize 2 ^ k = z at h ⊢
  dsimp only; omega
theorem CW_day (k : Nat) (hk : k < 7) : CW (cDay k) := by
  have h : 2 ^ k ≤ 2 ^ 60 := Nat.pow_le_pow_right (by omega) (by omega)
  have h2 : (2 : Nat) ^ 60 = 1152921504606846976 := rfl
  unfold CW cDay
  generalize 2 ^ k = z at h ⊢
  dsimp only; omega
/-- Days ahead of a month, months counted from year 0 on. -/
def pM (k : Nat) : Int := dB ((k / 12 : Nat) : Int) + cumD ((k / 12 : Nat) : Int) (k % 12)
theorem pM_succ (k : Nat) (h : 12 ≤ k) : pM (k + 1) = pM k + dOf (((k % 12 : Nat) : Int) + 1) ((k / 12 : Nat) : Int) := by
  unfold pM
  by_cases h1 : k % 12 = 11
  · rw [show (k + 1) / 12 = k / 12 + 1 by omega, show (k + 1) % 12 = 0 by omega, show (((k / 12 + 1 : Nat)) : Int) = ((k / 12 : Nat) : Int) + 1 from rfl, dB_succ (by omega), ← cumD_year, h1]
    show _ + (cumD _ 11 + dOf ((11 : Nat) + 1 : Int) _) + 0 = _
    omega
  · rw [show (k + 1) / 12 = k / 12 by omega, show (k + 1) % 12 = k % 12 + 1 by omega]
    show _ + (cumD _ (k % 12) + dOf _ _) = _
    omega
theorem pM_mono (a : Nat) (ha : 12 ≤ a) : ∀ j : Nat, pM a ≤ pM (a + j)
  | 0 => Int.le_refl _
  | j + 1 => by
    have h1 := pM_mono a ha j
    have h2 := pM_succ (a + j) (by omega)
    have h3 := dOf_b ((((a + j) % 12 : Nat) : Int) + 1) (((a + j) / 12 : Nat) : Int)
    rw [show a + (j + 1) = a + j + 1 by omega]
    omega
theorem pM_le {a b : Nat} (ha : 12 ≤ a) (h : a ≤ b) : pM a ≤ pM b := by
  have := pM_mono a ha (b - a)
  rw [show a + (b - a) = b by omega] at this
  exact this
theorem clk_month (t : Int) (h0 : 0 ≤ t) (h1 : t ≤ 1099511627776) : ∃ k : Nat, 12 ≤ k ∧ t / 1440 + 719527 = pM k + (clk t).Day - 1 ∧ 1 ≤ (clk t).Day ∧ pM k + (clk t).Day - 1 < pM (k + 1) := by
  obtain ⟨D, q, Y, e, k1, k2, k3, k4, k5, k6⟩ := clk_is t h0 h1
  obtain ⟨y, rfl⟩ := Int.eq_ofNat_of_zero_le (by omega : 0 ≤ Y)
  have hp : pM (12 * y + q) = dB (y : Int) + cumD (y : Int) q := by
    unfold pM
    rw [show (12 * y + q) / 12 = y by omega, show (12 * y + q) % 12 = q by omega]
  have hs := pM_succ (12 * y + q) (by omega)
  rw [show (12 * y + q) / 12 = y by omega, show (12 * y + q) % 12 = q by omega] at hs
  refine ⟨12 * y + q, by omega, ?_, ?_, ?_⟩ <;> rw [e] <;> dsimp only <;> omega
theorem day_next (t : Int) (h0 : 0 ≤ t) (h1 : t + 1440 ≤ 1099511627776) : (clk (t + 1440)).Day = (clk t).Day + 1 ∨ (clk (t + 1440)).Day = 1 := by
  obtain ⟨a, a0, a1, a2, a3⟩ := clk_month t h0 (by omega)
  obtain ⟨b, b0, b1, b2, b3⟩ := clk_month (t + 1440) (by omega) h1
  have hd : (t + 1440) / 1440 = t / 1440 + 1 := by omega
  rw [hd] at b1
  rcases Nat.lt_trichotomy b a with h | h | h
  · have := pM_le (a := b + 1) (b := a) (by omega) (by omega)
    omega
  · subst h; left; omega
  · right
    have h2 := pM_le (a := a + 1) (b := b) (by omega) (by omega)
    omega
end Go.Proofs.YtedibjgdangfnaaGreatDoor.V.M
end

section
/- Texts that are cut and parted, as Cron's need them (the words of GA and NC, without what these lean on). -/
namespace Go.Proofs.YtedibjgdangfnaaGreatDoor.V.M.Cr
set_option linter.unusedVariables false
set_option linter.unusedSimpArgs false
open Go Go.RowKit Go.Proofs.YtedibjgdangfnaaGreatDoor.V.M
theorem wG_nat {n : Nat} (h : n < 9223372036854775808) : IntKind.i64.wrap (n : Int) = n := w_i64 (by omega) (by omega)
theorem wG_s {n : Nat} (h : n + 1 < 9223372036854775808) : IntKind.i64.wrap ((n : Int) + 1) = ((n + 1 : Nat) : Int) := by rw [w_i64 (by omega) (by omega)]; rfl
theorem index_ok (s : Str) (c : UInt8) : f_strings_Index s [c] = some (Lib.indexByte s c) := rfl
theorem indexByte_mem (s : Str) (c : UInt8) : 0 ≤ Lib.indexByte s c ↔ c ∈ s := by
  induction s with
  | nil => simp [Lib.indexByte]
  | cons x l ih =>
    have g := Lib.indexByte_ge l c
    unfold Lib.indexByte
    by_cases hx : x = c
    · subst hx; simp
    · rw [if_neg (by simpa using hx)]
      by_cases h1 : Lib.indexByte l c = -1
      · rw [if_pos (by simpa using h1)]
        have : ¬ c ∈ l := by rw [← ih]; omega
        simp [this]; exact fun h => hx h.symm
      · rw [if_neg (by simpa using h1)]
        have : c ∈ l := by rw [← ih]; omega
        simp [this]; omega
theorem indexByte_at {s : Str} {c : UInt8} (h : 0 ≤ Lib.indexByte s c) : ∃ i : Nat, Lib.indexByte s c = i ∧ i < s.length ∧ s = s.take i ++ c :: s.drop (i + 1) ∧ c ∉ s.take i := by
  induction s with
  | nil => exact absurd h (by simp [Lib.indexByte])
  | cons x l ih =>
    have g := Lib.indexByte_ge l c
    unfold Lib.indexByte at h ⊢
    by_cases hx : x = c
    · subst hx; exact ⟨0, by simp, by simp, by simp, by simp⟩
    · rw [if_neg (by simpa using hx)] at h ⊢
      by_cases h1 : Lib.indexByte l c = -1
      · rw [if_pos (by simpa using h1)] at h; exact absurd h (by decide)
      · rw [if_neg (by simpa using h1)] at h ⊢
        obtain ⟨i, e1, e2, e3, e4⟩ := ih (by omega)
        refine ⟨i + 1, by omega, by simp; omega, ?_, ?_⟩
        · rw [List.take_succ_cons, List.drop_succ_cons, List.cons_append, ← e3]
        · rw [List.take_succ_cons, List.mem_cons]; rintro (h2 | h2); exact hx h2.symm; exact e4 h2
def cutS (s : Str) (c : UInt8) : Str × Str × Bool := if 0 ≤ Lib.indexByte s c then (s.take (Lib.indexByte s c).toNat, s.drop ((Lib.indexByte s c).toNat + 1), true) else (s, [], false)
theorem cut_ok (s : Str) (c : UInt8) (hs : s.length < 4611686018427387904) : f_strings_Cut s [c] = some (cutS s c) := by
  unfold f_strings_Cut f_internal_stringslite_Cut cutS
  rw [show f_internal_stringslite_Index s [c] = some (Lib.indexByte s c) from rfl, Option.bind_some]
  by_cases h : 0 ≤ Lib.indexByte s c
  · obtain ⟨i, e1, e2, e3, _⟩ := indexByte_at h
    rw [if_pos h, e1, if_pos (by simp), gd_t _ (by omega)]
    have w : IntKind.i64.wrap ((i : Int) + (([c] : Str).length : Int)) = ((i + 1 : Nat) : Int) := wG_s (by omega)
    rw [w, gd_t _ (by omega), cut_zero, cut_all, Int.toNat_natCast]; rfl
  · rw [if_neg h, if_neg (by simpa using h)]; rfl
theorem count_split (c : UInt8) : ∀ s : Str, (splitOnB c s).length = s.count c + 1
  | [] => rfl
  | x :: l => by
    unfold splitOnB
    by_cases hx : x = c
    · subst hx; rw [if_pos rfl, List.length_cons, count_split x l, List.count_cons_self]
    · rw [if_neg hx, List.count_cons_of_ne hx, ← count_split c l]
      have := splitOnB_ne c l
      split
      · rename_i h t e; rw [e]; rfl
      · rename_i e; exact absurd e this
theorem split17_ok (s0 : Str) (c : UInt8) (n2 : Int) (N : Nat) (hn : n2 = ((N + 1 : Nat) : Int)) (hN : N < 1000000) (k : Nat) : ∀ (i m : Nat) (s : Str) (a : List Str), i + k = N → k < m → s.count c = k → s.length ≤ 1000000 → a.length = N + 1 →
    ∃ s3 a2, f_strings_genSplit_l17 s0 [c] 0 n2 m s (i : Int) a = some (s3, (N : Int), a2) ∧ a2.length = N + 1 ∧ a.take i ++ splitOnB c s = a2.take N ++ [s3] := by
  subst hn
  induction k with
  | zero =>
    intro i m s a hi hm hc hs ha
    obtain ⟨m, rfl⟩ : ∃ k, m = k + 1 := ⟨m - 1, by omega⟩
    rw [f_strings_genSplit_l17, w_i64 (n := (((N + 1 : Nat) : Int) - 1)) (by omega) (by omega), if_neg (by simp; omega)]
    refine ⟨s, a, by rw [show i = N by omega], ha, ?_⟩
    have hneg : Lib.indexByte s c < 0 := by
      rw [← Int.not_le, indexByte_mem]
      exact List.count_eq_zero.mp hc
    rw [splitOnB_none hneg, show i = N by omega]
  | succ k ih =>
    intro i m s a hi hm hc hs ha
    obtain ⟨m, rfl⟩ : ∃ k, m = k + 1 := ⟨m - 1, by omega⟩
    have hpos : 0 ≤ Lib.indexByte s c := by
      rw [indexByte_mem, ← List.count_pos_iff]; omega
    obtain ⟨j, e1, e2, e3⟩ := splitOnB_some (c := c) (s := s) (by omega)
    have hcount : (s.drop (j + 1)).count c = k := by
      have h2 := count_split c s
      rw [e3, List.length_cons, count_split] at h2
      omega
    have w1 : IntKind.i64.wrap ((j : Int) + 0) = (j : Int) := by rw [Int.add_zero, wG_nat (by omega)]
    have w2 : IntKind.i64.wrap ((j : Int) + (([c] : Str).length : Int)) = ((j + 1 : Nat) : Int) := wG_s (by omega)
    rw [f_strings_genSplit_l17, w_i64 (n := (((N + 1 : Nat) : Int) - 1)) (by omega) (by omega), if_pos (by simp; omega), index_ok, Option.bind_some, e1, if_neg (by simp), w1, w2, gd_t _ (by omega), ix_nat, List.getElem?_eq_getElem (by omega), Option.bind_some, gd_t _ (by omega), cut_zero, cut_all, wG_s (by omega), Int.toNat_natCast]
    obtain ⟨s3, a2, q1, q2, q3⟩ := ih (i + 1) m (s.drop (j + 1)) (a.set i (s.take j)) (by omega) (by omega) hcount (by rw [List.length_drop]; omega) (by rw [List.length_set]; exact ha)
    refine ⟨s3, a2, q1, q2, ?_⟩
    rw [← q3, e3, List.take_add_one, List.getElem?_set_self (by omega), List.take_set_of_le (Nat.le_refl i)]
    simp
theorem split_ok (s : Str) (c : UInt8) (hs : s.length < 1000000) : f_strings_Split s [c] = some (splitOnB c s) := by
  unfold f_strings_Split f_strings_genSplit
  have hc : s.count c ≤ s.length := List.count_le_length
  rw [if_neg (by decide), if_neg (by simp), if_pos (by decide), show f_strings_Count s [c] = some ((s.count c : Nat) : Int) from rfl, Option.bind_some, wG_s (by omega), Option.bind_some, wG_s (by omega), if_neg (by omega), Option.bind_some, gd_t _ (by omega)]
  obtain ⟨s3, a2, q1, q2, q3⟩ := split17_ok s c ((s.count c + 1 : Nat) : Int) (s.count c) rfl (by omega) (s.count c) 0 (((IntKind.i64.wrap (((s.count c + 1 : Nat) : Int) - 1)) - 0).toNat + 1) s (List.replicate ((s.count c + 1 : Nat) : Int).toNat []) (by omega) (by rw [w_i64 (by omega) (by omega)]; omega) rfl (by omega) (by simp)
  rw [show ((0 : Nat) : Int) = 0 from rfl] at q1
  rw [q1, Option.bind_some]
  dsimp only
  rw [ix_nat, List.getElem?_eq_getElem (by omega), Option.bind_some, wG_s (by omega), gd_t _ (by omega), cut_zero, Int.toNat_natCast, Option.bind_some]
  rw [List.take_zero, List.nil_append] at q3
  rw [q3, List.take_add_one, List.getElem?_set_self (by omega), List.take_set_of_le (Nat.le_refl _)]; rfl
theorem ix_app {α : Type} (pre : List α) (c : α) (l : List α) (n : Nat) (hn : n = pre.length) : ix (pre ++ c :: l) (n : Int) = some c := by subst hn; rw [ix_nat]; simp
theorem w_s {n : Nat} (h : n + 1 < 9223372036854775808) : IntKind.i64.wrap ((n : Int) + 1) = ((n + 1 : Nat) : Int) := by rw [w_i64 (by omega) (by omega)]; rfl
theorem splitOnB_len (c : UInt8) : ∀ (s : Str), (splitOnB c s).length ≤ s.length + 1 ∧ ∀ x ∈ splitOnB c s, x.length ≤ s.length
  | [] => ⟨by simp [splitOnB], by simp [splitOnB]⟩
  | x :: l => by
    obtain ⟨h1, h2⟩ := splitOnB_len c l
    unfold splitOnB
    by_cases h : x = c
    · rw [if_pos h]
      refine ⟨by simp; omega, fun y hy => ?_⟩
      rcases List.mem_cons.1 hy with rfl | hy
      · simp
      · have := h2 y hy; simp; omega
    · rw [if_neg h]
      split
      · rename_i y t e
        rw [e] at h1 h2
        simp only [List.length_cons] at h1
        refine ⟨by simp; omega, fun z hz => ?_⟩
        rcases List.mem_cons.1 hz with rfl | hz
        · have := h2 y (List.mem_cons_self ..); simp; omega
        · have := h2 z (List.mem_cons_of_mem _ hz); simp; omega
      · simp
def glue (now : Str) : List Str → List Str
  | [] => [now]
  | h :: t => (now ++ h) :: t
theorem glue_nil (c : UInt8) (s : Str) : glue [] (splitOnB c s) = splitOnB c s := by
  cases h : splitOnB c s with
  | nil => exact absurd h (splitOnB_ne c s)
  | cons x l => rfl
theorem glue_cons (c x : UInt8) (now l : Str) (h : x ≠ c) : glue now (splitOnB c (x :: l)) = glue (now ++ [x]) (splitOnB c l) := by
  rw [splitOnB, if_neg h]
  cases e : splitOnB c l with
  | nil => exact absurd e (splitOnB_ne c l)
  | cons y t => simp [glue]
theorem glue_hit (c : UInt8) (now l : Str) : glue now (splitOnB c (c :: l)) = now :: splitOnB c l := by
  rw [splitOnB, if_pos rfl]; simp [glue]
end Go.Proofs.YtedibjgdangfnaaGreatDoor.V.M.Cr
end

section
/- Numbers of a schedule, by both. -/
namespace Go.Proofs.YtedibjgdangfnaaGreatDoor.V.M.Cr
set_option linter.unusedVariables false
set_option linter.unusedSimpArgs false
open Go Go.RowKit Go.Proofs.YtedibjgdangfnaaGreatDoor.V.M
def digB (c : UInt8) : Bool := decide (48 ≤ c.toNat ∧ c.toNat ≤ 57)
def digits : Str := [48, 49, 50, 51, 52, 53, 54, 55, 56, 57]
def chk (lo hi n : Nat) : Option Nat := if lo ≤ n ∧ n ≤ hi then some n else none
def numS (lo hi : Nat) : Str → Option Nat
  | [a] => if digB a then chk lo hi (a.toNat - 48) else none
  | [a, b] => if digB a = true ∧ digB b = true ∧ a ≠ 48 then chk lo hi (10 * (a.toNat - 48) + (b.toNat - 48)) else none
  | _ => none
theorem numS_one (lo hi : Nat) (a : UInt8) : numS lo hi [a] = if digB a then chk lo hi (a.toNat - 48) else none := rfl
theorem numS_two (lo hi : Nat) (a b : UInt8) : numS lo hi [a, b] = if digB a = true ∧ digB b = true ∧ a ≠ 48 then chk lo hi (10 * (a.toNat - 48) + (b.toNat - 48)) else none := rfl
theorem chk_b {lo hi n m : Nat} (h : chk lo hi n = some m) : lo ≤ m ∧ m ≤ hi ∧ m = n := by
  unfold chk at h
  split at h
  · cases h; omega
  · cases h
theorem numS_b {lo hi : Nat} {x : Str} {n : Nat} (h : numS lo hi x = some n) : lo ≤ n ∧ n ≤ hi := by
  unfold numS at h
  split at h
  · split at h
    · have := chk_b h; omega
    · cases h
  · split at h
    · have := chk_b h; omega
    · cases h
  · cases h
theorem numS_mem {lo hi : Nat} {x : Str} {n : Nat} (h : numS lo hi x = some n) {c : UInt8} (hc : c ∈ x) : digB c = true := by
  unfold numS at h
  split at h
  · split at h
    · rename_i hd
      rw [List.mem_singleton.1 hc]; exact hd
    · cases h
  · split at h
    · rename_i hd
      rcases List.mem_cons.1 hc with rfl | hc
      · exact hd.1
      · rw [List.mem_singleton.1 hc]; exact hd.2.1
    · cases h
  · cases h
theorem dig_has (c : UInt8) : digits.contains c = digB c := by
  have h : (List.range 256).all (fun k => digits.contains (UInt8.ofNat k) == digB (UInt8.ofNat k)) = true := by kernel_rfl
  have h1 := beq_iff_eq.1 (List.all_eq_true.1 h c.toNat (List.mem_range.2 c.toNat_lt))
  simpa using h1
theorem trim_one (a : UInt8) : Lib.trimS [a] digits = if digB a then [] else [a] := by
  unfold Lib.trimS Lib.trimLeftS Lib.trimRightS
  rw [← dig_has]
  cases h : digits.contains a <;> simp only [List.contains_eq_mem, decide_eq_true_eq, decide_eq_false_iff_not] at h <;> simp [List.dropWhile, h]
theorem trim_two (a b : UInt8) : (Lib.trimS [a, b] digits == []) = (digB a && digB b) := by
  unfold Lib.trimS Lib.trimLeftS Lib.trimRightS
  rw [← dig_has, ← dig_has]
  cases h : digits.contains a <;> cases h2 : digits.contains b <;> simp only [List.contains_eq_mem, decide_eq_true_eq, decide_eq_false_iff_not] at h h2 <;> simp [List.dropWhile, h, h2]
theorem trim_f (x : Str) (hx : x.length ≤ 140737488355328) : f_strings_Trim x digits = some (Lib.trimS x digits) := by
  unfold f_strings_Trim
  exact gd_t _ ⟨hx, by decide, by decide⟩
theorem dig_of {a : UInt8} (h : digB a = true) : ∃ k : Nat, k < 10 ∧ a = UInt8.ofNat (48 + k) := by
  have h1 := of_decide_eq_true h
  exact ⟨a.toNat - 48, by omega, by rw [show 48 + (a.toNat - 48) = a.toNat by omega]; simp⟩
theorem l9_one (b : cron_bounds) (a : UInt8) (h : digB a = true) : f_cron_number_l9 [a] b 2 0 0 = some (((a.toNat - 48 : Nat) : Int), 1) := by
  obtain ⟨k, hk, rfl⟩ := dig_of h
  have h1 : (List.range 10).all (fun k => decide (f_cron_number_l9 [UInt8.ofNat (48 + k)] b 2 0 0 = some ((((UInt8.ofNat (48 + k)).toNat - 48 : Nat) : Int), 1))) = true := by kernel_rfl
  exact of_decide_eq_true (List.all_eq_true.1 h1 k (List.mem_range.2 hk))
theorem l9_two (d : cron_bounds) (a b : UInt8) (h : digB a = true) (h2 : digB b = true) : f_cron_number_l9 [a, b] d 3 0 0 = some (((10 * (a.toNat - 48) + (b.toNat - 48) : Nat) : Int), 2) := by
  obtain ⟨k, hk, rfl⟩ := dig_of h
  obtain ⟨j, hj, rfl⟩ := dig_of h2
  have h1 : (List.range 10).all (fun k => (List.range 10).all fun j => decide (f_cron_number_l9 [UInt8.ofNat (48 + k), UInt8.ofNat (48 + j)] d 3 0 0 = some (((10 * ((UInt8.ofNat (48 + k)).toNat - 48) + ((UInt8.ofNat (48 + j)).toNat - 48) : Nat) : Int), 2))) = true := by kernel_rfl
  exact of_decide_eq_true (List.all_eq_true.1 (List.all_eq_true.1 h1 k (List.mem_range.2 hk)) j (List.mem_range.2 hj))
abbrev nilE : Sc := Sc.z Zk.nilIface
abbrev partE : Sc := .ifc tyPart true []
def numR (r : Option Nat) : Int × Sc := match r with | some n => ((n : Int), nilE) | none => (0, partE)
theorem number_ok (lo hi : Nat) (x : Str) (hx : x.length ≤ 140737488355328) : f_cron_number x ⟨(lo : Int), (hi : Int)⟩ = some (numR (numS lo hi x)) := by
  unfold f_cron_number
  match x, hx with
  | [], _ => rfl
  | [a], hx =>
    rw [show ([48, 49, 50, 51, 52, 53, 54, 55, 56, 57] : Str) = digits from rfl, trim_f _ hx, trim_one]
    show Option.bind (some (if digB a = true then [] else [a])) _ = _
    rw [Option.bind_some]
    cases h : digB a with
    | false =>
      rw [if_neg (by decide), gd_t _ (by intro q; simp at q), if_pos (by simp)]
      rw [numS_one, h]; rfl
    | true =>
      rw [if_pos rfl, gd_t _ (by intro q; simp at q), if_neg (by simp)]
      rw [show ((([a] : Str).length : Int) - 0).toNat + 1 = 2 from rfl, l9_one _ a h, Option.bind_some]
      rw [numS_one, h, if_pos rfl]; unfold chk
      by_cases hc : lo ≤ a.toNat - 48 ∧ a.toNat - 48 ≤ hi
      · rw [if_pos hc, if_neg (by simp; omega)]; rfl
      · rw [if_neg hc, if_pos (by simp; omega)]; rfl
  | [a, b], hx =>
    rw [show ([48, 49, 50, 51, 52, 53, 54, 55, 56, 57] : Str) = digits from rfl, trim_f _ hx]
    show Option.bind (some (Lib.trimS [a, b] digits)) _ = _
    rw [Option.bind_some, trim_two]
    by_cases h : digB a = true ∧ digB b = true
    · rw [h.1, h.2, gd_t _ (by intro q; simp)]
      by_cases h0 : a = 48
      · subst h0
        rw [if_pos (by simp [bn])]
        rw [numS_two, if_neg (by simp)]
        rfl
      · rw [if_neg (by
          intro q
          simp [bn] at q
          apply h0
          exact UInt8.toNat_inj.1 (by have : (48 : UInt8).toNat = 48 := rfl; omega))]
        rw [show ((([a, b] : Str).length : Int) - 0).toNat + 1 = 3 from rfl, l9_two _ a b h.1 h.2, Option.bind_some]
        rw [show numS lo hi [a, b] = chk lo hi (10 * (a.toNat - 48) + (b.toNat - 48)) from (numS_two ..).trans (if_pos ⟨h.1, h.2, h0⟩)]; unfold chk
        generalize 10 * (a.toNat - 48) + (b.toNat - 48) = v
        by_cases hc : lo ≤ v ∧ v ≤ hi
        · rw [if_pos hc, if_neg (by simp; omega)]; rfl
        · rw [if_neg hc, if_pos (by simp; omega)]; rfl
    · have hf : (digB a && digB b) = false := by
        cases h1 : digB a <;> cases h2 : digB b <;> simp_all
      rw [hf, gd_t _ (by intro q; simp at q), if_pos (by simp)]
      rw [numS_two, if_neg (show ¬ (digB a = true ∧ digB b = true ∧ a ≠ 48) from fun q => h ⟨q.1, q.2.1⟩)]
      rfl
  | a :: b :: c :: l, hx =>
    have h1 : ((decide ((((a :: b :: c :: l) : Str).length : Int) < 1)) || (decide ((((a :: b :: c :: l) : Str).length : Int) > 2))) = true := by simp; omega
    rw [h1]
    show Option.bind (some default) _ = _
    rw [Option.bind_some, gd_t _ (by intro q; simp at q), if_pos (by simp)]
    rfl
def numI (r : Option Nat) : Int := match r with | some n => (n : Int) | none => -1
end Go.Proofs.YtedibjgdangfnaaGreatDoor.V.M.Cr
end

section
/- Parts of a field, by both: from, to, step; their bits. -/
namespace Go.Proofs.YtedibjgdangfnaaGreatDoor.V.M.Cr
set_option linter.unusedVariables false
set_option linter.unusedSimpArgs false
open Go Go.RowKit Go.Proofs.YtedibjgdangfnaaGreatDoor.V.M
def spanS (lo hi : Nat) (x : Str) : Option (Nat × Nat × Bool) :=
  if x = [42] then some (lo, hi, true) else match splitOnB 45 x with
    | [a] => (numS lo hi a).map fun n => (n, n, false)
    | [a, b] => (numS lo hi a).bind fun n => (numS lo hi b).bind fun m => if n ≤ m then some (n, m, true) else none
    | _ => none
def partS (lo hi : Nat) (x : Str) : Option (Nat × Nat × Nat) := match splitOnB 47 x with
  | [a] => (spanS lo hi a).map fun r => (r.1, r.2.1, 1)
  | [a, b] => (spanS lo hi a).bind fun r => (numS 1 59 b).bind fun s => if r.2.2 then some (r.1, r.2.1, s) else none
  | _ => none
theorem split_has {c : UInt8} {b : Str} (h : ¬ Lib.indexByte b c < 0) : (∃ p q l, splitOnB c b = p :: q :: l) ∧ c ∈ b := by
  obtain ⟨i, e1, e2, e3⟩ := splitOnB_some h
  refine ⟨?_, (indexByte_mem b c).1 (by omega)⟩
  rw [e3]
  cases hq : splitOnB c (b.drop (i + 1)) with
  | nil => exact absurd hq (splitOnB_ne _ _)
  | cons y t => exact ⟨_, y, t, rfl⟩
theorem numS_not {lo hi : Nat} {b : Str} {c : UInt8} (hc : digB c = false) (h : c ∈ b) : numS lo hi b = none := by
  cases h1 : numS lo hi b with
  | none => rfl
  | some n => have := numS_mem h1 h; rw [hc] at this; cases this
/-- What is cut at a byte that is no digit, where what is behind is read as a number. -/
theorem cut_split (c : UInt8) (x : Str) : (cutS x c = (x, [], false) ∧ splitOnB c x = [x]) ∨ ∃ a b, cutS x c = (a, b, true) ∧ a.length ≤ x.length ∧ b.length ≤ x.length ∧ ((splitOnB c x = [a, b]) ∨ ((∃ p q l, splitOnB c x = a :: p :: q :: l) ∧ c ∈ b)) := by
  by_cases h : Lib.indexByte x c < 0
  · left
    refine ⟨?_, splitOnB_none h⟩
    unfold cutS
    rw [if_neg (by omega)]
  · right
    obtain ⟨i, e1, e2, e3⟩ := splitOnB_some h
    refine ⟨x.take i, x.drop (i + 1), ?_, by simp; omega, by simp, ?_⟩
    · unfold cutS
      rw [if_pos (by omega), e1]; rfl
    · by_cases h2 : Lib.indexByte (x.drop (i + 1)) c < 0
      · left; rw [e3, splitOnB_none h2]
      · right
        obtain ⟨⟨p, q, l, e4⟩, h4⟩ := split_has h2
        exact ⟨⟨p, q, l, by rw [e3, e4]⟩, h4⟩
theorem numR_some {n : Nat} : numR (some n) = ((n : Int), nilE) := rfl
/-- span: what it hands back says spanS; where it is none, a part's error. -/
theorem span_ok (lo hi : Nat) (x : Str) (hx : x.length ≤ 140737488355328) : ∃ r : cron_bounds × Bool × Sc, f_cron_span x ⟨(lo : Int), (hi : Int)⟩ = some r ∧ match spanS lo hi x with
    | some p => r = (⟨(p.1 : Int), (p.2.1 : Int)⟩, p.2.2, nilE)
    | none => r.2.2 = partE := by
  unfold f_cron_span
  by_cases h : x = [42]
  · subst h
    rw [if_pos (by decide)]
    exact ⟨_, rfl, rfl⟩
  · have hs : spanS lo hi x = match splitOnB 45 x with
      | [a] => (numS lo hi a).map fun n => (n, n, false)
      | [a, b] => (numS lo hi a).bind fun n => (numS lo hi b).bind fun m => if n ≤ m then some (n, m, true) else none
      | _ => none := if_neg h
    rw [if_neg (by simpa using h), cut_ok _ _ (by omega), Option.bind_some, hs]
    rcases cut_split 45 x with ⟨e1, e2⟩ | ⟨a, b, e1, ha, hb, e2⟩
    · rw [e1, e2]
      dsimp only
      rw [number_ok lo hi x hx, Option.bind_some]
      cases hn : numS lo hi x with
      | none =>
        rw [gd_t _ (by intro _; rfl), if_pos (by simp)]
        exact ⟨_, rfl, rfl⟩
      | some n =>
        rw [gd_t _ (by intro _; rfl), if_pos (by simp)]
        exact ⟨_, rfl, rfl⟩
    · rw [e1]
      dsimp only
      rw [number_ok lo hi a (by omega), Option.bind_some, number_ok lo hi b (by omega)]
      cases hn : numS lo hi a with
      | none =>
        rw [gd_t _ (by intro _; rfl), if_pos (by simp [numR, nilI])]
        refine ⟨_, rfl, ?_⟩
        rcases e2 with e2 | ⟨⟨p, q, l, e2⟩, hc⟩
        · rw [e2]; dsimp only; rw [hn]; rfl
        · rw [e2]; rfl
      | some n =>
        rw [gd_t _ (by intro _; rfl), if_neg (by simp [numR, nilI, nilE]), Option.bind_some]
        rcases e2 with e2 | ⟨⟨p, q, l, e2⟩, hc⟩
        · rw [e2]; dsimp only; rw [hn]
          cases hm : numS lo hi b with
          | none =>
            rw [gd_t _ (by rfl), if_neg (by simp [numR, nilI, partE])]
            exact ⟨_, rfl, rfl⟩
          | some m =>
            rw [gd_t _ (by rfl)]
            by_cases hnm : n ≤ m
            · rw [if_neg (by simp [numR]; omega)]
              refine ⟨_, rfl, ?_⟩
              rw [Option.bind_some, Option.bind_some, if_pos hnm]; rfl
            · rw [if_pos (by simp [numR, nilI, nilE]; omega)]
              refine ⟨_, rfl, ?_⟩
              rw [Option.bind_some, Option.bind_some, if_neg hnm]
        · rw [e2, numS_not (by decide) hc]
          rw [gd_t _ (by rfl), if_neg (by simp [numR, nilI, partE])]
          exact ⟨_, rfl, rfl⟩
theorem spanS_b {lo hi : Nat} {x : Str} {p : Nat × Nat × Bool} (hl : lo ≤ hi) (h : spanS lo hi x = some p) : lo ≤ p.1 ∧ p.1 ≤ p.2.1 ∧ p.2.1 ≤ hi := by
  unfold spanS at h
  split at h
  · cases h; exact ⟨Nat.le_refl _, hl, Nat.le_refl _⟩
  · split at h
    · obtain ⟨n, hn, rfl⟩ := Option.map_eq_some_iff.1 h
      have := numS_b hn
      exact ⟨this.1, Nat.le_refl _, this.2⟩
    · obtain ⟨n, hn, h⟩ := Option.bind_eq_some_iff.1 h
      obtain ⟨m, hm, h⟩ := Option.bind_eq_some_iff.1 h
      have h1 := numS_b hn
      have h2 := numS_b hm
      split at h
      · cases h; dsimp only; omega
      · cases h
    · cases h
theorem partS_b {lo hi : Nat} {x : Str} {p : Nat × Nat × Nat} (hl : lo ≤ hi) (h : partS lo hi x = some p) : lo ≤ p.1 ∧ p.1 ≤ p.2.1 ∧ p.2.1 ≤ hi ∧ 1 ≤ p.2.2 ∧ p.2.2 ≤ 59 := by
  unfold partS at h
  split at h
  · obtain ⟨r, hr, rfl⟩ := Option.map_eq_some_iff.1 h
    have := spanS_b hl hr
    dsimp only; omega
  · obtain ⟨r, hr, h⟩ := Option.bind_eq_some_iff.1 h
    obtain ⟨s, hs, h⟩ := Option.bind_eq_some_iff.1 h
    have h1 := spanS_b hl hr
    have h2 := numS_b hs
    split at h
    · cases h; dsimp only; omega
    · cases h
  · cases h
/-- Whether a part has a value. -/
def hitB (p : Nat × Nat × Nat) (u : Nat) : Bool := decide (p.1 ≤ u ∧ u ≤ p.2.1 ∧ (u - p.1) % p.2.2 = 0)
theorem or_one (n v : Nat) (hn : n < 18446744073709551616) (hv : v ≤ 63) : IntKind.u64.wrap (((BitVec.ofInt IntKind.u64.bits ((n : Nat) : Int) ||| BitVec.ofInt IntKind.u64.bits (IntKind.u64.wrap (1 * 2 ^ (min ((v : Nat) : Int).toNat IntKind.u64.bits)))).toNat : Nat) : Int) = ((n ||| 2 ^ v : Nat) : Int) ∧ n ||| 2 ^ v < 18446744073709551616 := by
  have h2 : 2 ^ v < 2 ^ 64 := Nat.pow_lt_pow_right (by omega) (by omega)
  have h3 : n ||| 2 ^ v < 2 ^ 64 := Nat.or_lt_two_pow hn h2
  refine ⟨?_, h3⟩
  have e1 : min ((v : Nat) : Int).toNat IntKind.u64.bits = v := by show min ((v : Nat) : Int).toNat 64 = v; omega
  rw [e1, Int.one_mul, show ((2 : Int) ^ v) = ((2 ^ v : Nat) : Int) by rw [Int.natCast_pow]; rfl]
  have h4 : 2 ^ v < 18446744073709551616 := h2
  rw [w_u64 (n := ((2 ^ v : Nat) : Int)) (Int.natCast_nonneg _) (show ((2 ^ v : Nat) : Int) < ((18446744073709551616 : Nat) : Int) from Int.ofNat_lt.2 h4)]
  show IntKind.u64.wrap (((BitVec.ofInt 64 ((n : Nat) : Int) ||| BitVec.ofInt 64 ((2 ^ v : Nat) : Int)).toNat : Nat) : Int) = _
  rw [BitVec.toNat_or, show BitVec.ofInt 64 ((n : Nat) : Int) = BitVec.ofNat 64 n from BitVec.ofInt_natCast .., show BitVec.ofInt 64 ((2 ^ v : Nat) : Int) = BitVec.ofNat 64 (2 ^ v) from BitVec.ofInt_natCast .., BitVec.toNat_ofNat, BitVec.toNat_ofNat, Nat.mod_eq_of_lt hn, Nat.mod_eq_of_lt h2]
  exact w_u64 (Int.natCast_nonneg _) (show ((n ||| 2 ^ v : Nat) : Int) < ((18446744073709551616 : Nat) : Int) from Int.ofNat_lt.2 h3)
theorem values_loop (s : Str) (b : cron_bounds) (t2 : cron_bounds × Bool × Sc) (e : Sc) (hi st : Nat) (hh : t2.1.high = (hi : Int)) (hhi : hi ≤ 59) (h1 : 1 ≤ st) (h59 : st ≤ 59) : ∀ (m v n : Nat), n < 18446744073709551616 → hi + 1 - v < m → v ≤ 200 →
    ∃ (N : Nat) (z : Int), f_cron_values_l15 s b t2 (e, (st : Int)) m (n : Int) (v : Int) = some ((N : Int), z) ∧ N < 18446744073709551616 ∧ ∀ u, N.testBit u = (n.testBit u || decide (v ≤ u ∧ u ≤ hi ∧ (u - v) % st = 0))
  | 0, v, n, k0, k1, k2 => absurd k1 (Nat.not_lt_zero _)
  | m + 1, v, n, k0, k1, k2 => by
    rw [f_cron_values_l15, hh]
    by_cases hv : v ≤ hi
    · obtain ⟨q1, q2⟩ := or_one n v k0 (by omega)
      rw [if_pos (by simp; omega), gd_t _ (by omega), Option.bind_some, q1, w_i64 (n := (v : Int) + ((e, (st : Int)) : Sc × Int).2) (by dsimp only; omega) (by dsimp only; omega)]
      obtain ⟨N, z, g1, g2, g3⟩ := values_loop s b t2 e hi st hh hhi h1 h59 m (v + st) (n ||| 2 ^ v) q2 (by omega) (by omega)
      refine ⟨N, z, g1, g2, fun u => ?_⟩
      rw [g3 u, Nat.testBit_or, Nat.testBit_two_pow, Bool.or_assoc]
      congr 1
      rw [← Bool.decide_or, decide_eq_decide]
      constructor
      · rintro (rfl | ⟨a, b, c⟩)
        · exact ⟨Nat.le_refl _, hv, by simp⟩
        · refine ⟨by omega, b, ?_⟩
          rw [show u - v = (u - (v + st)) + st by omega, Nat.add_mod_right]; exact c
      · rintro ⟨a, b, c⟩
        by_cases huv : v = u
        · exact .inl huv
        · right
          have : st ≤ u - v := by
            rcases Nat.lt_or_ge (u - v) st with hlt | hge
            · rw [Nat.mod_eq_of_lt hlt] at c; omega
            · exact hge
          refine ⟨by omega, b, ?_⟩
          rw [show u - v = (u - (v + st)) + st by omega, Nat.add_mod_right] at c; exact c
    · rw [if_neg (by simp; omega)]
      refine ⟨n, (v : Int), rfl, k0, fun u => ?_⟩
      have : decide (v ≤ u ∧ u ≤ hi ∧ (u - v) % st = 0) = false := by
        rw [decide_eq_false_iff_not]; omega
      rw [this, Bool.or_false]
theorem values_ok (lo hi : Nat) (hl : lo ≤ hi) (hhi : hi ≤ 59) (x : Str) (hx : x.length ≤ 140737488355328) : match partS lo hi x with
    | some p => ∃ N : Nat, f_cron_values x ⟨(lo : Int), (hi : Int)⟩ = some ((N : Int), nilE) ∧ N < 18446744073709551616 ∧ ∀ u, N.testBit u = hitB p u
    | none => f_cron_values x ⟨(lo : Int), (hi : Int)⟩ = some (0, partE) := by
  unfold f_cron_values
  rw [cut_ok _ _ (by omega), Option.bind_some]
  have fin : ∀ (t2 : cron_bounds × Bool × Sc) (p : Nat × Nat × Nat), t2.1 = ⟨(p.1 : Int), (p.2.1 : Int)⟩ → p.1 ≤ p.2.1 → p.2.1 ≤ 59 → 1 ≤ p.2.2 → p.2.2 ≤ 59 → ∃ N : Nat, (Option.bind (f_cron_values_l15 x ⟨(lo : Int), (hi : Int)⟩ t2 (nilE, (p.2.2 : Int)) (((t2.1.high : Int) - t2.1.low).toNat + 2) 0 t2.1.low) fun s3 : Int × Int => some (s3.1, (Sc.z Zk.nilIface))) = some ((N : Int), nilE) ∧ N < 18446744073709551616 ∧ ∀ u, N.testBit u = hitB p u := by
    intro t2 p ht h1 h2 h3 h4
    obtain ⟨N, z, g1, g2, g3⟩ := values_loop x ⟨(lo : Int), (hi : Int)⟩ t2 nilE p.2.1 p.2.2 (by rw [ht]) h2 h3 h4 (((t2.1.high : Int) - t2.1.low).toNat + 2) p.1 0 (by omega) (by rw [ht]; dsimp only; omega) (by omega)
    refine ⟨N, ?_, g2, fun u => by rw [g3 u]; simp [hitB]⟩
    have hlow : t2.1.low = (p.1 : Int) := by rw [ht]
    rw [hlow] at g1 ⊢
    rw [show (0 : Int) = ((0 : Nat) : Int) from rfl, g1]; rfl
  rcases cut_split 47 x with ⟨e1, e2⟩ | ⟨a, b, e1, ha, hb, e2⟩
  · obtain ⟨r, hr, hr2⟩ := span_ok lo hi x hx
    rw [e1]
    dsimp only
    rw [hr, Option.bind_some]
    have hp : partS lo hi x = (spanS lo hi x).map fun r => (r.1, r.2.1, 1) := by unfold partS; rw [e2]
    rw [hp]
    cases hs : spanS lo hi x with
    | none =>
      rw [hs] at hr2
      dsimp only [Option.map_none] at hr2 ⊢
      rw [hr2, gd_t _ (by rfl), if_neg (by simp), Option.bind_some, gd_t _ (by rfl), if_pos (by rfl)]
    | some p =>
      rw [hs] at hr2
      dsimp only [Option.map_some] at hr2 ⊢
      have hb := spanS_b hl hs
      subst hr2
      dsimp only
      rw [gd_t _ (by rfl), if_neg (by simp), Option.bind_some, gd_t _ (by rfl), if_neg (by simp [nilI])]
      exact fin (⟨(p.1 : Int), (p.2.1 : Int)⟩, p.2.2, nilE) (p.1, p.2.1, 1) rfl hb.2.1 (by dsimp only; omega) (by dsimp only; omega) (by dsimp only; omega)
  · obtain ⟨r, hr, hr2⟩ := span_ok lo hi a (by omega)
    rw [e1]
    dsimp only
    rw [hr, Option.bind_some]
    have hnum := number_ok 1 59 b (by omega)
    have hnum' : f_cron_number b (cron_bounds.mk 1 59) = some (numR (numS 1 59 b)) := hnum
    cases hs : spanS lo hi a with
    | none =>
      have hp : partS lo hi x = none := by
        unfold partS
        rcases e2 with e2 | ⟨⟨p, q, l, e2⟩, hc⟩ <;> rw [e2]
        dsimp only; rw [hs]; rfl
      rw [hs] at hr2
      rw [hp]
      dsimp only at hr2 ⊢
      rw [hr2, gd_t _ (by rfl), if_neg (by simp [nilI]), Option.bind_some, gd_t _ (by rfl), if_pos (by rfl)]
    | some p =>
      rw [hs] at hr2
      have hb2 := spanS_b hl hs
      dsimp only at hr2
      subst hr2
      dsimp only
      rw [gd_t _ (by rfl), if_pos (by rfl), hnum', Option.bind_some]
      by_cases hmay : p.2.2 = true
      · rw [if_neg (by rw [hmay]; decide), Option.bind_some]
        dsimp only
        cases hn : numS 1 59 b with
        | none =>
          have hp : partS lo hi x = none := by
            unfold partS
            rcases e2 with e2 | ⟨⟨p, q, l, e2⟩, hc⟩ <;> rw [e2]
            dsimp only; rw [hs, hn]; rfl
          rw [hp]
          dsimp only
          rw [gd_t _ (by rfl), if_pos (by rfl)]
          rfl
        | some st =>
          have hb3 := numS_b hn
          have hp : partS lo hi x = some (p.1, p.2.1, st) := by
            unfold partS
            rcases e2 with e2 | ⟨⟨_, q, l, e2⟩, hc⟩
            · rw [e2]; dsimp only; rw [hs, hn, Option.bind_some, Option.bind_some, if_pos hmay]
            · rw [numS_not (by decide) hc] at hn; cases hn
          rw [hp]
          dsimp only
          rw [gd_t _ (by rfl), if_neg (by simp [nilI, numR])]
          exact fin (⟨(p.1 : Int), (p.2.1 : Int)⟩, p.2.2, nilE) (p.1, p.2.1, st) rfl hb2.2.1 (by dsimp only; omega) hb3.1 hb3.2
      · have hp : partS lo hi x = none := by
          unfold partS
          rcases e2 with e2 | ⟨⟨_, q, l, e2⟩, hc⟩ <;> rw [e2]
          dsimp only; rw [hs, Option.bind_some]
          cases hn : numS 1 59 b with
          | none => rfl
          | some st => rw [Option.bind_some, if_neg hmay]
        rw [if_pos (by simpa using hmay), Option.bind_some, hp]
        dsimp only
        rw [gd_t _ (by rfl), if_pos (by rfl)]
end Go.Proofs.YtedibjgdangfnaaGreatDoor.V.M.Cr
end

section
/- Parts, fields and schedules by the reference; both say the same: CronParses. -/
namespace Go.Proofs.YtedibjgdangfnaaGreatDoor.V.M.Cr
set_option linter.unusedVariables false
set_option linter.unusedSimpArgs false
open Go Go.RowKit Go.Proofs.YtedibjgdangfnaaGreatDoor.V.M
theorem ix_zero {α : Type} (a : α) (l : List α) : ix (a :: l) 0 = some a := by
  show ix (a :: l) ((0 : Nat) : Int) = _
  rw [ix_nat]; rfl
theorem ix_one {α : Type} (a b : α) (l : List α) : ix (a :: b :: l) 1 = some b := by
  show ix (a :: b :: l) ((1 : Nat) : Int) = _
  rw [ix_nat]; rfl
theorem numI_neg {r : Option Nat} : numI r < 0 ↔ r = none := by
  cases r with
  | none => simp [numI]
  | some n => simp [numI]
theorem numI_n : numI none = -1 := rfl
theorem numI_s (n : Nat) : numI (some n) = (n : Int) := rfl
theorem spanS_may {lo hi : Nat} {a : Str} {p : Nat × Nat × Bool} (h : spanS lo hi a = some p) : p.2.2 = !((!(a == ([42] : Str))) && (((splitOnB 45 a).length : Int) == 1)) := by
  unfold spanS at h
  split at h
  · rename_i ha
    cases h; subst ha; rfl
  · rename_i ha
    have ha' : (a == ([42] : Str)) = false := by simpa using ha
    rw [ha']
    split at h
    · rename_i e
      obtain ⟨n, hn, rfl⟩ := Option.map_eq_some_iff.1 h
      rw [e]; rfl
    · rename_i e
      obtain ⟨n, hn, h⟩ := Option.bind_eq_some_iff.1 h
      obtain ⟨m, hm, h⟩ := Option.bind_eq_some_iff.1 h
      split at h
      · cases h; rw [e]; rfl
      · cases h
    · cases h
end Go.Proofs.YtedibjgdangfnaaGreatDoor.V.M.Cr
end

section
/- Fields and schedules by both: CronParses. -/
namespace Go.Proofs.YtedibjgdangfnaaGreatDoor.V.M.Cr
set_option linter.unusedVariables false
set_option linter.unusedSimpArgs false
open Go Go.RowKit Go.Proofs.YtedibjgdangfnaaGreatDoor.V.M
def mapS (f : Str → Option (Nat × Nat × Nat)) : List Str → Option (List (Nat × Nat × Nat))
  | [] => some []
  | x :: l => (f x).bind fun p => (mapS f l).bind fun ps => some (p :: ps)
def errR (r : Option Nat) : Int × Bool := match r with | some n => ((n : Int), false) | none => (0, true)
theorem orU_nat (n v : Nat) (hn : n < 18446744073709551616) (hv : v < 18446744073709551616) : orU (n : Int) (v : Int) = ((n ||| v : Nat) : Int) ∧ n ||| v < 18446744073709551616 := by
  have h3 : n ||| v < 2 ^ 64 := Nat.or_lt_two_pow hn hv
  refine ⟨?_, h3⟩
  show IntKind.u64.wrap (((BitVec.ofInt 64 ((n : Nat) : Int) ||| BitVec.ofInt 64 ((v : Nat) : Int)).toNat : Nat) : Int) = _
  rw [BitVec.toNat_or, show BitVec.ofInt 64 ((n : Nat) : Int) = BitVec.ofNat 64 n from BitVec.ofInt_natCast .., show BitVec.ofInt 64 ((v : Nat) : Int) = BitVec.ofNat 64 v from BitVec.ofInt_natCast .., BitVec.toNat_ofNat, BitVec.toNat_ofNat, Nat.mod_eq_of_lt hn, Nat.mod_eq_of_lt hv]
  exact w_u64 (Int.natCast_nonneg _) (show ((n ||| v : Nat) : Int) < ((18446744073709551616 : Nat) : Int) from Int.ofNat_lt.2 h3)
theorem isPart_nil : isPart nilE = some false := rfl
theorem isPart_part : isPart partE = some true := rfl
theorem fold_ok (lo hi : Nat) (hl : lo ≤ hi) (hhi : hi ≤ 59) : ∀ (t : List Str) (n : Nat), (∀ x ∈ t, x.length ≤ 1000000) → n < 18446744073709551616 → match mapS (partS lo hi) t with
    | some ps => ∃ N : Nat, foldF (partV ⟨(lo : Int), (hi : Int)⟩) (n : Int) t = some ((N : Int), false) ∧ N < 18446744073709551616 ∧ ∀ u, N.testBit u = (n.testBit u || ps.any fun p => hitB p u)
    | none => foldF (partV ⟨(lo : Int), (hi : Int)⟩) (n : Int) t = some (0, true)
  | [], n, ht, hn => ⟨n, rfl, hn, fun u => by simp⟩
  | x :: l, n, ht, hn => by
    have hv := values_ok lo hi hl hhi x (by have := ht x (by simp); omega)
    rw [mapS, foldF]
    unfold partV
    cases hp : partS lo hi x with
    | none =>
      rw [hp] at hv
      dsimp only at hv
      rw [hv]
      rfl
    | some p =>
      rw [hp] at hv
      obtain ⟨N, e1, e2, e3⟩ := hv
      obtain ⟨q1, q2⟩ := orU_nat n N hn e2
      have ih := fold_ok lo hi hl hhi l (n ||| N) (fun y hy => ht y (by simp [hy])) q2
      rw [e1, Option.bind_some, Option.bind_some, isPart_nil, Option.map_some, Option.bind_some, if_neg (by simp)]
      dsimp only
      rw [q1]
      cases hm : mapS (partS lo hi) l with
      | none =>
        rw [hm] at ih
        exact ih
      | some ps =>
        rw [hm] at ih
        obtain ⟨M, g1, g2, g3⟩ := ih
        refine ⟨M, g1, g2, fun u => ?_⟩
        rw [g3 u, Nat.testBit_or, e3 u, List.any_cons, Bool.or_assoc]
theorem mapS_b {lo hi : Nat} (hl : lo ≤ hi) : ∀ {t : List Str} {ps}, mapS (partS lo hi) t = some ps → ps.length = t.length ∧ ∀ p ∈ ps, lo ≤ p.1 ∧ p.1 ≤ p.2.1 ∧ p.2.1 ≤ hi ∧ 1 ≤ p.2.2 ∧ p.2.2 ≤ 59
  | [], ps, h => by cases h; simp
  | x :: l, ps, h => by
    rw [mapS] at h
    obtain ⟨p, hp, h⟩ := Option.bind_eq_some_iff.1 h
    obtain ⟨qs, hq, h⟩ := Option.bind_eq_some_iff.1 h
    cases h
    have := mapS_b hl hq
    refine ⟨by simp [this.1], fun z hz => ?_⟩
    rcases List.mem_cons.1 hz with rfl | hz
    · exact partS_b hl hp
    · exact this.2 z hz
def fldC (r : Option Nat) : Int × Sc := match r with | some n => ((n : Int), nilE) | none => (0, partE)
def fldR (r : Option Nat) : Int × Bool := match r with | some n => ((n : Int), true) | none => (0, false)
theorem step13 (s : Str) (t : List Str) (t2 : List cron_bounds) (ht2 : t2.length = 5) (i m : Nat) (hi5 : i < 5) (bits : List Int) (hb : bits.length = 5) (lo hi : Nat) (x : Str) (r : Option Nat) (e2 : t2[i]? = some ⟨(lo : Int), (hi : Int)⟩) (e1 : t[i]? = some x) (hr : f_cron_field x ⟨(lo : Int), (hi : Int)⟩ = some (fldC r)) :
    f_cron_Parse_l13 s t t2 (m + 1) (i : Int) bits = match r with | some n => f_cron_Parse_l13 s t t2 m ((i + 1 : Nat) : Int) (bits.set i (n : Int)) | none => some (.inr ((api_Cron.mk 0 0 0 0 0 false false), 6)) := by
  rw [f_cron_Parse_l13, if_pos (by simp; omega), gd_t _ ht2, ix_nat, e2, Option.bind_some, ix_nat, e1, Option.bind_some]
  refine (congrArg (fun o => Option.bind o _) hr).trans ?_
  rw [Option.bind_some]
  cases r with
  | none => rfl
  | some n =>
    rw [show f_errors_Is (fldC (some n)).2 partE = some false from rfl, Option.bind_some, if_neg (by decide), gd_t _ (by omega), gd_t _ (by omega), w_s (by omega)]
    rfl
theorem CW_zero : CW ⟨0, 0, 0, 0, 0, false, false⟩ := by unfold CW; dsimp only; omega
theorem len5 {α : Type} (l : List α) (h : l.length = 5) : ∃ a b c d e, l = [a, b, c, d, e] := by
  match l, h with
  | [a, b, c, d, e], _ => exact ⟨a, b, c, d, e, rfl⟩
end Go.Proofs.YtedibjgdangfnaaGreatDoor.V.M.Cr
end

section
/- Schedules by the program alone: what Parse hands back is a schedule, or none. -/
namespace Go.Proofs.YtedibjgdangfnaaGreatDoor.V.M.Cr
set_option linter.unusedVariables false
set_option linter.unusedSimpArgs false
open Go Go.RowKit Go.Proofs.YtedibjgdangfnaaGreatDoor.V.M
theorem field_one (lo hi : Nat) (hl : lo ≤ hi) (hhi : hi ≤ 59) (x : Str) (hx : x.length ≤ 1000) : ∃ r : Option Nat, f_cron_field x ⟨(lo : Int), (hi : Int)⟩ = some (fldC r) ∧ ∀ n, r = some n → n < 18446744073709551616 := by
  obtain ⟨hs1, hs2⟩ := splitOnB_len 44 x
  have hc := fold_ok lo hi hl hhi (splitOnB 44 x) 0 (fun y hy => by have := hs2 y hy; omega) (by omega)
  unfold f_cron_field fieldOf
  rw [gd_t _ (by omega)]
  cases hm : mapS (partS lo hi) (splitOnB 44 x) with
  | none =>
    rw [hm] at hc
    refine ⟨none, ?_, fun n h => by cases h⟩
    rw [show foldF (partV ⟨(lo : Int), (hi : Int)⟩) 0 (splitOnB 44 x) = some (0, true) from hc]; rfl
  | some ps =>
    rw [hm] at hc
    obtain ⟨N, g1, g2, g3⟩ := hc
    refine ⟨some N, ?_, fun n h => by cases h; exact g2⟩
    rw [show foldF (partV ⟨(lo : Int), (hi : Int)⟩) 0 (splitOnB 44 x) = some ((N : Int), false) from g1]; rfl
theorem parse_one (s : Str) (hs : s.length ≤ 210) : ∃ (c : api_Cron) (ok : Bool), f_cron_Parse s = some (c, if ok then 0 else 6) ∧ CW c := by
  obtain ⟨hs1, hs2⟩ := splitOnB_len 32 s
  unfold f_cron_Parse
  rw [split_ok s 32 (by omega), Option.bind_some]
  have hf : f_cron_fields = some [⟨0, 59⟩, ⟨0, 23⟩, ⟨1, 31⟩, ⟨1, 12⟩, ⟨0, 6⟩] := rfl
  by_cases h200 : (s.length : Int) > 200
  · have e : decide ((s.length : Int) > 200) = true := decide_eq_true h200
    rw [e, if_pos rfl, Option.bind_some, if_pos rfl]
    exact ⟨_, false, rfl, CW_zero⟩
  · have e : decide ((s.length : Int) > 200) = false := decide_eq_false h200
    rw [e, if_neg (by decide), hf, Option.bind_some, Option.bind_some]
    by_cases h5 : (splitOnB 32 s).length = 5
    · have e5 : (((splitOnB 32 s).length : Int) != 5) = false := by rw [h5]; rfl
      rw [e5, if_neg (by decide), Option.bind_some]
      obtain ⟨a, b, c, d, f, hq⟩ := len5 _ h5
      rw [hq] at hs2
      rw [hq]
      have la := hs2 a (by simp)
      have lb := hs2 b (by simp)
      have lc := hs2 c (by simp)
      have ld := hs2 d (by simp)
      have lf := hs2 f (by simp)
      obtain ⟨r0, c0, m0⟩ := field_one 0 59 (by omega) (by omega) a (by omega)
      obtain ⟨r1, c1, m1⟩ := field_one 0 23 (by omega) (by omega) b (by omega)
      obtain ⟨r2, c2, m2⟩ := field_one 1 31 (by omega) (by omega) c (by omega)
      obtain ⟨r3, c3, m3⟩ := field_one 1 12 (by omega) (by omega) d (by omega)
      obtain ⟨r4, c4, m4⟩ := field_one 0 6 (by omega) (by omega) f (by omega)
      have i0 : ∀ l : List Str, ix (a :: l) 0 = some a := fun l => ix_zero a l
      have i1 : ix [a, b, c, d, f] 1 = some b := ix_one a b _
      have i2 : ix [a, b, c, d, f] 2 = some c := by show ix [a, b, c, d, f] ((2 : Nat) : Int) = _; rw [ix_nat]; rfl
      have i3 : ix [a, b, c, d, f] 3 = some d := by show ix [a, b, c, d, f] ((3 : Nat) : Int) = _; rw [ix_nat]; rfl
      have i4 : ix [a, b, c, d, f] 4 = some f := by show ix [a, b, c, d, f] ((4 : Nat) : Int) = _; rw [ix_nat]; rfl
      have q0 := step13 s [a, b, c, d, f] [⟨0, 59⟩, ⟨0, 23⟩, ⟨1, 31⟩, ⟨1, 12⟩, ⟨0, 6⟩] rfl 0 5 (by omega) [0, 0, 0, 0, 0] rfl 0 59 a r0 rfl rfl c0
      rw [show f_cron_Parse_l13 s [a, b, c, d, f] [⟨0, 59⟩, ⟨0, 23⟩, ⟨1, 31⟩, ⟨1, 12⟩, ⟨0, 6⟩] (((5 : Int) - 0).toNat + 1) 0 (List.replicate 5 0) = _ from q0]
      cases r0 with
      | none => exact ⟨_, false, rfl, CW_zero⟩
      | some n0 =>
        dsimp only
        rw [step13 s [a, b, c, d, f] [⟨0, 59⟩, ⟨0, 23⟩, ⟨1, 31⟩, ⟨1, 12⟩, ⟨0, 6⟩] rfl 1 4 (by omega) ([0, 0, 0, 0, 0].set 0 (n0 : Int)) rfl 0 23 b r1 rfl rfl c1]
        cases r1 with
        | none => exact ⟨_, false, rfl, CW_zero⟩
        | some n1 =>
          dsimp only
          rw [step13 s [a, b, c, d, f] [⟨0, 59⟩, ⟨0, 23⟩, ⟨1, 31⟩, ⟨1, 12⟩, ⟨0, 6⟩] rfl 2 3 (by omega) (([0, 0, 0, 0, 0].set 0 (n0 : Int)).set 1 (n1 : Int)) rfl 1 31 c r2 rfl rfl c2]
          cases r2 with
          | none => exact ⟨_, false, rfl, CW_zero⟩
          | some n2 =>
            dsimp only
            rw [step13 s [a, b, c, d, f] [⟨0, 59⟩, ⟨0, 23⟩, ⟨1, 31⟩, ⟨1, 12⟩, ⟨0, 6⟩] rfl 3 2 (by omega) ((([0, 0, 0, 0, 0].set 0 (n0 : Int)).set 1 (n1 : Int)).set 2 (n2 : Int)) rfl 1 12 d r3 rfl rfl c3]
            cases r3 with
            | none => exact ⟨_, false, rfl, CW_zero⟩
            | some n3 =>
              dsimp only
              rw [step13 s [a, b, c, d, f] [⟨0, 59⟩, ⟨0, 23⟩, ⟨1, 31⟩, ⟨1, 12⟩, ⟨0, 6⟩] rfl 4 1 (by omega) (((([0, 0, 0, 0, 0].set 0 (n0 : Int)).set 1 (n1 : Int)).set 2 (n2 : Int)).set 3 (n3 : Int)) rfl 0 6 f r4 rfl rfl c4]
              cases r4 with
              | none => exact ⟨_, false, rfl, CW_zero⟩
              | some n4 =>
                refine ⟨⟨n0, n1, n2, n3, n4, c == [42], f == [42]⟩, true, ?_, ?_⟩
                rotate_left
                · have a0 := m0 _ rfl
                  have a1 := m1 _ rfl
                  have a2 := m2 _ rfl
                  have a3 := m3 _ rfl
                  have a4 := m4 _ rfl
                  unfold CW; dsimp only; omega
                dsimp only
                rw [f_cron_Parse_l13, if_neg (by decide), Option.bind_some]
                rfl
    · have e5 : (((splitOnB 32 s).length : Int) != 5) = true := by
        rw [bne_iff_ne]; omega
      rw [e5, if_pos rfl]
      exact ⟨_, false, rfl, CW_zero⟩
end Go.Proofs.YtedibjgdangfnaaGreatDoor.V.M.Cr
end

section
/- The two ways to turn a word agree; mixed, step and block over words. -/
namespace Go.Proofs.YtedibjgdangfnaaGreatDoor.V.M
set_option linter.unusedVariables false
set_option linter.unusedSimpArgs false
open Go Go.RowKit
def sg0 (x : BitVec 32) := rot 7 x ^^^ rot 18 x ^^^ (x >>> 3)
def sg1 (x : BitVec 32) := rot 17 x ^^^ rot 19 x ^^^ (x >>> 10)
def bg0 (x : BitVec 32) := rot 2 x ^^^ rot 13 x ^^^ rot 22 x
def bg1 (x : BitVec 32) := rot 6 x ^^^ rot 11 x ^^^ rot 25 x
def Cb (c : UInt8) : BitVec 32 := BitVec.ofNat 32 c.toNat
theorem bn_B (c : UInt8) : IntKind.u32.wrap (bn c) = B (Cb c) := by
  rw [w_u32]; unfold bn Cb; exact B_mod _
def wd (a b c d : UInt8) : BitVec 32 := Cb a <<< 24 ||| Cb b <<< 16 ||| Cb c <<< 8 ||| Cb d
theorem mn24 : min 24 IntKind.u32.bits = 24 := rfl
theorem mn16 : min 16 IntKind.u32.bits = 16 := rfl
theorem mn8 : min 8 IntKind.u32.bits = 8 := rfl
theorem wd_eq (a b c d : UInt8) : 256#32 * (256#32 * (256#32 * (256#32 * 0#32 + Cb a) + Cb b) + Cb c) + Cb d = wd a b c d := by
  apply BitVec.eq_of_toNat_eq
  unfold wd Cb
  have ha := a.toNat_lt; have hb := b.toNat_lt; have hc := c.toNat_lt; have hd := d.toNat_lt
  simp only [BitVec.toNat_add, BitVec.toNat_mul, BitVec.toNat_or, BitVec.toNat_shiftLeft, BitVec.toNat_ofNat, Nat.shiftLeft_eq]
  rw [Nat.or_assoc, Nat.or_assoc, Nat.mod_eq_of_lt (show d.toNat < 2 ^ 32 by omega), Nat.mod_eq_of_lt (show c.toNat < 2 ^ 32 by omega), Nat.mod_eq_of_lt (show b.toNat < 2 ^ 32 by omega), Nat.mod_eq_of_lt (show a.toNat < 2 ^ 32 by omega),
    Nat.mod_eq_of_lt (show c.toNat * 2 ^ 8 < 2 ^ 32 by omega), Nat.mod_eq_of_lt (show b.toNat * 2 ^ 16 < 2 ^ 32 by omega), Nat.mod_eq_of_lt (show a.toNat * 2 ^ 24 < 2 ^ 32 by omega),
    Nat.mul_comm c.toNat, Nat.mul_comm b.toNat, Nat.mul_comm a.toNat, ← Nat.two_pow_add_eq_or_of_lt (show d.toNat < 2 ^ 8 by omega),
    ← Nat.two_pow_add_eq_or_of_lt (show 2 ^ 8 * c.toNat + d.toNat < 2 ^ 16 by omega), ← Nat.two_pow_add_eq_or_of_lt (show 2 ^ 16 * b.toNat + (2 ^ 8 * c.toNat + d.toNat) < 2 ^ 24 by omega)]
  omega
end Go.Proofs.YtedibjgdangfnaaGreatDoor.V.M
end

section
/- The words of a block, and a block, computed in both ways. -/
namespace Go.Proofs.YtedibjgdangfnaaGreatDoor.V.M
set_option linter.unusedVariables false
set_option linter.unusedSimpArgs false
open Go Go.RowKit
def wr (s : Str) (i : Nat) : BitVec 32 := wd (s.getD (4 * i) 0) (s.getD (4 * i + 1) 0) (s.getD (4 * i + 2) 0) (s.getD (4 * i + 3) 0)
def nxWord (s : Str) (i : Nat) (l : List (BitVec 32)) : BitVec 32 :=
  if i < 16 then wr s i else sg1 (l.getD (i - 2) 0#32) + l.getD (i - 7) 0#32 + sg0 (l.getD (i - 15) 0#32) + l.getD (i - 16) 0#32
def sch (s : Str) : Nat → List (BitVec 32)
  | 0 => []
  | i + 1 => sch s i ++ [nxWord s i (sch s i)]
theorem sch_len (s : Str) (i : Nat) : (sch s i).length = i := by
  induction i with
  | zero => rfl
  | succ i ih => simp [sch, ih]
def W0 (s : Str) (i : Nat) : List Int := (sch s i).map B ++ List.replicate (64 - i) 0
theorem ix_sch (s : Str) (i j : Nat) (h : j < i) (r : List Int) : ix ((sch s i).map B ++ r) (j : Int) = some (B ((sch s i).getD j 0#32)) := by
  rw [ix_nat, List.getElem?_append_left (by simpa [sch_len] using h), List.getElem?_map, List.getElem?_eq_getElem (by simpa [sch_len] using h), List.getD_eq_getElem?_getD, List.getElem?_eq_getElem (by simpa [sch_len] using h)]; rfl
theorem ix_W0 (s : Str) (i j : Nat) (h : j < i) : ix (W0 s i) (j : Int) = some (B ((sch s i).getD j 0#32)) := ix_sch s i j h _
theorem ix_V0 (s : Str) (i j : Nat) (h : j < i) : ix ((sch s i).map B) (j : Int) = some (B ((sch s i).getD j 0#32)) := by
  have := ix_sch s i j h []; rwa [List.append_nil] at this
theorem W0_len (s : Str) (i : Nat) (h : i ≤ 64) : (W0 s i).length = 64 := by simp [W0, sch_len]; omega
theorem W0_set (s : Str) (i : Nat) (h : i < 64) (y : Int) (hy : y = B (nxWord s i (sch s i))) : (W0 s i).set i y = W0 s (i + 1) := by
  subst hy
  unfold W0
  rw [show 64 - i = (64 - (i + 1)) + 1 from by omega, List.replicate_succ, List.set_append_right _ _ (by simp [sch_len])]
  simp [sch_len, sch]
end Go.Proofs.YtedibjgdangfnaaGreatDoor.V.M
end

section
/- A block, computed in both ways. -/
namespace Go.Proofs.YtedibjgdangfnaaGreatDoor.V.M
set_option linter.unusedVariables false
set_option linter.unusedSimpArgs false
open Go Go.RowKit
theorem ix_map (l : List (BitVec 32)) (j : Nat) (h : j < l.length) : ix (l.map B) (j : Int) = some (B (l.getD j 0#32)) := by
  rw [ix_nat, List.getElem?_map, List.getElem?_eq_getElem h, List.getD_eq_getElem?_getD, List.getElem?_eq_getElem h]; rfl
def rnd (k w : BitVec 32) : List (BitVec 32) → List (BitVec 32)
  | [a, b, c, d, e, f, g, h] =>
    [h + bg1 e + (e &&& f ^^^ (~~~ e) &&& g) + k + w + (bg0 a + (a &&& b ^^^ a &&& c ^^^ b &&& c)), a, b, c, d + (h + bg1 e + (e &&& f ^^^ (~~~ e) &&& g) + k + w), e, f, g]
  | v => v
theorem len8 {α : Type} (l : List α) (h : l.length = 8) : ∃ a b c d e f g i, l = [a, b, c, d, e, f, g, i] := by
  match l, h with
  | [a, b, c, d, e, f, g, i], _ => exact ⟨a, b, c, d, e, f, g, i, rfl⟩
theorem rnd_len (k w : BitVec 32) (v : List (BitVec 32)) (h : v.length = 8) : (rnd k w v).length = 8 := by
  obtain ⟨a, b, c, d, e, f, g, i, rfl⟩ := len8 v h; rfl
theorem bsn {α β : Type} (a : α) (f : α → Option β) : (some a).bind f = f a := Eq.trans (Option.bind_some a f) rfl
theorem gdc0 (a : BitVec 32) (l : List (BitVec 32)) : (a :: l).getD 0 0#32 = a := Eq.trans List.getD_cons_zero rfl
theorem gdc1 (a : BitVec 32) (l : List (BitVec 32)) (n : Nat) : (a :: l).getD (n + 1) 0#32 = l.getD n 0#32 := Eq.trans List.getD_cons_succ rfl
theorem ix8 (a b c d e f g i : BitVec 32) : ix ([a, b, c, d, e, f, g, i].map B) 0 = some (B a) ∧ ix ([a, b, c, d, e, f, g, i].map B) 1 = some (B b) ∧ ix ([a, b, c, d, e, f, g, i].map B) 2 = some (B c) ∧ ix ([a, b, c, d, e, f, g, i].map B) 3 = some (B d) ∧ ix ([a, b, c, d, e, f, g, i].map B) 4 = some (B e) ∧ ix ([a, b, c, d, e, f, g, i].map B) 5 = some (B f) ∧ ix ([a, b, c, d, e, f, g, i].map B) 6 = some (B g) ∧ ix ([a, b, c, d, e, f, g, i].map B) 7 = some (B i) := ⟨rfl, rfl, rfl, rfl, rfl, rfl, rfl, rfl⟩
theorem nx_take (s : Str) (i : Nat) (l : List (BitVec 32)) : nxWord (s.take 64) i l = nxWord s i l := by
  have e : ∀ j, j < 64 → (s.take 64).getD j 0 = s.getD j 0 := by
    intro j hj; rw [List.getD_eq_getElem?_getD, List.getD_eq_getElem?_getD, List.getElem?_take_of_lt hj]
  unfold nxWord
  by_cases c : i < 16
  · rw [if_pos c, if_pos c]; unfold wr; rw [e _ (by omega), e _ (by omega), e _ (by omega), e _ (by omega)]
  · rw [if_neg c, if_neg c]
theorem sch_take (s : Str) (i : Nat) : sch (s.take 64) i = sch s i := by
  induction i with
  | zero => rfl
  | succ i ih => rw [sch, sch, ih, nx_take]
end Go.Proofs.YtedibjgdangfnaaGreatDoor.V.M
end

section
/- The sum of a text, computed in both ways. -/
namespace Go.Proofs.YtedibjgdangfnaaGreatDoor.V.M
set_option linter.unusedVariables false
set_option linter.unusedSimpArgs false
open Go Go.RowKit
def padS (s : Str) : Str := s ++ List.replicate ((120 - s.length % 64) % 64) 0
theorem padS_next (s : Str) (h : s.length % 64 ≠ 56) : padS (s ++ [0]) = padS s := by
  unfold padS
  rw [List.length_append, List.append_assoc, show ([0] : Str) = List.replicate 1 0 from rfl, List.replicate_append_replicate, List.length_replicate]
  congr 2; omega
theorem padS_end (s : Str) (h : s.length % 64 = 56) : padS s = s := by
  unfold padS; rw [h]; simp
theorem padS_len (s : Str) : (padS s).length % 64 = 56 ∧ (padS s).length ≤ s.length + 63 ∧ s.length ≤ (padS s).length := by
  unfold padS; rw [List.length_append, List.length_replicate]; omega
theorem tm64 (n : Nat) : ((((n : Int).tmod 64) != 56) = true) ↔ n % 64 ≠ 56 := by
  rw [Int.tmod_eq_emod_of_nonneg (Int.natCast_nonneg _)]; simp; omega
theorem map_bn0 (s : Str) : s.map bn ++ ([0] : List Int) = (s ++ [0]).map bn := by rw [List.map_append]; rfl
def byt (T j : Nat) : UInt8 := UInt8.ofNat (T / 2 ^ (8 * j))
def lbs (T : Nat) : Str := [byt T 7, byt T 6, byt T 5, byt T 4, byt T 3, byt T 2, byt T 1, byt T 0]
def Tb (n : Nat) : Nat := n * 8 % 18446744073709551616
theorem T_ok (n : Nat) (h : n ≤ 140737488355328) : IntKind.u64.wrap ((IntKind.u64.wrap (n : Int)) * 8) = (Tb n : Int) := by
  rw [w_u64 (n := (n : Int)) (by omega) (by omega), w_u64 (by omega) (by omega)]; unfold Tb; omega
theorem pow_c (n : Nat) : (2 : Int) ^ n = ((2 ^ n : Nat) : Int) := by rw [Int.natCast_pow]; rfl
theorem nb_mod (n : Nat) : nb (((n % 256 : Nat)) : Int) = UInt8.ofNat n := by
  unfold nb; rw [Int.toNat_natCast]; apply UInt8.toNat_inj.mp; rw [UInt8.toNat_ofNat', UInt8.toNat_ofNat', Nat.mod_mod]
theorem byt_f (T j : Nat) (hj : j < 8) : nb (IntKind.u8.wrap ((T : Int).fdiv (2 ^ (min (IntKind.i64.wrap (8 * (j : Int))).toNat IntKind.u64.bits)))) = byt T j := by
  rw [w_i64 (by omega) (by omega), show min (8 * (j : Int)).toNat IntKind.u64.bits = 8 * j from by show min _ 64 = _; omega, pow_c, Int.fdiv_eq_ediv_of_nonneg _ (Int.natCast_nonneg _), w_u8, ← Int.natCast_ediv]
  exact nb_mod _
theorem byt_t (T j : Nat) (hT : T < 18446744073709551616) : IntKind.u8.wrap ((IntKind.u64.wrap ((T : Int).tdiv ((2 ^ (8 * j) : Nat) : Int))).tmod 256) = bn (byt T j) := by
  rw [Int.tdiv_eq_ediv_of_nonneg (Int.natCast_nonneg _), ← Int.natCast_ediv, w_u64 (Int.natCast_nonneg _) (by have := Nat.div_le_self T (2 ^ (8 * j)); omega), Int.tmod_eq_emod_of_nonneg (Int.natCast_nonneg _), w_u8]
  unfold bn byt; rw [UInt8.toNat_ofNat']; omega
end Go.Proofs.YtedibjgdangfnaaGreatDoor.V.M
end

section
/- The sum of a text, computed in both ways: the blocks, and what is handed back. -/
namespace Go.Proofs.YtedibjgdangfnaaGreatDoor.V.M
set_option linter.unusedVariables false
set_option linter.unusedSimpArgs false
open Go Go.RowKit
theorem nb_bn (s : Str) : (s.map bn).map nb = s := by
  rw [List.map_map]
  have : nb ∘ bn = id := by funext c; simp [nb, bn]
  rw [this, List.map_id]
def o4 (x : Int) : List Int := [(IntKind.u8.wrap (x.fdiv (2 ^ (min 24 IntKind.u32.bits)))), (IntKind.u8.wrap (x.fdiv (2 ^ (min 16 IntKind.u32.bits)))), (IntKind.u8.wrap (x.fdiv (2 ^ (min 8 IntKind.u32.bits)))), (IntKind.u8.wrap x)]
def p4 (x : Int) : List Int := [(IntKind.u8.wrap (IntKind.u32.wrap (x.tdiv 16777216))), (IntKind.u8.wrap ((IntKind.u32.wrap (x.tdiv 65536)).tmod 256)), (IntKind.u8.wrap ((IntKind.u32.wrap (x.tdiv 256)).tmod 256)), (IntKind.u8.wrap (x.tmod 256))]
theorem m8 (y : BitVec 32) : IntKind.u8.wrap ((B y).tmod 256) = IntKind.u8.wrap (B y) := by
  have := B_lt y
  rw [Int.tmod_eq_emod_of_nonneg this.1, w_u8, w_u8]; omega
theorem p4_eq (x : BitVec 32) : p4 (B x) = o4 (B x) := by
  unfold p4 o4
  rw [divB x 24 16777216 rfl, divB x 16 65536 rfl, divB x 8 256 rfl, m8, m8, m8, mn24, mn16, mn8, shr_B, shr_B, shr_B]
def firstB : List (BitVec 32) := [1779033703#32, 3144134277#32, 1013904242#32, 2773480762#32, 1359893119#32, 2600822924#32, 528734635#32, 1541459225#32]
def full (s : Str) : Str := padS (s ++ [128]) ++ lbs (Tb s.length)
theorem full_len (s : Str) : (full s).length = 64 * ((full s).length / 64) ∧ (full s).length ≤ s.length + 72 ∧ (full s).length = (padS (s ++ [128])).length + 8 := by
  have := padS_len (s ++ [128])
  unfold full
  rw [List.length_append] at *
  have e : (lbs (Tb s.length)).length = 8 := rfl
  simp only [List.length_cons, List.length_nil] at *
  omega
end Go.Proofs.YtedibjgdangfnaaGreatDoor.V.M
end

section
/- Plain lemmas of layer 1 (octet): digits, numbers in bytes; no program in sight. -/
namespace Go.Proofs.YtedibjgdangfnaaGreatDoor
set_option linter.unusedVariables false
set_option linter.unusedSimpArgs false
/-- The sixteen digits. -/
def digs : List UInt8 := [48, 49, 50, 51, 52, 53, 54, 55, 56, 57, 97, 98, 99, 100, 101, 102]
def dig (n : Nat) : UInt8 := digs.getD n 0
def hex2 (c : UInt8) : List UInt8 := [dig (c.toNat / 16), dig (c.toNat % 16)]
def hexl (l : List UInt8) : List UInt8 := l.flatMap hex2
theorem hexl_nil : hexl [] = [] := rfl
theorem hexl_append (a b : List UInt8) : hexl (a ++ b) = hexl a ++ hexl b := by simp [hexl]
theorem hexl_length (l : List UInt8) : (hexl l).length = 2 * l.length := by
  induction l with
  | nil => rfl
  | cons c l ih => simp only [hexl, List.flatMap_cons, List.length_append, List.length_cons] at *; simp only [hex2, List.length_cons, List.length_nil]; omega
theorem take_snoc (s : ByteArray) (k : Nat) (h : k < s.size) : s.data.toList.take (k + 1) = s.data.toList.take k ++ [s[k]] := by
  rw [List.take_succ_eq_append_getElem (by simpa using h)]; rfl
theorem hexl_snoc (s : ByteArray) (k : Nat) (h : k < s.size) : hexl (s.data.toList.take (k + 1)) = hexl (s.data.toList.take k) ++ [dig (s[k].toNat / 16)] ++ [dig (s[k].toNat % 16)] := by
  rw [take_snoc s k h, hexl_append]; simp [hexl, hex2]
theorem dig_get (n : Nat) (h : n < (ByteArray.mk #[48, 49, 50, 51, 52, 53, 54, 55, 56, 57, 97, 98, 99, 100, 101, 102]).size) : ((ByteArray.mk #[48, 49, 50, 51, 52, 53, 54, 55, 56, 57, 97, 98, 99, 100, 101, 102])[n].toNat : Int) = ((dig n).toNat : Int) := by
  have h' : n < 16 := h
  rcases n with _ | _ | _ | _ | _ | _ | _ | _ | _ | _ | _ | _ | _ | _ | _ | _ | n
  all_goals first | rfl | omega
/-- A number's bytes, the lowest one first. -/
def wideL (n : Int) (m : Nat) : List Int := (List.range m).map fun i => n / 2 ^ (8 * i) % 256
/-- Its error: 1 for a size that may not be, 2 for a number that does not fit. -/
def wideE (n size : Int) : Int := if size < 0 ∨ 8 < size then 1 else if size < 8 ∧ n / 2 ^ (8 * size.toNat) ≠ 0 then 2 else 0
def wideS (n size : Int) : ByteArray := if wideE n size = 0 then strOfNums (wideL n size.toNat) else ⟨#[]⟩
theorem wideL_length (n : Int) (m : Nat) : (wideL n m).length = m := by simp [wideL]
theorem wideL_succ (n : Int) (m : Nat) : wideL n (m + 1) = wideL n m ++ [n / 2 ^ (8 * m) % 256] := by simp [wideL, List.range_succ]
theorem wideL_set (n : Int) (k m : Nat) (h : k < m) : (wideL n k ++ List.replicate (m - k) (0 : Int)).set k (n / 2 ^ (8 * k) % 256) = wideL n (k + 1) ++ List.replicate (m - (k + 1)) 0 := by
  obtain ⟨j, hj⟩ : ∃ j, m - k = j + 1 := ⟨m - k - 1, by omega⟩
  rw [hj, show m - (k + 1) = j by omega, wideL_succ, List.set_append_right _ _ (by rw [wideL_length]; omega), wideL_length, Nat.sub_self, List.replicate_succ, List.set_cons_zero, List.append_assoc, List.singleton_append]
theorem wideE_arg {n size : Int} (h : size < 0 ∨ 8 < size) : wideE n size = 1 := by unfold wideE; rw [if_pos h]
theorem wideE_long {n : Int} {m : Nat} (h : m < 8 ∧ n / 2 ^ (8 * m) ≠ 0) : wideE n m = 2 := by
  unfold wideE; rw [if_neg (by omega), Int.toNat_natCast, if_pos ⟨by omega, h.2⟩]
theorem wideE_ok {n : Int} {m : Nat} (hm : m ≤ 8) (hf : m < 8 → n / 2 ^ (8 * m) = 0) : wideE n m = 0 := by
  unfold wideE; rw [if_neg (by omega), Int.toNat_natCast, if_neg (fun h => h.2 (hf (by omega)))]
theorem wideS_err {n size : Int} (h : wideE n size ≠ 0) : wideS n size = ⟨#[]⟩ := by unfold wideS; rw [if_neg h]
theorem wideS_ok {n : Int} {m : Nat} (hm : m ≤ 8) (hf : m < 8 → n / 2 ^ (8 * m) = 0) : wideS n m = strOfNums (wideL n m) := by
  unfold wideS; rw [if_pos (wideE_ok hm hf), Int.toNat_natCast]
theorem cut_size (s : ByteArray) (m : Nat) : (s.extract 0 (if (m : Int) < (s.size : Int) then (m : Int) else (s.size : Int)).toNat).size ≤ m := by
  rw [ByteArray.size_extract]; split <;> omega
theorem tmod8_lo (n : Int) : -7 ≤ n.tmod 8 := by have := Int.lt_tmod_of_pos n (b := 8) (by decide); omega
theorem tmod8_hi (n : Int) : n.tmod 8 ≤ 7 := by have := Int.tmod_lt_of_pos n (b := 8) (by decide); omega
/-- A text's digits. -/
def hexS (s : ByteArray) : ByteArray := ⟨(hexl s.data.toList).toArray⟩
theorem hexS_size (s : ByteArray) : (hexS s).size = 2 * s.size := by
  show (hexl s.data.toList).toArray.size = _
  rw [List.size_toArray, hexl_length, Array.length_toList]; rfl
theorem hexS_append (a b : ByteArray) : hexS (a ++ b) = hexS a ++ hexS b := by
  unfold hexS
  apply ByteArray.ext
  rw [ByteArray.data_append, ByteArray.data_append, Array.toList_append, hexl_append, List.append_toArray]
theorem wideE_zero {n : Int} {m : Nat} (hm : m ≤ 7) (h : wideE n m = 0) : n / 2 ^ (8 * m) = 0 := by
  unfold wideE at h
  rw [if_neg (by omega), Int.toNat_natCast] at h
  refine Decidable.not_not.1 fun hn => ?_
  rw [if_pos ⟨by omega, hn⟩] at h
  exact absurd h (by decide)
theorem div_pow_zero {n : Int} {a b : Nat} (h : n / 2 ^ a = 0) : n / 2 ^ (a + b) = 0 := by
  rw [Int.pow_add, ← Int.ediv_ediv_of_nonneg (Int.pow_nonneg (by decide)), h, Int.zero_ediv]
theorem wideE_moreN {n : Int} {m : Nat} (hm : m ≤ 7) (h : wideE n m = 0) : wideE n (↑m + 1) = 0 := by
  have h0 := wideE_zero hm h
  rw [show (m : Int) + 1 = ((m + 1 : Nat) : Int) by omega]
  exact wideE_ok (by omega) fun _ => by rw [Nat.mul_add]; exact div_pow_zero h0
theorem wideS_sizeN {n : Int} {m : Nat} (hm : m ≤ 7) (h : wideE n m = 0) : (wideS n m).size = m := by
  unfold wideS; rw [if_pos h, strOfNums_size, wideL_length, Int.toNat_natCast]
theorem strOfNums_append (xs ys : List Int) : strOfNums (xs ++ ys) = strOfNums xs ++ strOfNums ys := by
  apply ByteArray.ext
  rw [ByteArray.data_append]
  simp only [strOfNums, List.map_append, List.append_toArray]
theorem wideS_moreN {n : Int} {m : Nat} (hm : m ≤ 7) (h : wideE n m = 0) : wideS n (↑m + 1) = wideS n m ++ ⟨#[0]⟩ := by
  have h0 := wideE_zero hm h
  have h1 := wideE_moreN hm h
  unfold wideS
  rw [if_pos h, if_pos h1, show (m : Int) + 1 = ((m + 1 : Nat) : Int) by omega, Int.toNat_natCast, Int.toNat_natCast, wideL_succ, strOfNums_append, h0]
  rfl
theorem wideE_more {n q : Int} (h0 : 0 ≤ q) (h7 : q ≤ 7) (h : wideE n q = 0) : wideE n (q + 1) = 0 := by
  obtain ⟨m, rfl⟩ := Int.eq_ofNat_of_zero_le h0; exact wideE_moreN (by omega) h
theorem wideS_size {n q : Int} (h0 : 0 ≤ q) (h7 : q ≤ 7) (h : wideE n q = 0) : (wideS n q).size ≤ 8 := by
  obtain ⟨m, rfl⟩ := Int.eq_ofNat_of_zero_le h0; rw [wideS_sizeN (by omega) h]; omega
theorem wideS_more {n q : Int} (h0 : 0 ≤ q) (h7 : q ≤ 7) (h : wideE n q = 0) : wideS n (q + 1) = wideS n q ++ ⟨#[0]⟩ := by
  obtain ⟨m, rfl⟩ := Int.eq_ofNat_of_zero_le h0; exact wideS_moreN (by omega) h
/-- Byte k of a text, as a number; 0 behind its end. -/
def bN (s : ByteArray) (k : Nat) : Nat := (s.data.toList.getD k 0).toNat
theorem bN_at (s : ByteArray) : ∀ (n : Nat) (h : n < s.size), (s[n]'h).toNat = bN s n := fun n h => by
  unfold bN
  rw [List.getD_eq_getElem?_getD, List.getElem?_eq_getElem (by rw [Array.length_toList]; exact h)]
  rfl
theorem bN_lt (s : ByteArray) (k : Nat) : bN s k < 256 := UInt8.toNat_lt _
/-- A digit's number; 16: it is none. -/
def hv (c : Nat) : Nat := if 48 ≤ c ∧ c ≤ 57 then c - 48 else if 97 ≤ c ∧ c ≤ 102 then c - 87 else 16
theorem hv_le (c : Nat) : hv c ≤ 16 := by unfold hv; split <;> (try split) <;> omega
/-- Are texts digits, of whole bytes? -/
def hexOk (s : ByteArray) : Prop := s.size % 2 = 0 ∧ ∀ j, j < s.size → hv (bN s j) < 16
def hexAt (s : ByteArray) (j : Nat) : Int := hv (bN s (2 * j)) * 16 + hv (bN s (2 * j + 1))
def hexTo (s : ByteArray) (k : Nat) : List Int := (List.range k).map (hexAt s)
def unhexS (s : ByteArray) : ByteArray := strOfNums (hexTo s (s.size / 2))
theorem hexTo_length (s : ByteArray) (k : Nat) : (hexTo s k).length = k := by simp [hexTo]
theorem hexTo_succ (s : ByteArray) (k : Nat) : hexTo s (k + 1) = hexTo s k ++ [hexAt s k] := by simp [hexTo, List.range_succ]
theorem hexTo_set (s : ByteArray) (k m : Nat) (h : k < m) : (hexTo s k ++ List.replicate (m - k) (0 : Int)).set k (hexAt s k) = hexTo s (k + 1) ++ List.replicate (m - (k + 1)) 0 := by
  obtain ⟨j, hj⟩ : ∃ j, m - k = j + 1 := ⟨m - k - 1, by omega⟩
  rw [hj, show m - (k + 1) = j by omega, hexTo_succ, List.set_append_right _ _ (by rw [hexTo_length]; omega), hexTo_length, Nat.sub_self, List.replicate_succ, List.set_cons_zero, List.append_assoc, List.singleton_append]
/-- A number of bytes, the lowest one first. -/
def leN : List UInt8 → Nat
  | [] => 0
  | c :: l => c.toNat + 256 * leN l
theorem leN_append (a b : List UInt8) : leN (a ++ b) = leN a + 256 ^ a.length * leN b := by
  induction a with
  | nil => simp [leN]
  | cons c a ih => simp only [List.cons_append, leN, ih, List.length_cons, Nat.pow_succ, Nat.mul_add, Nat.mul_comm, Nat.mul_assoc, Nat.mul_left_comm]; omega
theorem leN_lt (l : List UInt8) : leN l < 256 ^ l.length := by
  induction l with
  | nil => simp [leN]
  | cons c l ih => have := c.toNat_lt; simp only [leN, List.length_cons, Nat.pow_succ]; omega
def wholeN (s : ByteArray) : Nat := leN s.data.toList
theorem take_all (s : ByteArray) : s.data.toList.take s.size = s.data.toList := List.take_of_length_le (by rw [Array.length_toList]; exact Nat.le_refl _)
/-- A half's digit, as the reference writes it. -/
theorem dig_low (n : Nat) (h : n < 10) : ((dig n).toNat : Int) = 48 + n := by
  have : ∀ n : Fin 10, ((dig n.val).toNat : Int) = 48 + n.val := by decide
  exact this ⟨n, h⟩
theorem dig_high (n : Nat) (h : n < 16) (h1 : ¬ n < 10) : ((dig n).toNat : Int) = 97 + n - 10 := by
  have : ∀ n : Fin 16, ¬ n.val < 10 → ((dig n.val).toNat : Int) = 97 + n.val - 10 := by decide
  exact this ⟨n, h⟩ h1
def numsOf (l : List UInt8) : List Int := l.map fun c => (c.toNat : Int)
theorem numsOf_append (a b : List UInt8) : numsOf (a ++ b) = numsOf a ++ numsOf b := by simp [numsOf]
theorem numsOf_length (a : List UInt8) : (numsOf a).length = a.length := by simp [numsOf]
theorem str_numsOf (l : List UInt8) : strOfNums (numsOf l) = ⟨l.toArray⟩ := by
  unfold strOfNums numsOf
  congr 2
  rw [List.map_map]
  conv => rhs; rw [← List.map_id l]
  apply List.map_congr_left
  intro c _
  simp
def numsHex (c : Nat) : List Int := [((dig (c / 16)).toNat : Int), ((dig (c % 16)).toNat : Int)]
theorem hexl_snocN (s : ByteArray) (k : Nat) (h : k < s.size) : numsOf (hexl (s.data.toList.take (k + 1))) = numsOf (hexl (s.data.toList.take k)) ++ numsHex (bN s k) := by
  rw [hexl_snoc s k h, numsOf_append, numsOf_append, bN_at s k h, List.append_assoc]; rfl
theorem nh0 (A : List Int) (c : Nat) (x : Int) (h : ((dig (c / 16)).toNat : Int) = x) : A ++ (numsHex c).take 0 ++ [x] = A ++ (numsHex c).take 1 := by simp [numsHex, h]
theorem nh1 (A : List Int) (c : Nat) (x : Int) (h : ((dig (c % 16)).toNat : Int) = x) : A ++ (numsHex c).take 1 ++ [x] = A ++ (numsHex c).take 2 := by simp [numsHex, h]
theorem imod_mul (n : Int) (hn : 0 ≤ n) (a b : Nat) : n % ((a : Int) * b) = n % a + a * (n / a % b) := by
  obtain ⟨N, rfl⟩ := Int.eq_ofNat_of_zero_le hn
  exact_mod_cast (Nat.mod_mul (x := N) (a := a) (b := b))
theorem leN_wide (n : Int) (hn : 0 ≤ n) (m : Nat) : (leN ((wideL n m).map fun x => UInt8.ofNat x.toNat) : Int) = n % 2 ^ (8 * m) := by
  induction m with
  | zero => simp [wideL, leN, Int.emod_one]
  | succ m ih =>
    rw [wideL_succ, List.map_append, leN_append, List.length_map, wideL_length, Int.natCast_add, ih]
    have h0 : 0 ≤ n / 2 ^ (8 * m) := Int.ediv_nonneg hn (Int.pow_nonneg (by decide))
    have h1 : 0 ≤ n / 2 ^ (8 * m) % 256 := Int.emod_nonneg _ (by decide)
    have h2 : n / 2 ^ (8 * m) % 256 < 256 := Int.emod_lt_of_pos _ (by decide)
    have h3 : leN ([n / 2 ^ (8 * m) % 256].map fun x => UInt8.ofNat x.toNat) = (n / 2 ^ (8 * m) % 256).toNat := by
      simp only [List.map_cons, List.map_nil, leN, UInt8.toNat_ofNat']
      omega
    have e : (256 : Int) ^ m = 2 ^ (8 * m) := by rw [Int.pow_mul]; rfl
    rw [h3, Int.natCast_mul, Int.natCast_pow, Int.toNat_of_nonneg h1, show ((256 : Nat) : Int) = 256 from rfl, e, Nat.mul_add, Int.pow_add, show (2 : Int) ^ (8 * 1) = 256 from rfl]
    exact (imod_mul n hn (2 ^ (8 * m)) 256).symm
theorem wholeN_wide (n : Int) (hn : 0 ≤ n) (m : Nat) : (wholeN (strOfNums (wideL n m)) : Int) = n % 2 ^ (8 * m) := leN_wide n hn m
/-- What the laws of layer 1 speak of: so many texts, cut. -/
def fewL (xs : List ByteArray) : List ByteArray := (xs.take 66).map fun s => s.extract 0 (min s.size 4100)
/-- Texts that may be bound, and what they are bound to. -/
def mayBind (xs : List ByteArray) : Prop := xs.length ≤ 64 ∧ ∀ x ∈ xs, x.size ≤ 4096
def bind1 (x : ByteArray) : List UInt8 := (wideS x.size 2).data.toList ++ x.data.toList
def bindL (xs : List ByteArray) : List UInt8 := xs.flatMap bind1
def bindS (xs : List ByteArray) : ByteArray := ⟨(bindL xs).toArray⟩
theorem getD_at {α : Type} (xs : List α) (k : Nat) (d : α) (h : k < xs.length) : xs.getD k d = xs[k] := by rw [List.getD_eq_getElem?_getD, List.getElem?_eq_getElem h]; rfl
theorem take_next (xs : List ByteArray) (k : Nat) (h : k < xs.length) : xs.take (k + 1) = xs.take k ++ [xs.getD k ByteArray.empty] := by
  rw [List.take_succ_eq_append_getElem h, getD_at _ _ _ h]
theorem bindL_take (xs : List ByteArray) (k : Nat) (h : k < xs.length) : bindL (xs.take (k + 1)) = bindL (xs.take k) ++ (wideS (xs.getD k ByteArray.empty).size 2).data.toList ++ (xs.getD k ByteArray.empty).data.toList := by
  rw [take_next xs k h]; simp [bindL, bind1]
theorem all_take {p : ByteArray → Prop} (xs : List ByteArray) (k : Nat) (h : k < xs.length) (ha : ∀ x ∈ xs.take k, p x) : p (xs.getD k ByteArray.empty) → ∀ x ∈ xs.take (k + 1), p x := fun hp x hx => by
  rw [take_next xs k h, List.mem_append, List.mem_singleton] at hx
  rcases hx with hx | rfl
  · exact ha x hx
  · exact hp
theorem no_take (xs : List ByteArray) (k : Nat) (h : k < xs.length) : 4096 < (xs.getD k ByteArray.empty).size → ¬ mayBind xs := fun h4 hm => by
  have := hm.2 (xs.getD k ByteArray.empty) (by rw [getD_at _ _ _ h]; exact List.getElem_mem h)
  omega
theorem wide2_size (n : Nat) (h : n ≤ 4096) : (wideS n 2).size = 2 := by
  have hf : (2 : Nat) < 8 → (n : Int) / 2 ^ (8 * 2) = 0 := fun _ => by omega
  rw [show (2 : Int) = ((2 : Nat) : Int) from rfl, wideS_ok (by omega) hf, strOfNums_size, wideL_length]
theorem wide2_err (n : Nat) (h : n ≤ 4096) : wideE n 2 = 0 := by
  have hf : (2 : Nat) < 8 → (n : Int) / 2 ^ (8 * 2) = 0 := fun _ => by omega
  exact wideE_ok (m := 2) (by omega) hf
theorem bind1_length (x : ByteArray) (h : x.size ≤ 4096) : (bind1 x).length = 2 + x.size := by
  rw [bind1, List.length_append, Array.length_toList, Array.length_toList]
  show (wideS x.size 2).size + x.size = _
  rw [wide2_size _ h]
theorem bindL_le (l : List ByteArray) (ha : ∀ x ∈ l, x.size ≤ 4096) : (bindL l).length ≤ 4098 * l.length := by
  induction l with
  | nil => simp [bindL]
  | cons x l ih =>
    have h1 := bind1_length x (ha x List.mem_cons_self)
    have h2 := ih fun y hy => ha y (List.mem_cons_of_mem _ hy)
    have h3 := ha x List.mem_cons_self
    simp only [bindL, List.flatMap_cons, List.length_append, List.length_cons] at *
    omega
theorem bindL_length (xs : List ByteArray) (k : Nat) (h : k ≤ xs.length) (ha : ∀ x ∈ xs.take k, x.size ≤ 4096) : (bindL (xs.take k)).length ≤ 4098 * k := by
  have := bindL_le _ ha
  rwa [List.length_take, Nat.min_eq_left h] at this
theorem bindL_append (a b : List ByteArray) : bindL (a ++ b) = bindL a ++ bindL b := by simp [bindL]
theorem bindS_append (a b : List ByteArray) : bindS (a ++ b) = bindS a ++ bindS b := by
  apply ByteArray.ext
  rw [ByteArray.data_append]
  simp only [bindS, bindL_append, List.append_toArray]
theorem mayBind_one {s : ByteArray} (h : s.size ≤ 4096) : mayBind [s] := ⟨by simp, fun x hx => by rw [List.mem_singleton] at hx; rw [hx]; exact h⟩
theorem mayBind_snoc {l : List ByteArray} {s : ByteArray} (hl : mayBind l) (h : s.size ≤ 4096) : mayBind (l ++ [s]) ↔ l.length ≠ 64 := by
  have h1 := hl.1
  constructor
  · intro hm; have := hm.1; rw [List.length_append] at this; simp at this; omega
  · intro hn
    refine ⟨by rw [List.length_append]; simp; omega, fun x hx => ?_⟩
    rw [List.mem_append, List.mem_singleton] at hx
    rcases hx with hx | rfl
    · exact hl.2 x hx
    · exact h
theorem wide2_inj {a b : Nat} (ha : a ≤ 4096) (hb : b ≤ 4096) (h : wideS a 2 = wideS b 2) : a = b := by
  have fa : (2 : Nat) < 8 → (a : Int) / 2 ^ (8 * 2) = 0 := fun _ => by omega
  have fb : (2 : Nat) < 8 → (b : Int) / 2 ^ (8 * 2) = 0 := fun _ => by omega
  rw [show (2 : Int) = ((2 : Nat) : Int) from rfl, wideS_ok (by omega) fa, wideS_ok (by omega) fb] at h
  have h1 := wholeN_wide a (by omega) 2
  have h2 := wholeN_wide b (by omega) 2
  rw [h, h2] at h1
  omega
theorem bindL_inj : ∀ (l m : List ByteArray), (∀ x ∈ l, x.size ≤ 4096) → (∀ x ∈ m, x.size ≤ 4096) → bindL l = bindL m → l = m
  | [], [], _, _, _ => rfl
  | [], y :: m, _, hm, h => by
    have := bind1_length y (hm y List.mem_cons_self)
    have h2 := congrArg List.length h
    simp only [bindL, List.flatMap_nil, List.flatMap_cons, List.length_append, List.length_nil] at h2
    omega
  | x :: l, [], hl, _, h => by
    have := bind1_length x (hl x List.mem_cons_self)
    have h2 := congrArg List.length h
    simp only [bindL, List.flatMap_nil, List.flatMap_cons, List.length_append, List.length_nil] at h2
    omega
  | x :: l, y :: m, hl, hm, h => by
    have hx := hl x List.mem_cons_self
    have hy := hm y List.mem_cons_self
    simp only [bindL, List.flatMap_cons, bind1, List.append_assoc] at h
    have sx := wide2_size x.size hx
    have sy := wide2_size y.size hy
    obtain ⟨e1, e2⟩ := List.append_inj h (by rw [Array.length_toList, Array.length_toList]; exact sx.trans sy.symm)
    have e3 := wide2_inj hx hy (ByteArray.ext (Array.toList_inj.1 e1))
    obtain ⟨e4, e5⟩ := List.append_inj e2 (by rw [Array.length_toList, Array.length_toList]; exact e3)
    rw [ByteArray.ext (Array.toList_inj.1 e4), bindL_inj l m (fun z hz => hl z (List.mem_cons_of_mem _ hz)) (fun z hz => hm z (List.mem_cons_of_mem _ hz)) e5]
theorem bindS_inj {l m : List ByteArray} (hl : mayBind l) (hm : mayBind m) : bindS l = bindS m ↔ l = m :=
  ⟨fun h => bindL_inj l m hl.2 hm.2 (by have := congrArg ByteArray.data h; simpa [bindS] using this), fun h => by rw [h]⟩
theorem bindS_size {l : List ByteArray} (hl : mayBind l) : (bindS l).size ≤ 262272 := by
  have h1 := bindL_le l hl.2
  have h2 := hl.1
  show (bindL l).toArray.size ≤ _
  rw [List.size_toArray]; omega
end Go.Proofs.YtedibjgdangfnaaGreatDoor
end

section
/- Hex, read and written, in both ways. -/
namespace Go.Proofs.YtedibjgdangfnaaGreatDoor.V.M
set_option linter.unusedVariables false
set_option linter.unusedSimpArgs false
open Go Go.RowKit
theorem bn_dig (n : Nat) (h : n < 16) : bn (dig n) = if n < 10 then 48 + (n : Int) else 97 + (n : Int) - 10 := by
  have : ∀ n : Fin 16, bn (dig n.val) = if n.val < 10 then 48 + (n.val : Int) else 97 + (n.val : Int) - 10 := by decide
  exact this ⟨n, h⟩
end Go.Proofs.YtedibjgdangfnaaGreatDoor.V.M
end

section
/- Hex read back, in both ways; digests parsed in both ways. -/
namespace Go.Proofs.YtedibjgdangfnaaGreatDoor.V.M
set_option linter.unusedVariables false
set_option linter.unusedSimpArgs false
open Go Go.RowKit
def hx (c : UInt8) : Nat := if 48 ≤ c.toNat ∧ c.toNat ≤ 57 then c.toNat - 48 else if 97 ≤ c.toNat ∧ c.toNat ≤ 102 then c.toNat - 87 else 16
def un : Str → Option Str
  | [] => some []
  | [_] => none
  | a :: b :: r => if hx a < 16 ∧ hx b < 16 then (un r).map (UInt8.ofNat (16 * hx a + hx b) :: ·) else none
theorem u8_all {P : UInt8 → Prop} [DecidablePred P] (h : (List.range 256).all (fun n => decide (P (UInt8.ofNat n))) = true) (c : UInt8) : P c := by
  have := (List.all_eq_true.mp h) c.toNat (List.mem_range.mpr c.toNat_lt)
  simpa using this
abbrev dgs : Str := [48, 49, 50, 51, 52, 53, 54, 55, 56, 57, 97, 98, 99, 100, 101, 102]
theorem hx_le (c : UInt8) : hx c ≤ 16 := by unfold hx; split <;> (try split) <;> omega
theorem hx_dig (n : Nat) (h : n < 16) : hx (dig n) = n := by
  have : ∀ n : Fin 16, hx (dig n.val) = n.val := by decide
  exact this ⟨n, h⟩
theorem un_hexl (x : Str) : un (hexl x) = some x := by
  induction x with
  | nil => rfl
  | cons c x ih =>
    have hc := c.toNat_lt
    show un (dig (c.toNat / 16) :: dig (c.toNat % 16) :: hexl x) = _
    rw [un, hx_dig _ (by omega), hx_dig _ (by omega), if_pos (by omega), ih, show 16 * (c.toNat / 16) + c.toNat % 16 = c.toNat by omega]; simp
theorem un_len : ∀ (n : Nat) (s x : Str), s.length ≤ n → un s = some x → s.length = 2 * x.length := by
  intro n
  induction n with
  | zero => intro s x h e; obtain rfl : s = [] := List.length_eq_zero_iff.mp (by omega); cases e; rfl
  | succ n ih =>
    intro s x h e
    match s, e with
    | [], e => cases e; rfl
    | [_], e => cases e
    | a :: b :: r, e =>
      rw [un] at e
      split at e
      · obtain ⟨y, hy, rfl⟩ := Option.map_eq_some_iff.mp e
        have := ih r y (by simp only [List.length_cons] at h; omega) hy
        simp only [List.length_cons]; omega
      · cases e
theorem w8h (a b : UInt8) (ha : hx a < 16) (hb : hx b < 16) : IntKind.u8.wrap (IntKind.i64.wrap ((IntKind.i64.wrap ((hx a : Int) * 16)) + (hx b : Int))) = bn (UInt8.ofNat (16 * hx a + hx b)) := by
  rw [w_i64 (n := (hx a : Int) * 16) (by omega) (by omega), w_i64 (by omega) (by omega), w_u8]; unfold bn; rw [UInt8.toNat_ofNat']; omega
theorem drop2 (s : Str) (v : Nat) (h : 2 * v + 1 < s.length) : s.drop (2 * v) = s.getD (2 * v) 0 :: s.getD (2 * v + 1) 0 :: s.drop (2 * (v + 1)) := by
  rw [List.drop_eq_getElem_cons (by omega), List.drop_eq_getElem_cons (i := 2 * v + 1) (by omega), List.getD_eq_getElem?_getD, List.getD_eq_getElem?_getD, List.getElem?_eq_getElem (by omega), List.getElem?_eq_getElem (by omega)]; rfl
abbrev pfx : Str := [115, 104, 97, 50, 53, 54, 58]
def parseS (s : Str) : Str × Int := if s.take 7 = pfx then (match un (s.drop 7) with | some x => if x.length = 32 then (x, 0) else ([], 6) | none => ([], 6)) else ([], 6)
end Go.Proofs.YtedibjgdangfnaaGreatDoor.V.M
end

section
/- Texts: prefixes, places of a byte, what is cut and parted at one. -/
namespace Go.Proofs.YtedibjgdangfnaaGreatDoor.V.M
set_option linter.unusedVariables false
set_option linter.unusedSimpArgs false
open Go Go.RowKit
theorem wG_nat {n : Nat} (h : n < 9223372036854775808) : IntKind.i64.wrap (n : Int) = n := w_i64 (by omega) (by omega)
theorem wG_s {n : Nat} (h : n + 1 < 9223372036854775808) : IntKind.i64.wrap ((n : Int) + 1) = ((n + 1 : Nat) : Int) := by rw [w_i64 (by omega) (by omega)]; rfl
theorem cutG_mid {α : Type} (l : List α) (a b : Nat) : cut l (a : Int) ((a + b : Nat) : Int) = (l.drop a).take b := by
  unfold cut
  rw [Int.toNat_natCast, Int.toNat_natCast, List.take_drop]
def hasP (s p : Str) : Bool := decide (p.length ≤ s.length) && (s.take p.length == p)
theorem hasPrefix_ok (s p : Str) : f_strings_HasPrefix s p = some (hasP s p) := by
  unfold f_strings_HasPrefix f_internal_stringslite_HasPrefix hasP
  rw [gd_t _ (fun h => by simp at h; omega), cut_zero, Option.bind_some]
  congr 2
  rw [decide_eq_decide]; omega
theorem hasP_iff {s p : Str} : hasP s p = true ↔ p.length ≤ s.length ∧ s.take p.length = p := by unfold hasP; simp
theorem hasP_pre {s p : Str} : hasP s p = true ↔ ∃ t, s = p ++ t := by
  rw [hasP_iff]
  constructor
  · rintro ⟨_, h⟩; exact ⟨s.drop p.length, by conv => lhs; rw [← List.take_append_drop p.length s, h]⟩
  · rintro ⟨t, rfl⟩; simp
def hasSf (s p : Str) : Bool := decide (p.length ≤ s.length) && (s.drop (s.length - p.length) == p)
theorem hasSf_suf {s p : Str} : hasSf s p = true ↔ ∃ t, s = t ++ p := by
  unfold hasSf
  rw [Bool.and_eq_true, decide_eq_true_eq, beq_iff_eq]
  constructor
  · rintro ⟨_, h⟩; exact ⟨s.take (s.length - p.length), by conv => lhs; rw [← List.take_append_drop (s.length - p.length) s, h]⟩
  · rintro ⟨t, rfl⟩
    refine ⟨by simp, ?_⟩
    rw [List.length_append, Nat.add_sub_cancel]; exact List.drop_left' rfl
theorem index_ok (s : Str) (c : UInt8) : f_strings_Index s [c] = some (Lib.indexByte s c) := rfl
theorem indexByte_mem (s : Str) (c : UInt8) : 0 ≤ Lib.indexByte s c ↔ c ∈ s := by
  induction s with
  | nil => simp [Lib.indexByte]
  | cons x l ih =>
    have g := Lib.indexByte_ge l c
    unfold Lib.indexByte
    by_cases hx : x = c
    · subst hx; simp
    · rw [if_neg (by simpa using hx)]
      by_cases h1 : Lib.indexByte l c = -1
      · rw [if_pos (by simpa using h1)]
        have : ¬ c ∈ l := by rw [← ih]; omega
        simp [this]; exact fun h => hx h.symm
      · rw [if_neg (by simpa using h1)]
        have : c ∈ l := by rw [← ih]; omega
        simp [this]; omega
theorem indexByte_at {s : Str} {c : UInt8} (h : 0 ≤ Lib.indexByte s c) : ∃ i : Nat, Lib.indexByte s c = i ∧ i < s.length ∧ s = s.take i ++ c :: s.drop (i + 1) ∧ c ∉ s.take i := by
  induction s with
  | nil => exact absurd h (by simp [Lib.indexByte])
  | cons x l ih =>
    have g := Lib.indexByte_ge l c
    unfold Lib.indexByte at h ⊢
    by_cases hx : x = c
    · subst hx; exact ⟨0, by simp, by simp, by simp, by simp⟩
    · rw [if_neg (by simpa using hx)] at h ⊢
      by_cases h1 : Lib.indexByte l c = -1
      · rw [if_pos (by simpa using h1)] at h; exact absurd h (by decide)
      · rw [if_neg (by simpa using h1)] at h ⊢
        obtain ⟨i, e1, e2, e3, e4⟩ := ih (by omega)
        refine ⟨i + 1, by omega, by simp; omega, ?_, ?_⟩
        · rw [List.take_succ_cons, List.drop_succ_cons, List.cons_append, ← e3]
        · rw [List.take_succ_cons, List.mem_cons]; rintro (h2 | h2); exact hx h2.symm; exact e4 h2
theorem contains_ok (s : Str) (c : UInt8) : f_strings_Contains s [c] = some (decide (c ∈ s)) := by
  unfold f_strings_Contains
  rw [index_ok, Option.bind_some]
  congr 1
  rw [decide_eq_decide]; exact indexByte_mem s c
/-- What is ahead of a byte, and behind it. -/
def cutS (s : Str) (c : UInt8) : Str × Str × Bool := if 0 ≤ Lib.indexByte s c then (s.take (Lib.indexByte s c).toNat, s.drop ((Lib.indexByte s c).toNat + 1), true) else (s, [], false)
theorem cut_ok (s : Str) (c : UInt8) (hs : s.length < 4611686018427387904) : f_strings_Cut s [c] = some (cutS s c) := by
  unfold f_strings_Cut f_internal_stringslite_Cut cutS
  rw [show f_internal_stringslite_Index s [c] = some (Lib.indexByte s c) from rfl, Option.bind_some]
  by_cases h : 0 ≤ Lib.indexByte s c
  · obtain ⟨i, e1, e2, e3, _⟩ := indexByte_at h
    rw [if_pos h, e1, if_pos (by simp), gd_t _ (by omega)]
    have w : IntKind.i64.wrap ((i : Int) + (([c] : Str).length : Int)) = ((i + 1 : Nat) : Int) := wG_s (by omega)
    rw [w, gd_t _ (by omega), cut_zero, cut_all, Int.toNat_natCast]; rfl
  · rw [if_neg h, if_neg (by simpa using h)]; rfl
theorem count_split (c : UInt8) : ∀ s : Str, (splitOnB c s).length = s.count c + 1
  | [] => rfl
  | x :: l => by
    unfold splitOnB
    by_cases hx : x = c
    · subst hx; rw [if_pos rfl, List.length_cons, count_split x l, List.count_cons_self]
    · rw [if_neg hx, List.count_cons_of_ne hx, ← count_split c l]
      have := splitOnB_ne c l
      split
      · rename_i h t e; rw [e]; rfl
      · rename_i e; exact absurd e this
theorem split17_ok (s0 : Str) (c : UInt8) (n2 : Int) (N : Nat) (hn : n2 = ((N + 1 : Nat) : Int)) (hN : N < 1000000) (k : Nat) : ∀ (i m : Nat) (s : Str) (a : List Str), i + k = N → k < m → s.count c = k → s.length ≤ 1000000 → a.length = N + 1 →
    ∃ s3 a2, f_strings_genSplit_l17 s0 [c] 0 n2 m s (i : Int) a = some (s3, (N : Int), a2) ∧ a2.length = N + 1 ∧ a.take i ++ splitOnB c s = a2.take N ++ [s3] := by
  subst hn
  induction k with
  | zero =>
    intro i m s a hi hm hc hs ha
    obtain ⟨m, rfl⟩ : ∃ k, m = k + 1 := ⟨m - 1, by omega⟩
    rw [f_strings_genSplit_l17, w_i64 (n := (((N + 1 : Nat) : Int) - 1)) (by omega) (by omega), if_neg (by simp; omega)]
    refine ⟨s, a, by rw [show i = N by omega], ha, ?_⟩
    have hneg : Lib.indexByte s c < 0 := by
      rw [← Int.not_le, indexByte_mem]
      exact List.count_eq_zero.mp hc
    rw [splitOnB_none hneg, show i = N by omega]
  | succ k ih =>
    intro i m s a hi hm hc hs ha
    obtain ⟨m, rfl⟩ : ∃ k, m = k + 1 := ⟨m - 1, by omega⟩
    have hpos : 0 ≤ Lib.indexByte s c := by
      rw [indexByte_mem, ← List.count_pos_iff]; omega
    obtain ⟨j, e1, e2, e3⟩ := splitOnB_some (c := c) (s := s) (by omega)
    have hcount : (s.drop (j + 1)).count c = k := by
      have h2 := count_split c s
      rw [e3, List.length_cons, count_split] at h2
      omega
    have w1 : IntKind.i64.wrap ((j : Int) + 0) = (j : Int) := by rw [Int.add_zero, wG_nat (by omega)]
    have w2 : IntKind.i64.wrap ((j : Int) + (([c] : Str).length : Int)) = ((j + 1 : Nat) : Int) := wG_s (by omega)
    rw [f_strings_genSplit_l17, w_i64 (n := (((N + 1 : Nat) : Int) - 1)) (by omega) (by omega), if_pos (by simp; omega), index_ok, Option.bind_some, e1, if_neg (by simp), w1, w2, gd_t _ (by omega), ix_nat, List.getElem?_eq_getElem (by omega), Option.bind_some, gd_t _ (by omega), cut_zero, cut_all, wG_s (by omega), Int.toNat_natCast]
    obtain ⟨s3, a2, q1, q2, q3⟩ := ih (i + 1) m (s.drop (j + 1)) (a.set i (s.take j)) (by omega) (by omega) hcount (by rw [List.length_drop]; omega) (by rw [List.length_set]; exact ha)
    refine ⟨s3, a2, q1, q2, ?_⟩
    rw [← q3, e3, List.take_add_one, List.getElem?_set_self (by omega), List.take_set_of_le (Nat.le_refl i)]
    simp
theorem split_ok (s : Str) (c : UInt8) (hs : s.length < 1000000) : f_strings_Split s [c] = some (splitOnB c s) := by
  unfold f_strings_Split f_strings_genSplit
  have hc : s.count c ≤ s.length := List.count_le_length
  rw [if_neg (by decide), if_neg (by simp), if_pos (by decide), show f_strings_Count s [c] = some ((s.count c : Nat) : Int) from rfl, Option.bind_some, wG_s (by omega), Option.bind_some, wG_s (by omega), if_neg (by omega), Option.bind_some, gd_t _ (by omega)]
  obtain ⟨s3, a2, q1, q2, q3⟩ := split17_ok s c ((s.count c + 1 : Nat) : Int) (s.count c) rfl (by omega) (s.count c) 0 (((IntKind.i64.wrap (((s.count c + 1 : Nat) : Int) - 1)) - 0).toNat + 1) s (List.replicate ((s.count c + 1 : Nat) : Int).toNat []) (by omega) (by rw [w_i64 (by omega) (by omega)]; omega) rfl (by omega) (by simp)
  rw [show ((0 : Nat) : Int) = 0 from rfl] at q1
  rw [q1, Option.bind_some]
  dsimp only
  rw [ix_nat, List.getElem?_eq_getElem (by omega), Option.bind_some, wG_s (by omega), gd_t _ (by omega), cut_zero, Int.toNat_natCast, Option.bind_some]
  rw [List.take_zero, List.nil_append] at q3
  rw [q3, List.take_add_one, List.getElem?_set_self (by omega), List.take_set_of_le (Nat.le_refl _)]; rfl
theorem seekB (s : List Int) (f : Int → Option Bool) (p : Int → Bool) (hf : ∀ x, f x = some (p x)) (hb : s.length < 4611686018427387904) (k : Nat) : ∀ (i m : Nat), i + k = s.length → k < m →
    ∃ r, f_slices_IndexFunc_byte_byte_l7 s f m (i : Int) = some r ∧ (((s.drop i).any p) = true → ∃ j : Nat, r = .inr (j : Int)) ∧ (((s.drop i).any p) = false → ∃ z, r = .inl z) := by
  induction k with
  | zero =>
    intro i m hi hm
    obtain ⟨m, rfl⟩ : ∃ k, m = k + 1 := ⟨m - 1, by omega⟩
    rw [f_slices_IndexFunc_byte_byte_l7, if_neg (by simp; omega), List.drop_eq_nil_of_le (by omega)]
    exact ⟨_, rfl, (fun h => by simp at h), (fun _ => ⟨(i : Int), rfl⟩)⟩
  | succ k ih =>
    intro i m hi hm
    obtain ⟨m, rfl⟩ : ∃ k, m = k + 1 := ⟨m - 1, by omega⟩
    rw [f_slices_IndexFunc_byte_byte_l7, if_pos (by simp; omega), ix_nat, List.getElem?_eq_getElem (by omega), Option.bind_some, hf, Option.bind_some, List.drop_eq_getElem_cons (show i < s.length by omega), List.any_cons]
    by_cases c : p (s[i]'(by omega)) = true
    · rw [if_pos c, c]; exact ⟨_, rfl, (fun h => ⟨i, rfl⟩), (fun h => by simp at h)⟩
    · rw [if_neg c, wG_s (by omega)]
      have c2 : p (s[i]'(by omega)) = false := by simpa using c
      rw [c2, Bool.false_or]
      exact ih (i + 1) m (by omega) (by omega)
theorem containsB (s : List Int) (f : Int → Option Bool) (p : Int → Bool) (hf : ∀ x, f x = some (p x)) (hb : s.length < 4611686018427387904) : f_slices_ContainsFunc_byte_byte s f = some (s.any p) := by
  unfold f_slices_ContainsFunc_byte_byte f_slices_IndexFunc_byte_byte
  obtain ⟨r, e, h1, h2⟩ := seekB s f p hf hb s.length 0 ((((s.length : Int) : Int) - 0).toNat + 1) (by omega) (by omega)
  rw [show ((0 : Nat) : Int) = 0 from rfl] at e
  rw [List.drop_zero] at h1 h2
  rw [e, Option.bind_some]
  cases c : s.any p with
  | true => obtain ⟨j, rfl⟩ := h1 c; exact congrArg some (decide_eq_true (Int.natCast_nonneg j))
  | false => obtain ⟨z, rfl⟩ := h2 c; rfl
theorem seekGS (s : List Str) (f : Str → Option Bool) (p : Str → Bool) (hf : ∀ x ∈ s, f x = some (p x)) (hb : s.length < 4611686018427387904) (k : Nat) : ∀ (i m : Nat), i + k = s.length → k < m →
    ∃ r, f_slices_IndexFunc_string_string_l7 s f m (i : Int) = some r ∧ (((s.drop i).any p) = true → ∃ j : Nat, r = .inr (j : Int)) ∧ (((s.drop i).any p) = false → ∃ z, r = .inl z) := by
  induction k with
  | zero =>
    intro i m hi hm
    obtain ⟨m, rfl⟩ : ∃ k, m = k + 1 := ⟨m - 1, by omega⟩
    rw [f_slices_IndexFunc_string_string_l7, if_neg (by simp; omega), List.drop_eq_nil_of_le (by omega)]
    exact ⟨_, rfl, (fun h => by simp at h), (fun _ => ⟨(i : Int), rfl⟩)⟩
  | succ k ih =>
    intro i m hi hm
    obtain ⟨m, rfl⟩ : ∃ k, m = k + 1 := ⟨m - 1, by omega⟩
    rw [f_slices_IndexFunc_string_string_l7, if_pos (by simp; omega), ix_nat, List.getElem?_eq_getElem (by omega), Option.bind_some, hf _ (List.getElem_mem _), Option.bind_some, List.drop_eq_getElem_cons (show i < s.length by omega), List.any_cons]
    by_cases c : p (s[i]'(by omega)) = true
    · rw [if_pos c, c]; exact ⟨_, rfl, (fun h => ⟨i, rfl⟩), (fun h => by simp at h)⟩
    · rw [if_neg c, wG_s (by omega)]
      have c2 : p (s[i]'(by omega)) = false := by simpa using c
      rw [c2, Bool.false_or]
      exact ih (i + 1) m (by omega) (by omega)
theorem containsGS (s : List Str) (f : Str → Option Bool) (p : Str → Bool) (hf : ∀ x ∈ s, f x = some (p x)) (hb : s.length < 4611686018427387904) : f_slices_ContainsFunc_string_string s f = some (s.any p) := by
  unfold f_slices_ContainsFunc_string_string f_slices_IndexFunc_string_string
  obtain ⟨r, e, h1, h2⟩ := seekGS s f p hf hb s.length 0 ((((s.length : Int) : Int) - 0).toNat + 1) (by omega) (by omega)
  rw [show ((0 : Nat) : Int) = 0 from rfl] at e
  rw [List.drop_zero] at h1 h2
  rw [e, Option.bind_some]
  cases c : s.any p with
  | true => obtain ⟨j, rfl⟩ := h1 c; exact congrArg some (decide_eq_true (Int.natCast_nonneg j))
  | false => obtain ⟨z, rfl⟩ := h2 c; rfl
end Go.Proofs.YtedibjgdangfnaaGreatDoor.V.M
end

section
/- Octet: numbers in bytes, read and written; the loose reader; what is bound. -/
namespace Go.Proofs.YtedibjgdangfnaaGreatDoor.V.M
set_option linter.unusedVariables false
set_option linter.unusedSimpArgs false
open Go Go.RowKit
theorem cut_take {α : Type} (l : List α) (k : Nat) : cut l 0 (if (k : Int) < (l.length : Int) then (k : Int) else (l.length : Int)) = l.take k := by
  by_cases c : k < l.length
  · rw [if_pos (by omega)]; exact cut_zero l k
  · rw [if_neg (by omega), cut_zero, List.take_of_length_le (by omega), List.take_of_length_le (by omega)]
theorem cut_gd {α : Type} (l : List α) (k : Nat) : 0 ≤ (if (k : Int) < (l.length : Int) then (k : Int) else (l.length : Int)) ∧ (if (k : Int) < (l.length : Int) then (k : Int) else (l.length : Int)) ≤ (l.length : Int) := by
  split <;> omega
theorem cut_gdI {α : Type} (l : List α) (k : Int) (hk : 0 ≤ k) : 0 ≤ (if k < (l.length : Int) then k else (l.length : Int)) ∧ (if k < (l.length : Int) then k else (l.length : Int)) ≤ (l.length : Int) := by
  split <;> omega
def fewL (l : List Str) : List Str := (l.take 66).map (·.take 4100)
theorem fewL_len (l : List Str) : (fewL l).length ≤ 66 := by unfold fewL; rw [List.length_map, List.length_take]; omega
/-- What a text's bytes say, the lowest one first. -/
def wholeN : Str → Nat
  | [] => 0
  | c :: l => c.toNat + 256 * wholeN l
theorem wholeN_lt : ∀ l : Str, wholeN l < 2 ^ (8 * l.length)
  | [] => by decide
  | c :: l => by
    have := wholeN_lt l
    have hc := c.toNat_lt
    rw [wholeN, List.length_cons, show 8 * (l.length + 1) = 8 * l.length + 8 by omega, Nat.pow_add]
    omega
theorem wholeN_snoc (l : Str) (c : UInt8) : wholeN (l ++ [c]) = wholeN l + c.toNat * 2 ^ (8 * l.length) := by
  induction l with
  | nil => simp [wholeN]
  | cons a l ih => rw [List.cons_append, wholeN, wholeN, ih, List.length_cons, show 8 * (l.length + 1) = 8 * l.length + 8 by omega, Nat.pow_add, Nat.mul_add, ← Nat.mul_assoc, show 2 ^ (8 * l.length) * 2 ^ 8 = 256 * 2 ^ (8 * l.length) by omega, ← Nat.mul_assoc, Nat.mul_comm 256 c.toNat]; omega
theorem w_u64n {n : Nat} (h : n < 18446744073709551616) : IntKind.u64.wrap (n : Int) = (n : Int) := w_u64 (by omega) (by omega)
theorem or_step (n : Nat) (c : UInt8) (k : Nat) (hk : k < 8) (hn : n < 2 ^ (8 * k)) :
    IntKind.u64.wrap ((BitVec.ofInt IntKind.u64.bits (n : Int) ||| BitVec.ofInt IntKind.u64.bits (IntKind.u64.wrap ((IntKind.u64.wrap (bn c)) * 2 ^ (min (IntKind.i64.wrap (8 * (k : Int))).toNat IntKind.u64.bits)))).toNat) = ((n + c.toNat * 2 ^ (8 * k) : Nat) : Int) := by
  have hc := c.toNat_lt
  have hp : 2 ^ (8 * k) ≤ 2 ^ 56 := Nat.pow_le_pow_right (by decide) (by omega)
  have hm : c.toNat * 2 ^ (8 * k) ≤ 255 * 2 ^ 56 := Nat.mul_le_mul (by omega) hp
  have hs : n + c.toNat * 2 ^ (8 * k) < 18446744073709551616 := by
    have : c.toNat * 2 ^ (8 * k) + 2 ^ (8 * k) ≤ 256 * 2 ^ 56 := by
      have : (c.toNat + 1) * 2 ^ (8 * k) ≤ 256 * 2 ^ 56 := Nat.mul_le_mul (by omega) hp
      rw [Nat.add_mul] at this; omega
    omega
  rw [show bn c = ((c.toNat : Nat) : Int) from rfl, w_u64n (n := c.toNat) (by omega), w_i64 (by omega) (by omega), show (8 * (k : Int)).toNat = 8 * k by omega, show min (8 * k) IntKind.u64.bits = 8 * k by show min (8 * k) 64 = _; omega,
    show ((c.toNat : Int) * 2 ^ (8 * k)) = ((c.toNat * 2 ^ (8 * k) : Nat) : Int) by rw [Int.natCast_mul, Int.natCast_pow]; rfl, w_u64n (n := c.toNat * 2 ^ (8 * k)) (by omega), BitVec.toNat_or, BitVec.toNat_ofInt, BitVec.toNat_ofInt]
  show IntKind.u64.wrap (((((n : Int) % (18446744073709551616 : Int)).toNat ||| (((c.toNat * 2 ^ (8 * k) : Nat) : Int) % (18446744073709551616 : Int)).toNat : Nat)) : Int) = _
  rw [show ((n : Int) % (18446744073709551616 : Int)).toNat = n by omega, show (((c.toNat * 2 ^ (8 * k) : Nat) : Int) % (18446744073709551616 : Int)).toNat = c.toNat * 2 ^ (8 * k) by omega]
  have e := Nat.shiftLeft_add_eq_or_of_lt hn c.toNat
  rw [Nat.shiftLeft_eq] at e
  rw [Nat.or_comm, ← e, Nat.add_comm, w_u64n hs]
/-- The loose reader. -/
def looseG : Nat → Str → List Str → List Str × Int
  | 0, _, _ => ([], 0)
  | m + 1, s, out =>
    if s = [] then (out, 0)
    else if s.length < 2 then ([], 3)
    else if 4096 < wholeN (s.take 2) ∨ out.length = 64 then ([], 2)
    else if (s.drop 2).length < wholeN (s.take 2) then ([], 3)
    else looseG m ((s.drop 2).drop (wholeN (s.take 2))) (out ++ [(s.drop 2).take (wholeN (s.take 2))])
def looseS (s : Str) : List Str × Int := looseG (s.length + 1) s []
def sumG (p : List Str × Int) : (Str × (List Str)) ⊕ ((List Str) × Int) := if p.2 = 0 then .inl ([], p.1) else .inr p
theorem lg_nil (m : Nat) (out : List Str) : looseG (m + 1) [] out = (out, 0) := by rw [looseG, if_pos rfl]
theorem lg_one (m : Nat) (s : Str) (out : List Str) (c : s ≠ []) (c1 : s.length < 2) : looseG (m + 1) s out = ([], 3) := by rw [looseG, if_neg c, if_pos c1]
theorem lg_big (m : Nat) (s : Str) (out : List Str) (c : s ≠ []) (c1 : ¬ s.length < 2) (c2 : 4096 < wholeN (s.take 2) ∨ out.length = 64) : looseG (m + 1) s out = ([], 2) := by rw [looseG, if_neg c, if_neg c1, if_pos c2]
theorem lg_short (m : Nat) (s : Str) (out : List Str) (c : s ≠ []) (c1 : ¬ s.length < 2) (c2 : ¬ (4096 < wholeN (s.take 2) ∨ out.length = 64)) (c3 : (s.drop 2).length < wholeN (s.take 2)) : looseG (m + 1) s out = ([], 3) := by rw [looseG, if_neg c, if_neg c1, if_neg c2, if_pos c3]
theorem lg_step (m : Nat) (s : Str) (out : List Str) (c : s ≠ []) (c1 : ¬ s.length < 2) (c2 : ¬ (4096 < wholeN (s.take 2) ∨ out.length = 64)) (c3 : ¬ (s.drop 2).length < wholeN (s.take 2)) : looseG (m + 1) s out = looseG m ((s.drop 2).drop (wholeN (s.take 2))) (out ++ [(s.drop 2).take (wholeN (s.take 2))]) := by rw [looseG, if_neg c, if_neg c1, if_neg c2, if_neg c3]
end Go.Proofs.YtedibjgdangfnaaGreatDoor.V.M
end

section
/- Globs: pieces, what each takes, and whether a text is what pieces stand for. -/
namespace Go.Proofs.YtedibjgdangfnaaGreatDoor.V.M
set_option linter.unusedVariables false
set_option linter.unusedSimpArgs false
open Go Go.RowKit
inductive Pc where
  | plain (c : UInt8)
  | one
  | many (slash : Bool)
  | words (l : List Str)
def Pc.enc : Pc → Sc
  | .plain c => .ifc tyPlain false [.int .u8 (bn c)]
  | .one => .ifc tyOne true []
  | .many b => .ifc tyMany true [.bool b]
  | .words l => .ifc tyWords false [.sl (l.map eS)]
/-- Whether a text is what a piece stands for. -/
def Pc.is : Pc → Str → Bool
  | .plain c, u => u == [c]
  | .one, u => match u with | [c] => !(c == 47) | _ => false
  | .many b, u => b || !(u.contains 47)
  | .words l, u => l.contains u
/-- How many bytes of a text a piece may take. -/
def Pc.takes : Pc → Str → List Nat
  | .plain c, s => if s.head? = some c then [1] else []
  | .one, s => match s with | [] => [] | c :: _ => if c = 47 then [] else [1]
  | .many b, s => (List.range (s.length + 1)).filter fun n => b || !((s.take n).contains 47)
  | .words l, s => ((l.filter fun x => hasP s x).map List.length).eraseDups
theorem Pc.takes_iff (p : Pc) (s : Str) (n : Nat) : n ∈ p.takes s ↔ n ≤ s.length ∧ p.is (s.take n) = true := by
  cases p with
  | plain c =>
    cases s with
    | nil => simp [takes, is]
    | cons x l =>
      simp only [takes, is, List.head?_cons, Option.some.injEq]
      by_cases h : x = c
      · subst h
        rw [if_pos rfl, List.mem_singleton]
        constructor
        · rintro rfl; simp
        · rintro ⟨h1, h2⟩
          have h3 := congrArg List.length (beq_iff_eq.mp h2)
          simp at h3 h1; omega
      · rw [if_neg h]
        simp
        intro _ h2
        cases n with
        | zero => simp at h2
        | succ n => simp at h2; exact absurd h2.1 h
  | one =>
    cases s with
    | nil => simp [takes, is]
    | cons x l =>
      simp only [takes, is]
      by_cases h : x = 47
      · subst h
        rw [if_pos rfl]
        simp
        intro h1
        cases n with
        | zero => simp
        | succ n => cases n with
          | zero => simp
          | succ n => cases l with
            | nil => simp at h1
            | cons y l => simp
      · rw [if_neg h, List.mem_singleton]
        constructor
        · rintro rfl; simp [h]
        · rintro ⟨h1, h2⟩
          cases n with
          | zero => simp at h2
          | succ n => cases n with
            | zero => rfl
            | succ n => cases l with
              | nil => simp at h1
              | cons y l => simp at h2
  | many b => simp [takes, is]; intro _; omega
  | words l =>
    simp only [takes, is, List.mem_eraseDups, List.mem_map, List.mem_filter, List.contains_iff_mem]
    constructor
    · rintro ⟨x, ⟨h1, h2⟩, rfl⟩
      obtain ⟨h3, h4⟩ := hasP_iff.mp h2
      exact ⟨h3, by rw [h4]; exact h1⟩
    · rintro ⟨h1, h2⟩
      exact ⟨s.take n, ⟨h2, hasP_iff.mpr ⟨by rw [List.length_take]; omega, by rw [List.length_take, Nat.min_eq_left h1]⟩⟩, by rw [List.length_take]; omega⟩
theorem bn_eqG (a b : UInt8) : (bn a == bn b) = decide (a = b) := by
  unfold bn
  rw [Bool.eq_iff_iff, beq_iff_eq, decide_eq_true_eq]
  constructor
  · intro h; exact UInt8.toNat_inj.mp (by omega)
  · rintro rfl; rfl
theorem plain_takes (c : UInt8) (s : Str) : f_glob_plain_takes (bn c) s = some (((Pc.plain c).takes s).map fun n : Nat => (n : Int)) := by
  unfold f_glob_plain_takes
  cases s with
  | nil => rfl
  | cons x l =>
    rw [gd_t _ (fun _ => by simp), show (x :: l).getD 0 0 = x from rfl, bn_eqG]
    simp only [Pc.takes, List.head?_cons, Option.some.injEq]
    by_cases h : x = c
    · rw [if_pos h, if_pos (by simp [h])]; rfl
    · rw [if_neg h, if_neg (by simp [h])]; rfl
theorem one_takes (s : Str) : f_glob_one_takes default s = some ((Pc.one.takes s).map fun n : Nat => (n : Int)) := by
  unfold f_glob_one_takes
  cases s with
  | nil => rfl
  | cons x l =>
    rw [gd_t _ (fun _ => by simp), show (x :: l).getD 0 0 = x from rfl, show ((bn x) != 47) = !(decide (x = 47)) by rw [bne, show (47 : Int) = bn 47 from rfl, bn_eqG]]
    simp only [Pc.takes]
    by_cases h : x = 47
    · rw [if_pos h, if_neg (by simp [h])]; rfl
    · rw [if_neg h, if_pos (by simp [h])]; rfl
theorem many8_ok (b : glob_many) (s : Str) (hs : s.length ≤ 1000000) (k : Nat) : ∀ (v m : Nat) (out : List Int), v + k = s.length → k < m → out = ((List.range (v + 1)).filter fun n => b.slash || !((s.take n).contains 47)).map (fun n : Nat => (n : Int)) → (b.slash = true ∨ (s.take v).contains 47 = false) → out.length ≤ v + 1 →
    ∃ z, f_glob_many_takes_l8 b s m (v : Int) out = some (z, ((Pc.many b.slash).takes s).map fun n : Nat => (n : Int)) := by
  induction k with
  | zero =>
    intro v m out hv hm ho _ _
    obtain ⟨m, rfl⟩ : ∃ k, m = k + 1 := ⟨m - 1, by omega⟩
    rw [f_glob_many_takes_l8, if_neg (by simp; omega), ho, show v = s.length by omega]
    exact ⟨_, rfl⟩
  | succ k ih =>
    intro v m out hv hm ho hc hl
    obtain ⟨m, rfl⟩ : ∃ k, m = k + 1 := ⟨m - 1, by omega⟩
    have et : s.take (v + 1) = s.take v ++ [s[v]'(by omega)] := by rw [List.take_add_one, List.getElem?_eq_getElem (by omega)]; rfl
    rw [f_glob_many_takes_l8, if_pos (by simp; omega), ix_nat, List.getElem?_eq_getElem (by omega), Option.bind_some, show ((bn (s[v]'(by omega))) == 47) = decide (s[v]'(by omega) = 47) by rw [show (47 : Int) = bn 47 from rfl, bn_eqG]]
    by_cases h : s[v]'(by omega) = 47 ∧ b.slash = false
    · rw [if_pos (by simp [h])]
      refine ⟨(v : Int), ?_⟩
      rw [ho]
      congr 2
      simp only [Pc.takes]
      congr 1
      -- no longer piece has no slash
      have e0 : List.range (s.length + 1) = List.range (v + 1) ++ List.map (fun x => v + 1 + x) (List.range (k + 1)) := by rw [← List.range_add]; congr 1; omega
      rw [e0, List.filter_append]
      have : (List.filter (fun n => b.slash || !((s.take n).contains 47)) (List.map (fun x => v + 1 + x) (List.range (k + 1)))) = [] := by
        rw [List.filter_eq_nil_iff]
        intro n hn
        obtain ⟨x, _, rfl⟩ := List.mem_map.mp hn
        rw [h.2, Bool.false_or]
        have : (47 : UInt8) ∈ s.take (v + 1 + x) := by
          rw [List.mem_take_iff_getElem]
          exact ⟨v, by omega, h.1⟩
        simp [this]
      rw [this, List.append_nil]
    · rw [if_neg (by simp; intro h1; cases hb : b.slash with | true => rfl | false => exact absurd ⟨h1, hb⟩ h), gd_t _ (by omega), wG_s (by omega)]
      have hc2 : b.slash = true ∨ (s.take (v + 1)).contains 47 = false := by
        cases hb : b.slash with
        | true => exact .inl rfl
        | false =>
          right
          rw [hb] at hc
          have h1 : (s.take v).contains 47 = false := by rcases hc with h2 | h2; cases h2; exact h2
          have h3 : ¬ s[v]'(by omega) = 47 := fun h2 => h ⟨h2, hb⟩
          rw [et]
          rw [Bool.eq_false_iff] at h1 ⊢
          simp only [ne_eq, List.contains_iff_mem, List.mem_append, List.mem_singleton] at h1 ⊢
          rintro (h2 | h2)
          · exact h1 h2
          · exact h3 h2.symm
      refine ih (v + 1) m _ (by omega) (by omega) ?_ hc2 (by simp; omega)
      rw [ho, List.range_succ (n := v + 1), List.filter_append, List.map_append]
      congr 1
      have : (b.slash || !((s.take (v + 1)).contains 47)) = true := by rcases hc2 with h2 | h2 <;> simp only [h2, Bool.true_or, Bool.not_false, Bool.or_true]
      rw [List.filter_cons, if_pos this]; rfl
theorem many_takes (b : Bool) (s : Str) (hs : s.length ≤ 1000000) : f_glob_many_takes (glob_many.mk b) s = some (((Pc.many b).takes s).map fun n : Nat => (n : Int)) := by
  unfold f_glob_many_takes
  obtain ⟨z, q⟩ := many8_ok (glob_many.mk b) s hs s.length 0 ((((s.length : Int) : Int) - 0).toNat + 1) [0] (by omega) (by omega) (by simp) (.inr (by simp)) (by simp)
  rw [show ((0 : Nat) : Int) = 0 from rfl] at q
  rw [q]; rfl
theorem seekI (s : List Int) (x : Int) (hb : s.length < 4611686018427387904) (k : Nat) : ∀ (i m : Nat), i + k = s.length → k < m →
    ∃ r, f_slices_Index_int_int_l7 s x m (i : Int) = some r ∧ (x ∈ s.drop i → ∃ j : Nat, r = .inr (j : Int)) ∧ (x ∉ s.drop i → ∃ z, r = .inl z) := by
  induction k with
  | zero =>
    intro i m hi hm
    obtain ⟨m, rfl⟩ : ∃ k, m = k + 1 := ⟨m - 1, by omega⟩
    rw [f_slices_Index_int_int_l7, if_neg (by simp; omega), List.drop_eq_nil_of_le (by omega)]
    exact ⟨_, rfl, (fun h => by simp at h), (fun _ => ⟨(i : Int), rfl⟩)⟩
  | succ k ih =>
    intro i m hi hm
    obtain ⟨m, rfl⟩ : ∃ k, m = k + 1 := ⟨m - 1, by omega⟩
    rw [f_slices_Index_int_int_l7, if_pos (by simp; omega), ix_nat, List.getElem?_eq_getElem (by omega), Option.bind_some, List.drop_eq_getElem_cons (show i < s.length by omega)]
    by_cases c : x = s[i]'(by omega)
    · rw [if_pos (by simpa using c)]; exact ⟨_, rfl, (fun h => ⟨i, rfl⟩), (fun h => by simp [← c] at h)⟩
    · rw [if_neg (by simpa using c), wG_s (by omega)]
      obtain ⟨r, q1, q2, q3⟩ := ih (i + 1) m (by omega) (by omega)
      refine ⟨r, q1, fun h => q2 ?_, fun h => q3 fun h2 => h (List.mem_cons_of_mem _ h2)⟩
      rcases List.mem_cons.mp h with h | h
      · exact absurd h c
      · exact h
theorem containsI (s : List Int) (x : Int) (hb : s.length < 4611686018427387904) : f_slices_Contains_int_int s x = some (decide (x ∈ s)) := by
  unfold f_slices_Contains_int_int f_slices_Index_int_int
  obtain ⟨r, e, h1, h2⟩ := seekI s x hb s.length 0 ((((s.length : Int) : Int) - 0).toNat + 1) (by omega) (by omega)
  rw [show ((0 : Nat) : Int) = 0 from rfl] at e
  rw [List.drop_zero] at h1 h2
  rw [e, Option.bind_some]
  by_cases c : x ∈ s
  · obtain ⟨j, rfl⟩ := h1 c; exact congrArg some ((decide_eq_true (Int.natCast_nonneg j)).trans (decide_eq_true c).symm)
  · obtain ⟨z, rfl⟩ := h2 c; exact congrArg some (decide_eq_false c).symm
end Go.Proofs.YtedibjgdangfnaaGreatDoor.V.M
end

section
/- Globs: words; any piece; whether a text is what pieces stand for. -/
namespace Go.Proofs.YtedibjgdangfnaaGreatDoor.V.M
set_option linter.unusedVariables false
set_option linter.unusedSimpArgs false
open Go Go.RowKit
abbrev intsN (l : List Nat) : List Int := l.map fun n : Nat => (n : Int)
theorem mem_intsN (l : List Nat) (n : Nat) : (n : Int) ∈ intsN l ↔ n ∈ l := by
  rw [List.mem_map]
  constructor
  · rintro ⟨a, h1, h2⟩; rwa [show a = n by omega] at h1
  · intro h; exact ⟨n, h, rfl⟩
/-- Lengths, each once. -/
def onceN : List Nat → List Nat → List Nat
  | out, [] => out
  | out, n :: r => if n ∈ out then onceN out r else onceN (out ++ [n]) r
theorem onceN_mem : ∀ (r out : List Nat) (n : Nat), n ∈ onceN out r ↔ n ∈ out ∨ n ∈ r
  | [], out, n => by simp [onceN]
  | x :: r, out, n => by
    rw [onceN]
    split
    · rename_i h
      rw [onceN_mem r out n, List.mem_cons]
      constructor
      · rintro (h1 | h1); exact .inl h1; exact .inr (.inr h1)
      · rintro (h1 | rfl | h1); exact .inl h1; exact .inl h; exact .inr h1
    · rw [onceN_mem r _ n, List.mem_append, List.mem_singleton, List.mem_cons, or_assoc]
theorem onceN_len : ∀ (r out : List Nat), (onceN out r).length ≤ out.length + r.length
  | [], out => by simp [onceN]
  | x :: r, out => by
    rw [onceN, List.length_cons]
    split
    · have := onceN_len r out; omega
    · have := onceN_len r (out ++ [x]); rw [List.length_append, List.length_singleton] at this; omega
theorem words8_ok (w : List Str) (s : Str) (hs : s.length ≤ 1000000) (hw : w.length ≤ 1000000) (k : Nat) : ∀ (v m : Nat) (out : List Nat), v + k = w.length → k < m → out.length ≤ v →
    ∃ z, f_glob_words_takes_l8 w s m (v : Int) (intsN out) = some (z, intsN (onceN out (((w.drop v).filter fun x => hasP s x).map List.length))) := by
  induction k with
  | zero =>
    intro v m out hv hm hl
    obtain ⟨m, rfl⟩ : ∃ k, m = k + 1 := ⟨m - 1, by omega⟩
    rw [f_glob_words_takes_l8, if_neg (by simp; omega), List.drop_eq_nil_of_le (by omega)]
    exact ⟨_, rfl⟩
  | succ k ih =>
    intro v m out hv hm hl
    obtain ⟨m, rfl⟩ : ∃ k, m = k + 1 := ⟨m - 1, by omega⟩
    rw [f_glob_words_takes_l8, if_pos (by simp; omega), ix_nat, List.getElem?_eq_getElem (by omega), Option.bind_some, hasPrefix_ok, Option.bind_some, List.drop_eq_getElem_cons (show v < w.length by omega), List.filter_cons, containsI _ _ (by simp; omega), wG_s (by omega)]
    have hlen : (intsN out).length = out.length := by simp
    cases hp : hasP s (w[v]'(by omega)) with
    | false =>
      rw [show gx false (some (decide (((w[v]'(by omega)).length : Int) ∈ intsN out))) default = some default from rfl, Option.bind_some, if_neg (by simp), if_neg (by decide)]
      exact ih (v + 1) m out (by omega) (by omega) (by omega)
    | true =>
      rw [show gx true (some (decide (((w[v]'(by omega)).length : Int) ∈ intsN out))) default = some (decide (((w[v]'(by omega)).length : Int) ∈ intsN out)) from rfl, Option.bind_some, if_pos rfl, List.map_cons, onceN]
      by_cases c : (w[v]'(by omega)).length ∈ out
      · rw [if_neg (by simp only [mem_intsN, c, decide_true]; decide), if_pos c]
        exact ih (v + 1) m out (by omega) (by omega) (by omega)
      · rw [if_pos (by simp only [mem_intsN, c, decide_false]; decide), if_neg c, gd_t _ (by rw [hlen]; omega)]
        have := ih (v + 1) m (out ++ [(w[v]'(by omega)).length]) (by omega) (by omega) (by simp; omega)
        rw [show intsN (out ++ [(w[v]'(by omega)).length]) = intsN out ++ [((w[v]'(by omega)).length : Int)] by simp] at this
        exact this
theorem unSs_map : ∀ l : List Str, unSs (l.map eS) = some l
  | [] => rfl
  | x :: l => by rw [List.map_cons, unSs, unSs_map l]; rfl
/-- What any piece takes, in some order. -/
theorem inv_takes (p : Pc) (s : Str) (hs : s.length ≤ 1000000) (hp : ∀ l, p = .words l → l.length ≤ 1000000) : m_glob_takes p.enc = true ∧ ∃ t : List Nat, f_inv_glob_takes p.enc s = some (intsN t) ∧ t.length ≤ 10000000 ∧ ∀ n, n ∈ t ↔ n ≤ s.length ∧ p.is (s.take n) = true := by
  cases p with
  | plain c => exact ⟨rfl, _, plain_takes c s, by simp only [Pc.takes]; split <;> simp, fun n => Pc.takes_iff _ s n⟩
  | one => exact ⟨rfl, _, one_takes s, by simp only [Pc.takes]; split; simp; split <;> simp, fun n => Pc.takes_iff _ s n⟩
  | many b => exact ⟨rfl, _, many_takes b s hs, by have := List.length_filter_le (fun n => b || !((s.take n).contains 47)) (List.range (s.length + 1)); rw [List.length_range] at this; simp only [Pc.takes]; omega, fun n => Pc.takes_iff _ s n⟩
  | words l =>
    have hl := hp l rfl
    refine ⟨rfl, ?_⟩
    have e : f_inv_glob_takes (Pc.words l).enc s = f_glob_words_takes l s := by
      show (if tyWords = tyWords then (unSs (l.map eS)).bind fun l => f_glob_words_takes l s else none) = _
      rw [if_pos rfl, unSs_map, Option.bind_some]
    obtain ⟨z, q⟩ := words8_ok l s hs hl l.length 0 ((((l.length : Int) : Int) - 0).toNat + 1) [] (by omega) (by omega) (by simp)
    rw [show ((0 : Nat) : Int) = 0 from rfl, List.drop_zero, show intsN [] = [] from rfl] at q
    refine ⟨onceN [] ((l.filter fun x => hasP s x).map List.length), ?_, ?_, fun n => ?_⟩
    · rw [e]; unfold f_glob_words_takes; rw [q]; rfl
    · have h1 := onceN_len ((l.filter fun x => hasP s x).map List.length) []
      have h2 := List.length_filter_le (fun x => hasP s x) l
      rw [List.length_map, List.length_nil] at h1; omega
    · rw [onceN_mem]
      have := Pc.takes_iff (.words l) s n
      simp only [Pc.takes, List.mem_eraseDups] at this
      rw [← this]; simp
/-- The places behind places, and a piece. -/
def stepB (p : Pc) (s : Str) (f : Nat → Bool) (j : Nat) : Bool := (List.range (j + 1)).any fun i => f i && p.is ((s.drop i).take (j - i))
theorem stepB_iff (p : Pc) (s : Str) (f : Nat → Bool) (j : Nat) : stepB p s f j = true ↔ ∃ i, i ≤ j ∧ f i = true ∧ p.is ((s.drop i).take (j - i)) = true := by
  unfold stepB
  rw [List.any_eq_true]
  constructor
  · rintro ⟨i, h1, h2⟩
    rw [Bool.and_eq_true] at h2
    exact ⟨i, by have := List.mem_range.mp h1; omega, h2.1, h2.2⟩
  · rintro ⟨i, h1, h2, h3⟩
    exact ⟨i, List.mem_range.mpr (by omega), by rw [h2, h3]; rfl⟩
theorem match16_ok (l : List Sc) (s : Str) (v21 : Int) (at_ : List Bool) (x2 : Sc) (v31 N : Nat) (hN : N ≤ 1000000) (t : List Nat) (ht : ∀ n ∈ t, v31 + n ≤ N) (htl : t.length ≤ 10000000) (k : Nat) : ∀ (v m : Nat) (next : List Bool), v + k = t.length → k < m → next.length = N + 1 →
    ∃ z n2, f_glob_match_l16 l s v21 at_ x2 (v31 : Int) (intsN t) m (v : Int) next = some (z, n2) ∧ n2.length = N + 1 ∧ ∀ j, n2[j]? = some true ↔ next[j]? = some true ∨ ∃ n, n ∈ t.drop v ∧ v31 + n = j := by
  induction k with
  | zero =>
    intro v m next hv hm hn
    obtain ⟨m, rfl⟩ : ∃ k, m = k + 1 := ⟨m - 1, by omega⟩
    rw [f_glob_match_l16, if_neg (by simp; omega), List.drop_eq_nil_of_le (by omega)]
    exact ⟨_, next, rfl, hn, fun j => by simp⟩
  | succ k ih =>
    intro v m next hv hm hn
    obtain ⟨m, rfl⟩ : ∃ k, m = k + 1 := ⟨m - 1, by omega⟩
    have hb := ht _ (List.getElem_mem (show v < t.length by omega))
    have ex : ix (intsN t) (v : Int) = some ((t[v]'(by omega) : Nat) : Int) := by rw [ix_nat, List.getElem?_map, List.getElem?_eq_getElem (by omega)]; rfl
    have w : IntKind.i64.wrap ((v31 : Int) + ((t[v]'(by omega) : Nat) : Int)) = ((v31 + t[v]'(by omega) : Nat) : Int) := by rw [w_i64 (by omega) (by omega)]; omega
    rw [f_glob_match_l16, if_pos (by simp; omega), ex, Option.bind_some, w, ix_nat, List.getElem?_eq_getElem (by omega), Option.bind_some, Int.toNat_natCast, wG_s (by omega)]
    obtain ⟨z, n2, q1, q2, q3⟩ := ih (v + 1) m (next.set (v31 + t[v]'(by omega)) true) (by omega) (by omega) (by rw [List.length_set]; exact hn)
    refine ⟨z, n2, q1, q2, fun j => ?_⟩
    rw [q3 j, List.drop_eq_getElem_cons (show v < t.length by omega)]
    by_cases c : v31 + t[v]'(by omega) = j
    · rw [← c, List.getElem?_set_self (by omega)]
      exact ⟨fun _ => .inr ⟨_, List.mem_cons_self .., rfl⟩, fun _ => .inl rfl⟩
    · rw [List.getElem?_set_ne c]
      constructor
      · rintro (h | ⟨n, h1, h2⟩)
        · exact .inl h
        · exact .inr ⟨n, List.mem_cons_of_mem _ h1, h2⟩
      · rintro (h | ⟨n, h1, h2⟩)
        · exact .inl h
        · rcases List.mem_cons.mp h1 with rfl | h1
          · exact absurd h2 c
          · exact .inr ⟨n, h1, h2⟩
/-- Places, as the program keeps them. -/
def Bools (f : Nat → Bool) (N : Nat) (l : List Bool) : Prop := l.length = N + 1 ∧ ∀ j, j ≤ N → (l[j]? = some true ↔ f j = true)
theorem length_bound {t : List Nat} {N : Nat} : True := trivial
theorem match18_ok (l : List Sc) (s : Str) (v21 : Int) (hs : s.length ≤ 1000) (at_ : List Bool) (p : Pc) (hp : ∀ l, p = .words l → l.length ≤ 1000000) (f : Nat → Bool) (hat : Bools f s.length at_) (k : Nat) : ∀ (v m : Nat) (next : List Bool), v + k = s.length + 1 → k < m → next.length = s.length + 1 →
    ∃ z n2, f_glob_match_l18 l s v21 at_ p.enc m (v : Int) next = some (z, n2) ∧ n2.length = s.length + 1 ∧ ∀ j, j ≤ s.length → (n2[j]? = some true ↔ next[j]? = some true ∨ ∃ i, v ≤ i ∧ i ≤ j ∧ f i = true ∧ p.is ((s.drop i).take (j - i)) = true) := by
  induction k with
  | zero =>
    intro v m next hv hm hn
    obtain ⟨m, rfl⟩ : ∃ k, m = k + 1 := ⟨m - 1, by omega⟩
    rw [f_glob_match_l18, hat.1, if_neg (by simp; omega)]
    refine ⟨_, next, rfl, hn, fun j hj => ?_⟩
    constructor
    · exact .inl
    · rintro (h | ⟨i, h1, h2, _⟩)
      · exact h
      · omega
  | succ k ih =>
    intro v m next hv hm hn
    obtain ⟨m, rfl⟩ : ∃ k, m = k + 1 := ⟨m - 1, by omega⟩
    have hv2 : v < at_.length := by rw [hat.1]; omega
    rw [f_glob_match_l18, if_pos (by rw [hat.1]; simp; omega), ix_nat, List.getElem?_eq_getElem hv2, Option.bind_some, wG_s (by omega)]
    have hf := hat.2 v (by omega)
    rw [List.getElem?_eq_getElem hv2, Option.some.injEq] at hf
    cases hb : at_[v]'hv2 with
    | false =>
      rw [if_pos (by decide)]
      obtain ⟨z, n2, q1, q2, q3⟩ := ih (v + 1) m next (by omega) (by omega) hn
      refine ⟨z, n2, q1, q2, fun j hj => ?_⟩
      rw [q3 j hj]
      constructor
      · rintro (h | ⟨i, h1, h2⟩)
        · exact .inl h
        · exact .inr ⟨i, by omega, h2⟩
      · rintro (h | ⟨i, h1, h2, h3, h4⟩)
        · exact .inl h
        · by_cases c : i = v
          · subst c; rw [hb] at hf; exact absurd (hf.mpr h3) (by decide)
          · exact .inr ⟨i, by omega, h2, h3, h4⟩
    | true =>
      have hfv : f v = true := hf.mp hb
      obtain ⟨hm1, t, ht1, htl, ht2⟩ := inv_takes p (s.drop v) (by rw [List.length_drop]; omega) hp
      rw [if_neg (by decide), gd_t _ (by omega), gd_t _ hm1, cut_all, ht1, Option.bind_some]
      obtain ⟨z1, n1, r1, r2, r3⟩ := match16_ok l s v21 at_ p.enc v s.length (by omega) t (fun n hn => by have := ((ht2 n).mp hn).1; rw [List.length_drop] at this; omega) htl t.length 0 ((((intsN t).length : Int) - 0).toNat + 1) next (by omega) (by simp) hn
      rw [show ((0 : Nat) : Int) = 0 from rfl] at r1
      rw [r1, Option.bind_some]
      obtain ⟨z, n2, q1, q2, q3⟩ := ih (v + 1) m n1 (by omega) (by omega) r2
      refine ⟨z, n2, q1, q2, fun j hj => ?_⟩
      rw [q3 j hj, r3 j, List.drop_zero]
      constructor
      · rintro ((h | ⟨n, h1, h2⟩) | ⟨i, h1, h2⟩)
        · exact .inl h
        · have h3 := (ht2 n).mp h1
          refine .inr ⟨v, Nat.le_refl _, by omega, hfv, ?_⟩
          rw [show j - v = n by omega]; exact h3.2
        · exact .inr ⟨i, by omega, h2⟩
      · rintro (h | ⟨i, h1, h2, h3, h4⟩)
        · exact .inl (.inl h)
        · by_cases c : i = v
          · subst c
            exact .inl (.inr ⟨j - i, (ht2 _).mpr ⟨by rw [List.length_drop]; omega, h4⟩, by omega⟩)
          · exact .inr ⟨i, by omega, h2, h3, h4⟩
end Go.Proofs.YtedibjgdangfnaaGreatDoor.V.M
end

section
/- Globs: what matches, and which pieces a pattern has. -/
namespace Go.Proofs.YtedibjgdangfnaaGreatDoor.V.M
set_option linter.unusedVariables false
set_option linter.unusedSimpArgs false
open Go Go.RowKit
def runB (l : List Pc) (s : Str) (f : Nat → Bool) : Nat → Bool := l.foldl (fun f p => stepB p s f) f
/-- Whether a text is what pieces stand for, one behind the other. -/
def isL : List Pc → Str → Prop
  | [], u => u = []
  | p :: r, u => ∃ a b, u = a ++ b ∧ p.is a = true ∧ isL r b
theorem isL_app : ∀ (a b : List Pc) (u : Str), isL (a ++ b) u ↔ ∃ x y, u = x ++ y ∧ isL a x ∧ isL b y
  | [], b, u => by
    constructor
    · intro h; exact ⟨[], u, rfl, rfl, h⟩
    · rintro ⟨x, y, rfl, h1, h2⟩
      obtain rfl : x = [] := h1
      exact h2
  | p :: a, b, u => by
    constructor
    · rintro ⟨x, y, rfl, h1, h2⟩
      obtain ⟨z, w, rfl, h3, h4⟩ := (isL_app a b y).mp h2
      exact ⟨x ++ z, w, by rw [List.append_assoc], ⟨x, z, rfl, h1, h3⟩, h4⟩
    · rintro ⟨x, y, rfl, ⟨z, w, rfl, h1, h2⟩, h3⟩
      exact ⟨z, w ++ y, by rw [List.append_assoc], h1, (isL_app a b _).mpr ⟨w, y, rfl, h2, h3⟩⟩
theorem isL_one (p : Pc) (u : Str) : isL [p] u ↔ p.is u = true := by
  constructor
  · rintro ⟨a, b, rfl, h1, h2⟩
    obtain rfl : b = [] := h2
    rw [List.append_nil]; exact h1
  · intro h; exact ⟨u, [], by simp, h, rfl⟩
theorem seg_split (s : Str) (i k j : Nat) (h1 : i ≤ k) (h2 : k ≤ j) : (s.drop i).take (j - i) = (s.drop i).take (k - i) ++ (s.drop k).take (j - k) := by
  have : j - i = (k - i) + (j - k) := by omega
  rw [this, List.take_add, List.drop_drop, show i + (k - i) = k by omega]
theorem runB_iff : ∀ (l : List Pc) (s : Str) (f : Nat → Bool) (j : Nat), j ≤ s.length → (runB l s f j = true ↔ ∃ i, i ≤ j ∧ f i = true ∧ isL l ((s.drop i).take (j - i)))
  | [], s, f, j, hj => by
    constructor
    · intro h; exact ⟨j, Nat.le_refl _, h, by show _ = []; simp⟩
    · rintro ⟨i, h1, h2, h3⟩
      have h4 : ((s.drop i).take (j - i)).length = 0 := by rw [show (s.drop i).take (j - i) = [] from h3]; rfl
      rw [List.length_take, List.length_drop] at h4
      rw [show j = i by omega]; exact h2
  | p :: r, s, f, j, hj => by
    show runB r s (stepB p s f) j = true ↔ _
    rw [runB_iff r s (stepB p s f) j hj]
    constructor
    · rintro ⟨k, h1, h2, h3⟩
      obtain ⟨i, h4, h5, h6⟩ := (stepB_iff p s f k).mp h2
      exact ⟨i, by omega, h5, _, _, seg_split s i k j h4 h1, h6, h3⟩
    · rintro ⟨i, h1, h2, a, b, h3, h4, h5⟩
      have hl : a.length + b.length = j - i := by
        rw [← List.length_append, ← h3, List.length_take, List.length_drop]; omega
      have e := seg_split s i (i + a.length) j (by omega) (by omega)
      rw [h3] at e
      have l1 : ((s.drop i).take (i + a.length - i)).length = a.length := by rw [List.length_take, List.length_drop]; omega
      obtain ⟨e1, e2⟩ := List.append_inj e l1.symm
      exact ⟨i + a.length, by omega, (stepB_iff p s f _).mpr ⟨i, by omega, h2, by rw [← e1]; exact h4⟩, by rw [← e2]; exact h5⟩
def okW (l : List Pc) : Prop := ∀ p ∈ l, ∀ w, p = .words w → w.length ≤ 1000000
theorem match21_ok (L : List Pc) (s : Str) (hs : s.length ≤ 1000) (hw : okW L) (hl : L.length ≤ 1000000) (k : Nat) : ∀ (v m : Nat) (at_ : List Bool) (f : Nat → Bool), v + k = L.length → k < m → Bools f s.length at_ →
    ∃ z a2, f_glob_match_l21 (L.map Pc.enc) s m (v : Int) at_ = some (z, a2) ∧ Bools (runB (L.drop v) s f) s.length a2 := by
  induction k with
  | zero =>
    intro v m at_ f hv hm hb
    obtain ⟨m, rfl⟩ : ∃ k, m = k + 1 := ⟨m - 1, by omega⟩
    rw [f_glob_match_l21, if_neg (by simp; omega), List.drop_eq_nil_of_le (by omega)]
    exact ⟨_, at_, rfl, hb⟩
  | succ k ih =>
    intro v m at_ f hv hm hb
    obtain ⟨m, rfl⟩ : ∃ k, m = k + 1 := ⟨m - 1, by omega⟩
    have ex : ix (L.map Pc.enc) (v : Int) = some (L[v]'(by omega)).enc := by rw [ix_nat, List.getElem?_map, List.getElem?_eq_getElem (by omega)]; rfl
    rw [f_glob_match_l21, if_pos (by simp; omega), ex, Option.bind_some, wG_s (by omega), gd_t _ (by omega), Int.toNat_natCast, wG_s (by omega)]
    obtain ⟨z, n2, q1, q2, q3⟩ := match18_ok (L.map Pc.enc) s (v : Int) hs at_ (L[v]'(by omega)) (hw _ (List.getElem_mem _)) f hb (s.length + 1) 0 ((((at_.length : Int) : Int) - 0).toNat + 1) (List.replicate (s.length + 1) false) (by omega) (by rw [hb.1]; omega) (by simp)
    rw [show ((0 : Nat) : Int) = 0 from rfl] at q1
    rw [q1, Option.bind_some]
    have hb2 : Bools (stepB (L[v]'(by omega)) s f) s.length n2 := by
      refine ⟨q2, fun j hj => ?_⟩
      rw [q3 j hj, stepB_iff]
      constructor
      · rintro (h | ⟨i, _, h1, h2⟩)
        · rw [List.getElem?_replicate] at h; split at h <;> cases h
        · exact ⟨i, h1, h2⟩
      · rintro ⟨i, h1, h2⟩; exact .inr ⟨i, Nat.zero_le _, h1, h2⟩
    obtain ⟨z2, a2, r1, r2⟩ := ih (v + 1) m n2 _ (by omega) (by omega) hb2
    refine ⟨z2, a2, r1, ?_⟩
    rw [List.drop_eq_getElem_cons (show v < L.length by omega)]; exact r2
theorem match_ok (L : List Pc) (s : Str) (hs : s.length ≤ 1000) (hw : okW L) (hl : L.length ≤ 1000000) : f_glob_match (L.map Pc.enc) s = some (runB L s (fun i => i == 0) s.length) := by
  unfold f_glob_match
  rw [wG_s (by omega), gd_t _ (by omega), Int.toNat_natCast, show ix (List.replicate (s.length + 1) false) 0 = some false from rfl, Option.bind_some]
  have hb : Bools (fun i => i == 0) s.length ((List.replicate (s.length + 1) false).set 0 true) := by
    refine ⟨by simp, fun j hj => ?_⟩
    by_cases c : j = 0
    · subst c; rw [List.getElem?_set_self (by simp)]; simp
    · rw [List.getElem?_set_ne (by omega), List.getElem?_replicate, if_pos (by omega)]; simp [c]
  obtain ⟨z, a2, q1, q2⟩ := match21_ok L s hs hw hl L.length 0 (((((L.map Pc.enc).length : Int) : Int) - 0).toNat + 1) _ _ (by omega) (by simp) hb
  rw [show ((0 : Nat) : Int) = 0 from rfl] at q1
  rw [q1, Option.bind_some, List.drop_zero] at *
  have hlt : s.length < a2.length := by rw [q2.1]; omega
  have := q2.2 s.length (Nat.le_refl _)
  rw [ix_nat, List.getElem?_eq_getElem hlt, Option.bind_some]
  rw [List.getElem?_eq_getElem hlt, Option.some.injEq] at this
  congr 1
  rw [Bool.eq_iff_iff]; exact this
theorem run_whole (L : List Pc) (s : Str) : runB L s (fun i => i == 0) s.length = true ↔ isL L s := by
  rw [runB_iff L s _ _ (Nat.le_refl _)]
  constructor
  · rintro ⟨i, h1, h2, h3⟩
    obtain rfl : i = 0 := by simpa using h2
    rw [List.drop_zero, Nat.sub_zero, List.take_length] at h3; exact h3
  · intro h
    exact ⟨0, Nat.zero_le _, rfl, by rw [List.drop_zero, Nat.sub_zero, List.take_length]; exact h⟩
/-- A pattern's pieces. -/
def piecesG : Nat → Str → List Pc → Option (List Pc)
  | 0, _, _ => none
  | m + 1, s, out => match s with
    | [] => some out
    | c :: r =>
      if hasP (c :: r) [42, 42] then piecesG m (r.drop 1) (out ++ [.many true])
      else if c = 42 then piecesG m r (out ++ [.many false])
      else if c = 63 then piecesG m r (out ++ [.one])
      else if c = 123 then
        if (cutS r 125).2.2 = false ∨ 123 ∈ (cutS r 125).1 then none
        else piecesG m (r.drop ((cutS r 125).1.length + 1)) (out ++ [.words (splitOnB 44 (cutS r 125).1)])
      else if c = 125 then none
      else piecesG m r (out ++ [.plain c])
def badC (c : UInt8) : Bool := decide (c.toNat < 33) || decide (126 < c.toNat)
def piecesS (p : Str) : Option (List Pc) := if p = [] ∨ 128 < p.length ∨ p.any badC = true then none else piecesG (p.length + 1) p []
theorem cutS_len (s : Str) (c : UInt8) : (cutS s c).1.length ≤ s.length := by
  unfold cutS; split
  · rw [List.length_take]; omega
  · exact Nat.le_refl _
theorem cutS_lt {s : Str} {c : UInt8} (h : (cutS s c).2.2 = true) : (cutS s c).1.length + 1 ≤ s.length := by
  unfold cutS at h ⊢
  split
  · rename_i h1
    obtain ⟨i, e1, e2, _⟩ := indexByte_at h1
    rw [e1, List.length_take]; omega
  · rename_i h1; rw [if_neg h1] at h; cases h
def resX (o : Option (List Pc)) : (Str × (List Sc)) ⊕ ((List Sc) × Bool) := match o with | some l => .inl ([], l.map Pc.enc) | none => .inr ([], false)
theorem bnG (c : UInt8) (n : Nat) (h : n < 256) : (bn c == (n : Int)) = decide (c = UInt8.ofNat n) := by
  have e : (n : Int) = bn (UInt8.ofNat n) := by unfold bn; rw [UInt8.toNat_ofNat']; congr 1; omega
  rw [e, bn_eqG]
theorem pieces24_ok (b : Bool) (m : Nat) : ∀ (s : Str) (out : List Pc), s.length < m → s.length ≤ 1000 → out.length + s.length ≤ 2000 → f_glob_pieces_l24 b m s (out.map Pc.enc) = some (resX (piecesG m s out)) := by
  induction m with
  | zero => intro s out h _ _; omega
  | succ m ih =>
    intro s out hm hs ho
    rw [f_glob_pieces_l24]
    cases s with
    | nil => rfl
    | cons c r =>
      simp only [List.length_cons] at hm hs ho
      have go := fun (x : Pc) (u : Str) (hu : u.length ≤ r.length) => ih u (out ++ [x]) (by omega) (by omega) (by simp; omega)
      simp only [List.map_append, List.map_cons, List.map_nil] at go
      have hl : (out.map Pc.enc).length = out.length := List.length_map _
      rw [if_pos (by simp), show ix (c :: r) 0 = some c from rfl, Option.bind_some, hasPrefix_ok, Option.bind_some, piecesG]
      by_cases h0 : hasP (c :: r) [42, 42] = true
      · have h2 : 2 ≤ (c :: r).length := (hasP_iff.mp h0).1
        rw [if_pos h0, if_pos h0, gd_t _ (by omega), gd_t _ (by omega), show cut (c :: r) 2 (((c :: r).length : Nat) : Int) = r.drop 1 from cut_all (c :: r) 2]
        exact go (.many true) _ (by rw [List.length_drop]; omega)
      · rw [if_neg h0, if_neg h0]
        rw [show ((bn c) == 42) = decide (c = 42) from bnG c 42 (by decide), show ((bn c) == 63) = decide (c = 63) from bnG c 63 (by decide), show ((bn c) == 123) = decide (c = 123) from bnG c 123 (by decide), show ((bn c) == 125) = decide (c = 125) from bnG c 125 (by decide)]
        have e1 : cut (c :: r) 1 (((c :: r).length : Nat) : Int) = r := cut_all (c :: r) 1
        by_cases h1 : c = 42
        · rw [if_pos (decide_eq_true h1), if_pos h1, gd_t _ (by omega), gd_t _ (by simp; omega), e1]
          exact go (.many false) _ (Nat.le_refl _)
        · rw [if_neg (by simpa using h1), if_neg h1]
          by_cases h2 : c = 63
          · rw [if_pos (decide_eq_true h2), if_pos h2, gd_t _ (by omega), gd_t _ (by simp; omega), e1]
            exact go .one _ (Nat.le_refl _)
          · rw [if_neg (by simpa using h2), if_neg h2]
            by_cases h3 : c = 123
            · have hc := cutS_len r 125
              rw [if_pos (decide_eq_true h3), if_pos h3, gd_t _ (by simp; omega), e1, cut_ok r 125 (by omega), Option.bind_some, contains_ok]
              cases hx : (cutS r 125).2.2 with
              | false => rw [if_pos (.inl rfl)]; rfl
              | true =>
                have hlt := cutS_lt hx
                rw [show gx (!(!true)) (some (decide ((123 : UInt8) ∈ (cutS r 125).1))) default = some (decide ((123 : UInt8) ∈ (cutS r 125).1)) from rfl, Option.bind_some]
                by_cases h4 : 123 ∈ (cutS r 125).1
                · rw [if_pos (by simp [h4]), if_pos (.inr h4)]; rfl
                · rw [if_neg (by simp [h4]), if_neg (by rintro (h5 | h5); cases h5; exact h4 h5), split_ok _ _ (by omega), Option.bind_some, gd_t _ (by omega)]
                  have w : IntKind.i64.wrap (((cutS r 125).1.length : Int) + 2) = (((cutS r 125).1.length + 2 : Nat) : Int) := by rw [w_i64 (by omega) (by omega)]; omega
                  rw [w, gd_t _ (by simp; omega), show cut (c :: r) (((cutS r 125).1.length + 2 : Nat) : Int) (((c :: r).length : Nat) : Int) = r.drop ((cutS r 125).1.length + 1) from (cut_all (c :: r) _).trans rfl]
                  exact go (.words (splitOnB 44 (cutS r 125).1)) _ (by rw [List.length_drop]; omega)
            · rw [if_neg (by simpa using h3), if_neg h3]
              by_cases h4 : c = 125
              · rw [if_pos (decide_eq_true h4), if_pos h4]; rfl
              · rw [if_neg (by simpa using h4), if_neg h4, gd_t _ (by omega), gd_t _ (by simp; omega), e1]
                exact go (.plain c) _ (Nat.le_refl _)
def resP (o : Option (List Pc)) : List Sc × Bool := match o with | some l => (l.map Pc.enc, true) | none => ([], false)
theorem pieces_ok (p : Str) (hp : p.length < 4611686018427387904) : f_glob_pieces p = some (resP (piecesS p)) := by
  unfold f_glob_pieces piecesS
  by_cases h0 : p = []
  · subst h0; rfl
  · rw [if_neg (by simpa using h0)]
    by_cases h1 : 128 < p.length
    · rw [if_pos (by simp; omega), if_pos (.inr (.inl h1))]; rfl
    · rw [if_neg (by simp; omega), containsB (p.map bn) f_glob_pieces_1 (fun c => decide (c < 33) || decide (c > 126)) (fun x => rfl) (by simp; omega), Option.bind_some, Option.bind_some]
      have e : (p.map bn).any (fun c => decide (c < 33) || decide (c > 126)) = p.any badC := by
        rw [List.any_map]
        congr 1
        funext c
        unfold badC bn
        simp only [Function.comp]
        congr 1
        · rw [decide_eq_decide]; omega
        · rw [decide_eq_decide]; omega
      rw [e]
      cases h2 : p.any badC with
      | true => rw [if_pos rfl, if_pos (.inr (.inr rfl))]; rfl
      | false =>
        rw [if_neg (by decide), if_neg (by rintro (h | h | h); exact h0 h; exact h1 h; cases h)]
        have q := pieces24_ok false (p.length + 1) p [] (by omega) (by omega) (by simp; omega)
        rw [List.map_nil] at q
        rw [q, Option.bind_some]
        cases piecesG (p.length + 1) p [] <;> rfl
theorem piecesG_okW : ∀ (m : Nat) (s : Str) (out l : List Pc), piecesG m s out = some l → s.length ≤ 1000 → okW out → out.length + s.length ≤ 100000 → okW l ∧ l.length ≤ out.length + s.length
  | 0, _, _, _, h, _, _, _ => by cases h
  | m + 1, s, out, l, h, hs, ho, hl => by
    cases s with
    | nil => rw [piecesG] at h; cases h; exact ⟨ho, by simp⟩
    | cons c r =>
      rw [piecesG] at h
      simp only [List.length_cons] at hs hl ⊢
      have app : ∀ x : Pc, (∀ w, x = .words w → w.length ≤ 1000000) → okW (out ++ [x]) := by
        intro x hx p hp
        rcases List.mem_append.mp hp with hp | hp
        · exact ho p hp
        · rw [List.mem_singleton.mp hp]; exact hx
      have go := fun (x : Pc) (hx : ∀ w, x = .words w → w.length ≤ 1000000) (u : Str) (hu : u.length ≤ r.length) (h : piecesG m u (out ++ [x]) = some l) => by
        have := piecesG_okW m u (out ++ [x]) l h (by omega) (app x hx) (by simp; omega)
        simp only [List.length_append, List.length_singleton] at this
        exact (⟨this.1, by omega⟩ : okW l ∧ l.length ≤ out.length + (r.length + 1))
      split at h
      · exact go _ (fun w h => by cases h) _ (by rw [List.length_drop]; omega) h
      · split at h
        · exact go _ (fun w h => by cases h) _ (Nat.le_refl _) h
        · split at h
          · exact go _ (fun w h => by cases h) _ (Nat.le_refl _) h
          · split at h
            · split at h
              · cases h
              · refine go _ (fun w h => ?_) _ (by rw [List.length_drop]; omega) h
                cases h
                have h1 := count_split 44 (cutS r 125).1
                have h2 : (cutS r 125).1.count 44 ≤ (cutS r 125).1.length := List.count_le_length
                have h3 := cutS_len r 125
                omega
            · split at h
              · cases h
              · exact go _ (fun w h => by cases h) _ (Nat.le_refl _) h
theorem piecesS_okW {p : Str} {l : List Pc} (h : piecesS p = some l) : okW l ∧ l.length ≤ 128 := by
  unfold piecesS at h
  split at h
  · cases h
  · rename_i hn
    have := piecesG_okW _ _ _ _ h (by omega) (by intro p hp; cases hp) (by simp; omega)
    simp only [List.length_nil] at this
    exact ⟨this.1, by omega⟩
def matchS (p s : Str) : Bool := match piecesS p with
  | some l => decide (s.length ≤ 200) && runB l s (fun i => i == 0) s.length
  | none => false
theorem Match_ok (p s : Str) (hp : p.length < 4611686018427387904) : f_glob_Match p s = some (matchS p s) := by
  unfold f_glob_Match matchS
  rw [pieces_ok p hp, Option.bind_some]
  cases h : piecesS p with
  | none => rfl
  | some l =>
    obtain ⟨h1, h2⟩ := piecesS_okW h
    dsimp only [resP]
    by_cases c : s.length ≤ 200
    · rw [show decide ((s.length : Int) ≤ 200) = true from decide_eq_true (by omega), decide_eq_true c, match_ok l s (by omega) h1 (by omega)]; rfl
    · rw [show decide ((s.length : Int) ≤ 200) = false from decide_eq_false (by omega), decide_eq_false c]; rfl
theorem matchS_iff (p s : Str) : matchS p s = true ↔ s.length ≤ 200 ∧ ∃ l, piecesS p = some l ∧ isL l s := by
  unfold matchS
  cases h : piecesS p with
  | none => simp
  | some l => rw [Bool.and_eq_true, decide_eq_true_eq, run_whole]; simp
theorem Right_ok (p : Str) (hp : p.length < 4611686018427387904) : f_glob_Right p = some (piecesS p).isSome := by
  unfold f_glob_Right
  rw [pieces_ok p hp, Option.bind_some]
  cases piecesS p <;> rfl
end Go.Proofs.YtedibjgdangfnaaGreatDoor.V.M
end

section
/- Globs: the law GlobStars. -/
namespace Go.Proofs.YtedibjgdangfnaaGreatDoor.V.M
set_option linter.unusedVariables false
set_option linter.unusedSimpArgs false
open Go Go.RowKit
theorem gx_some {α : Type} (γ : Bool) (x d : α) : gx γ (some x) d = some (bif γ then x else d) := by cases γ <;> rfl
theorem piecesG_fuel : ∀ (m : Nat) (s : Str) (out : List Pc) (n : Nat), s.length < m → s.length < n → piecesG m s out = piecesG n s out
  | 0, s, _, _, h, _ => by omega
  | m + 1, s, out, n, h, h2 => by
    obtain ⟨n, rfl⟩ : ∃ k, n = k + 1 := ⟨n - 1, by omega⟩
    cases s with
    | nil => rw [piecesG, piecesG]
    | cons c r =>
      simp only [List.length_cons] at h h2
      have go := fun (u : Str) (o : List Pc) (hu : u.length ≤ r.length) => piecesG_fuel m u o n (by omega) (by omega)
      rw [piecesG, piecesG, go (r.drop 1) _ (by rw [List.length_drop]; omega), go r _ (Nat.le_refl _), go r _ (Nat.le_refl _), go r _ (Nat.le_refl _), go (r.drop ((cutS r 125).1.length + 1)) _ (by rw [List.length_drop]; omega)]
/-- A plain byte. -/
def plainC (c : UInt8) : Prop := badC c = false ∧ c ≠ 42 ∧ c ≠ 63 ∧ c ≠ 123 ∧ c ≠ 125
theorem hasP_star {c : UInt8} {r : Str} : hasP (c :: r) [42, 42] = true ↔ c = 42 ∧ ∃ t, r = 42 :: t := by
  rw [hasP_pre]
  constructor
  · rintro ⟨t, h⟩
    obtain ⟨h1, h2⟩ := List.cons.inj h
    exact ⟨h1, t, h2⟩
  · rintro ⟨rfl, t, rfl⟩; exact ⟨t, rfl⟩
theorem plain_step (m : Nat) (c : UInt8) (hc : plainC c) (r : Str) (out : List Pc) : piecesG (m + 1) (c :: r) out = piecesG m r (out ++ [.plain c]) := by
  rw [piecesG, if_neg (fun h => hc.2.1 (hasP_star.mp h).1), if_neg hc.2.1, if_neg hc.2.2.1, if_neg hc.2.2.2.1, if_neg hc.2.2.2.2]
theorem plain_pieces : ∀ (a : Str), (∀ c ∈ a, plainC c) → ∀ (s : Str) (out : List Pc) (m : Nat), piecesG (m + a.length) (a ++ s) out = piecesG m s (out ++ a.map .plain)
  | [], _, s, out, m => by simp
  | c :: a, h, s, out, m => by
    rw [List.length_cons, ← Nat.add_assoc, List.cons_append, plain_step _ c (h c (List.mem_cons_self ..)), plain_pieces a (fun x hx => h x (List.mem_cons_of_mem _ hx)), List.append_assoc]; rfl
theorem isL_plain : ∀ (a u : Str), isL (a.map .plain) u ↔ u = a
  | [], u => Iff.rfl
  | c :: a, u => by
    constructor
    · rintro ⟨x, y, rfl, h1, h2⟩
      rw [(isL_plain a y).mp h2, beq_iff_eq.mp h1]; rfl
    · rintro rfl; exact ⟨[c], a, rfl, by simp [Pc.is], (isL_plain a a).mpr rfl⟩
theorem star_step (b : Str) (hb : ∀ c ∈ b, plainC c) (m : Nat) (out : List Pc) : piecesG (m + 1) (42 :: b) out = piecesG m b (out ++ [.many false]) := by
  rw [piecesG, if_neg (fun h => by
    obtain ⟨_, t, rfl⟩ := hasP_star.mp h
    exact (hb 42 (List.mem_cons_self ..)).2.1 rfl), if_pos rfl]
theorem stars_step (b : Str) (m : Nat) (out : List Pc) : piecesG (m + 1) (42 :: 42 :: b) out = piecesG m b (out ++ [.many true]) := by
  rw [piecesG, if_pos (hasP_star.mpr ⟨rfl, b, rfl⟩)]; rfl
theorem piecesS_of {p : Str} {l : List Pc} (h0 : p ≠ []) (h1 : p.length ≤ 128) (h2 : ∀ c ∈ p, badC c = false) (h3 : piecesG (p.length + 1) p [] = some l) : piecesS p = some l := by
  unfold piecesS
  rw [if_neg, h3]
  rintro (h | h | h)
  · exact h0 h
  · omega
  · obtain ⟨c, hc, hc2⟩ := List.any_eq_true.mp h
    rw [h2 c hc] at hc2; cases hc2
theorem match_plain {a s : Str} (h0 : a ≠ []) (h1 : a.length ≤ 128) (ha : ∀ c ∈ a, plainC c) (hs : s.length ≤ 200) : matchS a s = (s == a) := by
  have e : piecesS a = some (a.map .plain) := by
    refine piecesS_of h0 h1 (fun c hc => (ha c hc).1) ?_
    have := plain_pieces a ha [] [] 1
    rw [List.append_nil, Nat.add_comm] at this
    rw [this]; rfl
  rw [Bool.eq_iff_iff, matchS_iff, beq_iff_eq, e]
  constructor
  · rintro ⟨_, l, h, h2⟩
    obtain rfl := Option.some.inj h
    exact (isL_plain a s).mp h2
  · rintro rfl; exact ⟨hs, _, rfl, (isL_plain _ _).mpr rfl⟩
theorem badC_42 : badC 42 = false := by decide
theorem match_star {a b s : Str} {sl : Bool} {st : Str} (hst : st = if sl then [42, 42] else [42]) (ha : ∀ c ∈ a, plainC c) (hb : ∀ c ∈ b, plainC c) (h1 : a.length ≤ 40) (h2 : b.length ≤ 40) (hs : s.length ≤ 200) :
    matchS (a ++ st ++ b) s = true ↔ ∃ u, s = a ++ u ++ b ∧ (Pc.many sl).is u = true := by
  have e : piecesS (a ++ st ++ b) = some (a.map .plain ++ ([.many sl] ++ b.map .plain)) := by
    refine piecesS_of ?_ ?_ ?_ ?_
    · subst hst; cases sl <;> simp
    · subst hst; cases sl <;> simp <;> omega
    · subst hst
      intro c hc
      rw [List.append_assoc] at hc
      rcases List.mem_append.mp hc with hc | hc
      · exact (ha c hc).1
      · rcases List.mem_append.mp hc with hc | hc
        · have : c = 42 := by cases sl <;> simpa using hc
          rw [this]; exact badC_42
        · exact (hb c hc).1
    · have hl : (a ++ st ++ b).length + 1 = (st.length + b.length + 1) + a.length := by simp; omega
      rw [hl, List.append_assoc, plain_pieces a ha, List.nil_append]
      have hp := plain_pieces b hb [] (a.map .plain ++ [.many sl])
      simp only [List.append_nil] at hp
      cases sl with
      | true =>
        subst hst
        rw [show (if true = true then ([42, 42] : Str) else [42]) ++ b = 42 :: 42 :: b from rfl]
        rw [show (if true = true then ([42, 42] : Str) else [42]).length + b.length + 1 = (2 + b.length) + 1 by simp, stars_step, hp 2, piecesG, List.append_assoc]
      | false =>
        subst hst
        rw [show (if false = true then ([42, 42] : Str) else [42]) ++ b = 42 :: b from rfl]
        rw [show (if false = true then ([42, 42] : Str) else [42]).length + b.length + 1 = (1 + b.length) + 1 by simp, star_step b hb, hp 1, piecesG, List.append_assoc]
  rw [matchS_iff, e]
  constructor
  · rintro ⟨_, l, h, h3⟩
    obtain rfl := Option.some.inj h
    obtain ⟨x, y, rfl, h4, h5⟩ := (isL_app _ _ _).mp h3
    obtain ⟨z, w, rfl, h6, h7⟩ := (isL_app _ _ _).mp h5
    rw [(isL_plain a x).mp h4, (isL_plain b w).mp h7]
    exact ⟨z, by rw [List.append_assoc], (isL_one _ _).mp h6⟩
  · rintro ⟨u, rfl, h⟩
    refine ⟨hs, _, rfl, (isL_app _ _ _).mpr ⟨a, u ++ b, by rw [List.append_assoc], (isL_plain a a).mpr rfl, (isL_app _ _ _).mpr ⟨u, b, rfl, (isL_one _ _).mpr h, (isL_plain b b).mpr rfl⟩⟩⟩
/-- Begins so, ends so, and is long enough. -/
def wantB (a b s : Str) : Bool := decide (a.length + b.length ≤ s.length) && hasP s a && hasSf s b
theorem want_iff {a b s : Str} : wantB a b s = true ↔ ∃ u, s = a ++ u ++ b := by
  unfold wantB
  rw [Bool.and_eq_true, Bool.and_eq_true, decide_eq_true_eq, hasP_pre, hasSf_suf]
  constructor
  · rintro ⟨⟨h1, t, h2⟩, v, h3⟩
    refine ⟨t.take (t.length - b.length), ?_⟩
    have hl : s.length = a.length + t.length := by rw [h2, List.length_append]
    have hd : t.drop (t.length - b.length) = b := by
      have e1 : s.drop (s.length - b.length) = b := by rw [h3, List.length_append, Nat.add_sub_cancel]; exact List.drop_left' rfl
      rw [h2, List.length_append, show a.length + t.length - b.length = a.length + (t.length - b.length) by omega, List.drop_append, List.drop_of_length_le (by omega), List.nil_append, show a.length + (t.length - b.length) - a.length = t.length - b.length by omega] at e1
      exact e1
    rw [List.append_assoc]
    conv => lhs; rw [h2, ← List.take_append_drop (t.length - b.length) t, hd]
  · rintro ⟨u, rfl⟩
    exact ⟨⟨by simp only [List.length_append]; omega, u ++ b, by rw [List.append_assoc]⟩, a ++ u, rfl⟩
theorem want_seg {a b u : Str} : cut (a ++ u ++ b) (if ((a ++ u ++ b).length : Int) < (a.length : Int) then ((a ++ u ++ b).length : Int) else (a.length : Int)) (if ((a ++ u ++ b).length : Int) - (b.length : Int) < (if ((a ++ u ++ b).length : Int) < (a.length : Int) then ((a ++ u ++ b).length : Int) else (a.length : Int)) then (if ((a ++ u ++ b).length : Int) < (a.length : Int) then ((a ++ u ++ b).length : Int) else (a.length : Int)) else ((a ++ u ++ b).length : Int) - (b.length : Int)) = u := by
  have hl : (a ++ u ++ b).length = a.length + u.length + b.length := by simp only [List.length_append]
  rw [hl, if_neg (by omega), if_neg (by omega), show (((a.length + u.length + b.length : Nat) : Int) - (b.length : Int)) = ((a.length + u.length : Nat) : Int) by omega, cutG_mid, List.append_assoc, List.drop_left' rfl, List.take_left' rfl]
theorem byte_back (c : UInt8) : (bn c).toNat.toUInt8 = c := by unfold bn; simp
theorem plain_of {c : UInt8} (h1 : ¬ (bn c < 33)) (h2 : ¬ (bn c > 126)) (h3 : c ∉ ([42, 63, 123, 125] : Str)) : plainC c := by
  simp only [List.mem_cons, List.not_mem_nil, or_false, not_or] at h3
  refine ⟨?_, h3.1, h3.2.1, h3.2.2.1, h3.2.2.2⟩
  unfold bn at h1 h2
  unfold badC
  rw [decide_eq_false (by omega), decide_eq_false (by omega)]; rfl
end Go.Proofs.YtedibjgdangfnaaGreatDoor.V.M
end

section
/- Globs: the laws GlobNames, GlobWords. -/
namespace Go.Proofs.YtedibjgdangfnaaGreatDoor.V.M
set_option linter.unusedVariables false
set_option linter.unusedSimpArgs false
open Go Go.RowKit
def someR (s : Str) (l : List Str) : Bool × Int := if 200 < s.length ∨ (l.any fun p => !(piecesS p).isSome) = true then (false, 1) else ((l.length == 0) || l.any (fun p => matchS p s), 0)
theorem some_ok (s : Str) (l : List Str) (hl : l.length < 1000000) (hp : ∀ p ∈ l, p.length < 4611686018427387904) : f_glob_Some s l = some (someR s l) := by
  unfold f_glob_Some someR
  rw [containsGS l f_glob_Some_1 (fun p => !(piecesS p).isSome) (fun x hx => by unfold f_glob_Some_1; rw [Right_ok _ (hp x hx)]; rfl) (by omega), gx_some, Option.bind_some]
  rw [containsGS l (fun a0 => f_glob_Some_2 a0 s) (fun p => matchS p s) (fun x hx => by show (f_glob_Match x s).bind _ = _; rw [Match_ok _ _ (hp x hx)]; rfl) (by omega), gx_some]
  have e0 : ((l.length : Int) == 0) = (l.length == 0) := by rw [Bool.eq_iff_iff]; simp
  by_cases c : 200 < s.length
  · rw [if_pos (by simp; omega), if_pos (.inl c)]
  · rw [show decide ((s.length : Int) > 200) = false from decide_eq_false (by omega)]
    cases h : l.any fun p => !(piecesS p).isSome with
    | true => rw [if_pos (by rfl), if_pos (.inr rfl)]
    | false =>
      rw [if_neg (by decide), if_neg (by rintro (h | h); exact c h; cases h), Option.bind_some, e0]
      cases (l.length == 0) <;> rfl
theorem stars_all (s : Str) (h : s.length ≤ 200) : matchS [42, 42] s = true := (matchS_iff _ _).mpr ⟨h, [.many true], rfl, (isL_one _ _).mpr rfl⟩
end Go.Proofs.YtedibjgdangfnaaGreatDoor.V.M
end

section
/- The laws DigestParses and DigestBack. -/
namespace Go.Proofs.YtedibjgdangfnaaGreatDoor.V.M
set_option linter.unusedVariables false
set_option linter.unusedSimpArgs false
open Go Go.RowKit
theorem w8r (a b : UInt8) (ha : hx a < 16) (hb : hx b < 16) : IntKind.u8.wrap (IntKind.i64.wrap ((IntKind.i64.wrap (16 * (hx a : Int))) + (hx b : Int))) = bn (UInt8.ofNat (16 * hx a + hx b)) := by
  rw [Int.mul_comm]; exact w8h a b ha hb
def refParseS (s : Str) : Str × Bool := if s.length = 71 ∧ s.take 7 = pfx then (match un (s.drop 7) with | some x => (x, true) | none => ([], false)) else ([], false)
theorem parseS_cases (s : Str) : (∃ x, parseS s = (x, 0) ∧ x.length = 32 ∧ refParseS s = (x, true)) ∨ (parseS s = ([], 6) ∧ refParseS s = ([], false)) := by
  unfold parseS refParseS
  by_cases c : s.take 7 = pfx
  · have l7 : 7 ≤ s.length := by have := congrArg List.length c; rw [List.length_take] at this; simp at this; omega
    rw [if_pos c]
    cases e : un (s.drop 7) with
    | none => right; refine ⟨rfl, ?_⟩; split <;> rfl
    | some x =>
      have l := un_len _ _ _ (Nat.le_refl _) e
      rw [List.length_drop] at l
      by_cases d : x.length = 32
      · left; exact ⟨x, by simp [d], d, by rw [if_pos ⟨by omega, c⟩]⟩
      · right; refine ⟨by simp [d], ?_⟩; rw [if_neg (by omega)]
  · right; rw [if_neg c, if_neg (fun h => c h.2)]; exact ⟨rfl, rfl⟩
end Go.Proofs.YtedibjgdangfnaaGreatDoor.V.M
end

section
/- The law DigestBack. -/
namespace Go.Proofs.YtedibjgdangfnaaGreatDoor.V.M
set_option linter.unusedVariables false
set_option linter.unusedSimpArgs false
open Go Go.RowKit
theorem take_if {α : Type} (x : List α) (n : Nat) (c : Int) (hc : c = (n : Int)) : cut x 0 (if c < (x.length : Int) then c else (x.length : Int)) = x.take n ∧ (0 ≤ (if c < (x.length : Int) then c else (x.length : Int)) ∧ (if c < (x.length : Int) then c else (x.length : Int)) ≤ (x.length : Int)) := by
  subst hc
  by_cases c : n < x.length
  · rw [if_pos (by omega)]; exact ⟨cut_zero x n, by omega⟩
  · rw [if_neg (by omega)]; refine ⟨?_, by omega⟩; rw [cut_zero, List.take_of_length_le (Nat.le_refl _), List.take_of_length_le (by omega)]
theorem join_le (n m : Nat) : ∀ l : List Str, l.length ≤ n → (∀ x ∈ l, x.length ≤ m) → (Lib.join l []).length ≤ n * m := by
  have e : ∀ l : List Str, Lib.join l [] = l.flatten := by
    intro l
    cases l with
    | nil => rfl
    | cons x r =>
      rw [Lib.join_cons, List.flatten_cons]; congr 1
      induction r with
      | nil => rfl
      | cons y r ih => simp [Lib.joinTail] at *
  intro l hl hx
  rw [e]
  have : ∀ l : List Str, (∀ x ∈ l, x.length ≤ m) → l.flatten.length ≤ l.length * m := by
    intro l
    induction l with
    | nil => intro _; simp
    | cons x l ih =>
      intro h
      have a := h x List.mem_cons_self
      have b := ih (fun y hy => h y (List.mem_cons_of_mem _ hy))
      rw [List.flatten_cons, List.length_append, List.length_cons, Nat.add_mul]; omega
  exact Nat.le_trans (this l hx) (Nat.mul_le_mul_right _ hl)
end Go.Proofs.YtedibjgdangfnaaGreatDoor.V.M
end

section
/- Names: what a part is, by both texts. -/
namespace Go.Proofs.YtedibjgdangfnaaGreatDoor.V.M
set_option linter.unusedVariables false
set_option linter.unusedSimpArgs false
open Go Go.RowKit
def sm (c : UInt8) : Bool := (decide (97 ≤ c.toNat) && decide (c.toNat ≤ 122)) || (decide (48 ≤ c.toNat) && decide (c.toNat ≤ 57))
theorem nsmall_ok (c : UInt8) : f_name_small (bn c) = some (sm c) := u8_all (P := fun c => f_name_small (bn c) = some (sm c)) (by kernel_rfl) c
theorem bn45 (c : UInt8) : (bn c == 45) = decide (c = 45) := u8_all (P := fun c => (bn c == 45) = decide (c = 45)) (by kernel_rfl) c
theorem bn46 (c : UInt8) : (bn c == 46) = decide (c = 46) := u8_all (P := fun c => (bn c == 46) = decide (c = 46)) (by kernel_rfl) c
theorem bn95 (c : UInt8) : (bn c == 95) = decide (c = 95) := u8_all (P := fun c => (bn c == 95) = decide (c = 95)) (by kernel_rfl) c
theorem bn47 (c : UInt8) : (bn c == 47) = decide (c = 47) := u8_all (P := fun c => (bn c == 47) = decide (c = 47)) (by kernel_rfl) c
theorem bn64 (c : UInt8) : (bn c == 64) = decide (c = 64) := u8_all (P := fun c => (bn c == 64) = decide (c = 64)) (by kernel_rfl) c
/-- The rest of a part behind the byte p, run bytes behind the last letter. -/
def partGo : Nat → UInt8 → Str → Bool
  | run, _, [] => run == 0
  | run, p, c :: l => if sm c then partGo 0 c l else if c = 45 then (if run ≠ 0 ∧ p ≠ 45 then false else partGo (run + 1) c l) else if c = 95 ∧ run = 1 ∧ p = 95 then partGo (run + 1) c l else if (c = 95 ∨ c = 46) ∧ run = 0 then partGo (run + 1) c l else false
def partS : Str → Bool
  | [] => false
  | c :: l => sm c && partGo 0 c l
theorem ix_app {α : Type} (pre : List α) (c : α) (l : List α) (n : Nat) (hn : n = pre.length) : ix (pre ++ c :: l) (n : Int) = some c := by subst hn; rw [ix_nat]; simp
theorem getD_app (pre : Str) (c : UInt8) (l : Str) (n : Nat) (hn : n = pre.length) : (pre ++ c :: l).getD n 0 = c := by subst hn; simp
theorem w_nat {n : Nat} (h : n < 9223372036854775808) : IntKind.i64.wrap (n : Int) = n := w_i64 (by omega) (by omega)
theorem w_s {n : Nat} (h : n + 1 < 9223372036854775808) : IntKind.i64.wrap ((n : Int) + 1) = ((n + 1 : Nat) : Int) := by rw [w_i64 (by omega) (by omega)]; rfl
theorem w_p {n : Nat} (h : n < 9223372036854775808) : IntKind.i64.wrap (((n + 1 : Nat) : Int) - 1) = (n : Int) := by rw [w_i64 (by omega) (by omega)]; omega
theorem l21_step (s pre l : Str) (p c : UInt8) (run m : Nat) (hs : s = pre ++ p :: c :: l) (hb : s.length < 4611686018427387904) (hr : run < 4611686018427387904) :
    f_name_part_l21 s (m + 1) run ((pre.length + 1 : Nat) : Int) = if sm c then f_name_part_l21 s m ((0 : Nat) : Int) ((pre.length + 1 + 1 : Nat) : Int) else if c = 45 then (if run ≠ 0 ∧ p ≠ 45 then some (.inr false) else f_name_part_l21 s m ((run + 1 : Nat) : Int) ((pre.length + 1 + 1 : Nat) : Int)) else if c = 95 ∧ run = 1 ∧ p = 95 then f_name_part_l21 s m ((run + 1 : Nat) : Int) ((pre.length + 1 + 1 : Nat) : Int) else if (c = 95 ∨ c = 46) ∧ run = 0 then f_name_part_l21 s m ((run + 1 : Nat) : Int) ((pre.length + 1 + 1 : Nat) : Int) else some (.inr false) := by
  have hl : s.length = pre.length + 2 + l.length := by rw [hs]; simp; omega
  rw [f_name_part_l21.eq_2, if_pos (by simp; omega)]
  have e1 : ix s ((pre.length + 1 : Nat) : Int) = some c := by rw [hs, show pre ++ p :: c :: l = (pre ++ [p]) ++ c :: l by simp]; exact ix_app _ _ _ _ (by simp)
  have e2 : s.getD pre.length 0 = p := by rw [hs]; exact getD_app _ _ _ _ rfl
  rw [e1, Option.bind_some, nsmall_ok, Option.bind_some, w_s (by omega), w_s (by omega), w_p (by omega), Int.toNat_natCast, e2, bn45, bn95, bn46, show (bn p != 45) = !(decide (p = 45)) by rw [bne, bn45], bn95]
  by_cases h1 : sm c = true
  · rw [if_pos h1, if_pos h1]; rfl
  · rw [if_neg h1, if_neg h1]
    by_cases h2 : c = 45
    · subst h2
      rw [if_pos rfl, if_pos (by decide), gd_t _ (fun _ => by omega)]
      by_cases h3 : run ≠ 0 ∧ p ≠ 45
      · rw [if_pos h3, if_pos (by simp [h3]; omega)]
      · rw [if_neg h3, if_neg (by simp at h3 ⊢; intro h; exact h3 (by omega)), if_neg (by simp; omega)]
    · rw [if_neg h2, if_neg (by simpa using h2), gd_t _ (fun _ => by omega)]
      have hz : (((pre.length + 1 : Nat) : Int) == 0) = false := by simp; omega
      by_cases h4 : c = 95 ∧ run = 1 ∧ p = 95
      · rw [if_pos h4]
        obtain ⟨rfl, rfl, rfl⟩ := h4
        simp [hz]; intro h; omega
      · rw [if_neg h4, if_neg (by simp at h4 ⊢; intro a b; exact h4 a (by omega))]
        by_cases h5 : (c = 95 ∨ c = 46) ∧ run = 0
        · rw [if_pos h5]
          obtain ⟨h5, rfl⟩ := h5
          rcases h5 with rfl | rfl
          · simp [hz]; intro h; omega
          · simp [hz]; intro h; omega
        · rw [if_neg h5]
          by_cases h6 : c = 95
          · rw [if_pos (by simpa using h6), if_pos (by simp; simp [h6] at h5; omega)]
          · rw [if_neg (by simpa using h6)]
            by_cases h7 : c = 46
            · rw [if_pos (by simpa using h7), if_pos (by simp; simp [h7] at h5; omega)]
            · rw [if_neg (by simpa using h7)]
theorem l21_ok (s : Str) (hb : s.length < 4611686018427387904) : ∀ (suf pre : Str) (p : UInt8) (run m : Nat), s = pre ++ p :: suf → run + suf.length ≤ s.length → suf.length < m →
    (partGo run p suf = false ∧ f_name_part_l21 s m run ((pre.length + 1 : Nat) : Int) = some (.inr false)) ∨ ∃ r : Nat, f_name_part_l21 s m run ((pre.length + 1 : Nat) : Int) = some (.inl ((r : Int), (s.length : Int))) ∧ partGo run p suf = (r == 0) := by
  intro suf
  induction suf with
  | nil =>
    intro pre p run m hs hr hm
    obtain ⟨m, rfl⟩ : ∃ k, m = k + 1 := ⟨m - 1, by omega⟩
    have hl : s.length = pre.length + 1 := by rw [hs]; simp
    refine .inr ⟨run, ?_, rfl⟩
    rw [f_name_part_l21.eq_2, if_neg (by simp; omega), hl]
  | cons c l ih =>
    intro pre p run m hs hr hm
    obtain ⟨m, rfl⟩ : ∃ k, m = k + 1 := ⟨m - 1, by omega⟩
    have hl : s.length = pre.length + 2 + l.length := by rw [hs]; simp; omega
    have hs2 : s = (pre ++ [p]) ++ c :: l := by rw [hs]; simp
    simp only [List.length_cons] at hr hm
    rw [l21_step s pre l p c run m hs hb (by omega), partGo]
    have key := fun (r : Nat) (h : r + l.length ≤ s.length) => ih (pre ++ [p]) c r m hs2 h (by omega)
    simp only [List.length_append, List.length_singleton] at key
    by_cases h1 : sm c = true
    · rw [if_pos h1, if_pos h1]; exact key 0 (by omega)
    · rw [if_neg h1, if_neg h1]
      by_cases h2 : c = 45
      · rw [if_pos h2, if_pos h2]
        by_cases h3 : run ≠ 0 ∧ p ≠ 45
        · rw [if_pos h3, if_pos h3]; exact .inl ⟨rfl, rfl⟩
        · rw [if_neg h3, if_neg h3]; exact key (run + 1) (by omega)
      · rw [if_neg h2, if_neg h2]
        by_cases h4 : c = 95 ∧ run = 1 ∧ p = 95
        · rw [if_pos h4, if_pos h4]; exact key (run + 1) (by omega)
        · rw [if_neg h4, if_neg h4]
          by_cases h5 : (c = 95 ∨ c = 46) ∧ run = 0
          · rw [if_pos h5, if_pos h5]; exact key (run + 1) (by omega)
          · rw [if_neg h5, if_neg h5]; exact .inl ⟨rfl, rfl⟩
theorem part_first (c : UInt8) (l : Str) (m : Nat) (hb : (c :: l).length < 4611686018427387904) : f_name_part_l21 (c :: l) (m + 1) 0 0 = if sm c then f_name_part_l21 (c :: l) m ((0 : Nat) : Int) ((0 + 1 : Nat) : Int) else some (.inr false) := by
  rw [f_name_part_l21.eq_2, if_pos (by simp), show ix (c :: l) 0 = some c from rfl, Option.bind_some, nsmall_ok, Option.bind_some]
  by_cases h1 : sm c = true
  · rw [if_pos h1, if_pos h1]; rfl
  · rw [if_neg h1, if_neg h1, show (decide ((0 : Int) > 0)) = false from rfl, show ((0 : Int) == 1) = false from rfl, show ((0 : Int) == 0) = true from rfl]
    simp only [Bool.and_false, Bool.false_and, if_true, Bool.false_eq_true, if_false]
    rw [gd_t _ (fun h => by cases h), gd_t _ (fun h => by cases h)]
    split
    · rfl
    · split
      · rfl
      · split <;> rfl
theorem part_ok (s : Str) (hb : s.length < 4611686018427387904) : f_name_part s = some (partS s) := by
  unfold f_name_part
  cases s with
  | nil => rfl
  | cons c l =>
    rw [show ((((c :: l).length : Int) : Int) - 0).toNat + 1 = (l.length + 1) + 1 by simp, part_first c l _ hb, partS]
    by_cases h1 : sm c = true
    · rw [if_pos h1, h1]
      rcases l21_ok (c :: l) hb l [] c 0 (l.length + 1) rfl (by simp) (by omega) with ⟨h2, h3⟩ | ⟨r, h2, h3⟩
      · simp only [List.length_nil] at h3
        rw [h3, Option.bind_some, h2]; rfl
      · simp only [List.length_nil] at h2
        rw [h2, Option.bind_some, h3]
        have : ((r : Int) == 0) = (r == 0) := by rw [Bool.eq_iff_iff]; simp
        simp [this]
    · rw [if_neg h1, Option.bind_some]
      have : sm c = false := by simpa using h1
      rw [this]; rfl
end Go.Proofs.YtedibjgdangfnaaGreatDoor.V.M
end

section
/- Names: the document's parts are the same. -/
namespace Go.Proofs.YtedibjgdangfnaaGreatDoor.V.M
set_option linter.unusedVariables false
set_option linter.unusedSimpArgs false
open Go Go.RowKit
def markS (m : Str) : Bool := m == [46] || m == [95] || m == [95, 95] || (m.all (· == 45) && m != [])
def refGo : Str → Str → Bool
  | _, [] => true
  | now, c :: l => if sm c then (if now ≠ [] ∧ markS now = false then false else refGo [] l) else refGo (now ++ [c]) l
/-- Whether the last byte of a text, that goes on behind a mark, is a letter. -/
def ends : Str → Str → Bool
  | now, [] => now == []
  | now, c :: l => ends (if sm c then [] else now ++ [c]) l
theorem ends_last : ∀ (l now : Str) (h : l ≠ []), ends now l = sm (l.getLast h)
  | [c], now, _ => by
    simp only [ends, List.getLast_singleton]
    by_cases h : sm c = true
    · rw [if_pos h, h]; rfl
    · rw [if_neg h]
      have : sm c = false := by simpa using h
      rw [this]; simp
  | c :: d :: l, now, _ => by
    rw [ends, ends_last (d :: l) _ (by simp)]; rfl
def V (now l : Str) : Bool := refGo now l && ends now l
theorem V_cons_s {now l : Str} {c : UInt8} (h : sm c = true) (hm : now = [] ∨ markS now = true) : V now (c :: l) = V [] l := by
  unfold V
  rw [refGo, if_pos h, if_neg (by rintro ⟨a, b⟩; rcases hm with hm | hm; exact a hm; rw [hm] at b; cases b), ends, if_pos h]
theorem V_cons_m {now l : Str} {c : UInt8} (h : ¬ sm c = true) : V now (c :: l) = V (now ++ [c]) l := by
  unfold V
  rw [refGo, if_neg h, ends, if_neg h]
theorem V_bad : ∀ (l now : Str), now ≠ [] → (∀ e, markS (now ++ e) = false) → V now l = false
  | [], now, h, _ => by simp [V, ends, h]
  | c :: l, now, h, hb => by
    by_cases h1 : sm c = true
    · unfold V; rw [refGo, if_pos h1, if_pos ⟨h, by simpa using hb []⟩]; rfl
    · rw [V_cons_m h1]
      exact V_bad l (now ++ [c]) (by simp) (fun e => by rw [List.append_assoc]; exact hb _)
def good (now : Str) : Prop := now = [] ∨ now = [46] ∨ now = [95] ∨ now = [95, 95] ∨ ∃ k, now = List.replicate (k + 1) 45
theorem sm_marks : sm 45 = false ∧ sm 46 = false ∧ sm 95 = false := by decide
theorem all45 (k : Nat) : (List.replicate k (45 : UInt8)).all (· == 45) = true := by simp
theorem rep_ne (k : Nat) (c : UInt8) (hc : c ≠ 45) (e : Str) : markS (List.replicate (k + 1) 45 ++ [c] ++ e) = false := by
  unfold markS
  rw [List.replicate_succ]
  simp [hc]
theorem part_eq : ∀ (l now : Str) (p : UInt8), good now → (∀ q, now.getLast? = some q → p = q) → (now = [] → sm p = true) → partGo now.length p l = V now l
  | [], now, p, _, _, _ => by
    rw [partGo, V, refGo, ends]; cases now <;> simp
  | c :: l, now, p, hg, hp, hs => by
    rw [partGo]
    by_cases h1 : sm c = true
    · rw [if_pos h1, V_cons_s h1]
      · exact part_eq l [] c (.inl rfl) (by simp) (fun _ => h1)
      · rcases hg with rfl | rfl | rfl | rfl | ⟨k, rfl⟩
        · exact .inl rfl
        · exact .inr rfl
        · exact .inr rfl
        · exact .inr rfl
        · right; unfold markS; rw [all45]; simp
    · rw [if_neg h1, V_cons_m h1]
      have go := fun (h : good (now ++ [c])) => part_eq l (now ++ [c]) c h (by simp) (by simp)
      simp only [List.length_append, List.length_singleton] at go
      have bad := fun (h : ∀ e, markS (now ++ [c] ++ e) = false) => (V_bad l (now ++ [c]) (by simp) h).symm
      rcases hg with rfl | rfl | rfl | rfl | ⟨k, rfl⟩
      · by_cases h2 : c = 45
        · rw [if_pos h2, if_neg (by simp)]; exact go (.inr (.inr (.inr (.inr ⟨0, by simp [h2]⟩))))
        · rw [if_neg h2, if_neg (by simp)]
          by_cases h3 : c = 95
          · rw [if_pos ⟨.inl h3, rfl⟩]; exact go (.inr (.inr (.inl (by simp [h3]))))
          · by_cases h4 : c = 46
            · rw [if_pos ⟨.inr h4, rfl⟩]; exact go (.inr (.inl (by simp [h4])))
            · rw [if_neg (by simp [h3, h4])]; exact bad (fun e => by simp [markS, h2, h3, h4])
      · obtain rfl := hp 46 rfl
        by_cases h2 : c = 45
        · rw [if_pos h2, if_pos (by decide)]; exact bad (fun e => by simp [markS])
        · rw [if_neg h2, if_neg (by simp), if_neg (by simp)]; exact bad (fun e => by simp [markS])
      · obtain rfl := hp 95 rfl
        by_cases h2 : c = 45
        · rw [if_pos h2, if_pos (by decide)]; exact bad (fun e => by simp [markS, h2])
        · rw [if_neg h2]
          by_cases h3 : c = 95
          · rw [if_pos ⟨h3, rfl, rfl⟩]; exact go (.inr (.inr (.inr (.inl (by simp [h3])))))
          · rw [if_neg (by simp [h3]), if_neg (by simp)]; exact bad (fun e => by simp [markS, h3])
      · obtain rfl := hp 95 rfl
        by_cases h2 : c = 45
        · rw [if_pos h2, if_pos (by decide)]; exact bad (fun e => by simp [markS])
        · rw [if_neg h2, if_neg (by simp), if_neg (by simp)]; exact bad (fun e => by simp [markS])
      · obtain rfl : p = 45 := hp 45 (by rw [List.getLast?_replicate]; simp)
        by_cases h2 : c = 45
        · rw [if_pos h2, if_neg (by simp)]
          exact go (.inr (.inr (.inr (.inr ⟨k + 1, by rw [h2]; exact (List.replicate_succ' ..).symm⟩))))
        · rw [if_neg h2, if_neg (by simp), if_neg (by simp)]; exact bad (fun e => rep_ne k c h2 e)
end Go.Proofs.YtedibjgdangfnaaGreatDoor.V.M
end

section
/- Names: repositories and tags, by both texts. -/
namespace Go.Proofs.YtedibjgdangfnaaGreatDoor.V.M
set_option linter.unusedVariables false
set_option linter.unusedSimpArgs false
open Go Go.RowKit
theorem splitOnB_len (c : UInt8) : ∀ (s : Str), (splitOnB c s).length ≤ s.length + 1 ∧ ∀ x ∈ splitOnB c s, x.length ≤ s.length
  | [] => ⟨by simp [splitOnB], by simp [splitOnB]⟩
  | x :: l => by
    obtain ⟨h1, h2⟩ := splitOnB_len c l
    unfold splitOnB
    by_cases h : x = c
    · rw [if_pos h]
      refine ⟨by simp; omega, fun y hy => ?_⟩
      rcases List.mem_cons.1 hy with rfl | hy
      · simp
      · have := h2 y hy; simp; omega
    · rw [if_neg h]
      split
      · rename_i y t e
        rw [e] at h1 h2
        simp only [List.length_cons] at h1
        refine ⟨by simp; omega, fun z hz => ?_⟩
        rcases List.mem_cons.1 hz with rfl | hz
        · have := h2 y (List.mem_cons_self ..); simp; omega
        · have := h2 z (List.mem_cons_of_mem _ hz); simp; omega
      · simp
/-- The pieces that come when now stands ahead of the first one. -/
def glue (now : Str) : List Str → List Str
  | [] => [now]
  | h :: t => (now ++ h) :: t
theorem glue_nil (c : UInt8) (s : Str) : glue [] (splitOnB c s) = splitOnB c s := by
  cases h : splitOnB c s with
  | nil => exact absurd h (splitOnB_ne c s)
  | cons x l => rfl
theorem glue_cons (c x : UInt8) (now l : Str) (h : x ≠ c) : glue now (splitOnB c (x :: l)) = glue (now ++ [x]) (splitOnB c l) := by
  rw [splitOnB, if_neg h]
  cases e : splitOnB c l with
  | nil => exact absurd e (splitOnB_ne c l)
  | cons y t => simp [glue]
theorem glue_hit (c : UInt8) (now l : Str) : glue now (splitOnB c (c :: l)) = now :: splitOnB c l := by
  rw [splitOnB, if_pos rfl]; simp [glue]
def repoS (s : Str) : Bool := decide (s.length ≤ 128) && (splitOnB 47 s).all partS
theorem allO_ok {α : Type} {f : α → Option Bool} {g : α → Bool} : ∀ (l : List α), (∀ x ∈ l, f x = some (g x)) → allO f l = some (l.all g)
  | [], _ => rfl
  | x :: l, h => by
    rw [allO, h x (List.mem_cons_self ..), Option.bind_some, List.all_cons]
    cases g x with
    | true => rw [if_pos rfl, allO_ok l (fun y hy => h y (List.mem_cons_of_mem _ hy))]; rfl
    | false => rfl
theorem repo_ok (s : Str) (hb : s.length < 1000000000000) : f_name_Repo s = some (repoS s) := by
  unfold f_name_Repo repoOf repoS
  by_cases h : 128 < s.length
  · rw [if_pos h]
    have : decide (s.length ≤ 128) = false := by simp; omega
    rw [this]; rfl
  · rw [if_neg h, allO_ok (g := partS) _ (fun x hx => part_ok x (by have := (splitOnB_len 47 s).2 x hx; omega))]
    have : decide (s.length ≤ 128) = true := by simp; omega
    rw [this]; rfl
/-- A byte of a tag; at its begin. -/
def tg (c : UInt8) : Bool := sm c || (decide (65 ≤ c.toNat) && decide (c.toNat ≤ 90)) || decide (c = 95)
def tgm (c : UInt8) : Bool := decide (c = 46) || decide (c = 45)
def tagS : Str → Bool
  | [] => false
  | c :: l => decide ((c :: l).length ≤ 128) && (tg c && l.all fun c => tg c || tgm c)
theorem tg_ok (c : UInt8) : ((sm c || ((decide ((bn c) ≥ 65)) && (decide ((bn c) ≤ 90)))) || ((bn c) == 95)) = tg c := u8_all (P := fun c => ((sm c || ((decide ((bn c) ≥ 65)) && (decide ((bn c) ≤ 90)))) || ((bn c) == 95)) = tg c) (by kernel_rfl) c
theorem tgm_ok (c : UInt8) : (((bn c) == 46) || ((bn c) == 45)) = tgm c := u8_all (P := fun c => (((bn c) == 46) || ((bn c) == 45)) = tgm c) (by kernel_rfl) c
theorem tag8_ok (s : Str) (hb : s.length < 4611686018427387904) : ∀ (suf pre : Str) (m : Nat), s = pre ++ suf → 0 < pre.length → suf.length < m → f_name_Tag_l8 s m (pre.length : Int) = some (if suf.all (fun c => tg c || tgm c) then .inl (s.length : Int) else .inr false) := by
  intro suf
  induction suf with
  | nil =>
    intro pre m hs h0 hm
    obtain ⟨m, rfl⟩ : ∃ k, m = k + 1 := ⟨m - 1, by omega⟩
    have hl : s.length = pre.length := by rw [hs]; simp
    rw [f_name_Tag_l8.eq_2, if_neg (by simp; omega), hl]; rfl
  | cons c l ih =>
    intro pre m hs h0 hm
    obtain ⟨m, rfl⟩ : ∃ k, m = k + 1 := ⟨m - 1, by omega⟩
    have hl : s.length = pre.length + 1 + l.length := by rw [hs]; simp; omega
    simp only [List.length_cons] at hm
    rw [f_name_Tag_l8.eq_2, if_pos (by simp; omega), show ix s (pre.length : Int) = some c by rw [hs]; exact ix_app _ _ _ _ rfl, Option.bind_some, nsmall_ok, Option.bind_some, w_s (by omega), tg_ok, tgm_ok, show decide ((pre.length : Int) > 0) = true by simp; omega, Bool.true_and, List.all_cons]
    by_cases h : (tg c || tgm c) = true
    · rw [if_pos h]
      have := ih (pre ++ [c]) m (by rw [hs]; simp) (by simp) (by omega)
      simp only [List.length_append, List.length_singleton] at this
      rw [this, h]; rfl
    · rw [if_neg h]
      have : (tg c || tgm c) = false := by simpa using h
      rw [this]; rfl
theorem tag_ok (s : Str) (hb : s.length < 4611686018427387904) : f_name_Tag s = some (tagS s) := by
  unfold f_name_Tag
  cases s with
  | nil => rfl
  | cons c l =>
    rw [show ((((c :: l).length : Int) : Int) - 0).toNat + 1 = (l.length + 1) + 1 by simp, f_name_Tag_l8.eq_2, if_pos (by simp), show ix (c :: l) 0 = some c from rfl, Option.bind_some, nsmall_ok, Option.bind_some, tg_ok, tgm_ok, show decide ((0 : Int) > 0) = false from rfl, Bool.false_and, Bool.or_false, show IntKind.i64.wrap ((0 : Int) + 1) = (([c] : Str).length : Int) from rfl, tag8_ok (c :: l) hb l [c] _ rfl (by simp) (by omega), tagS]
    have e : decide (((c :: l).length : Int) ≤ 128) = decide ((c :: l).length ≤ 128) := by rw [decide_eq_decide]; omega
    by_cases h1 : tg c = true
    · rw [if_pos h1, Option.bind_some, h1, e]
      by_cases h2 : l.all (fun c => tg c || tgm c) = true
      · rw [if_pos h2, h2]; simp
      · rw [if_neg h2]
        have : l.all (fun c => tg c || tgm c) = false := by simpa using h2
        rw [this]; simp
    · rw [if_neg h1, Option.bind_some]
      have : tg c = false := by simpa using h1
      rw [this]; simp
theorem rtg_ok (c : UInt8) : (((((!sm c) && ((decide ((bn c) < 65)) || (decide ((bn c) > 90)))) && ((bn c) != 95)) && ((bn c) != 46)) && ((bn c) != 45)) = !(tg c || tgm c) := u8_all (P := fun c => (((((!sm c) && ((decide ((bn c) < 65)) || (decide ((bn c) > 90)))) && ((bn c) != 95)) && ((bn c) != 46)) && ((bn c) != 45)) = !(tg c || tgm c)) (by kernel_rfl) c
theorem tg_first (c : UInt8) : (((bn c) != 46) && ((bn c) != 45) && (tg c || tgm c)) = tg c := u8_all (P := fun c => (((bn c) != 46) && ((bn c) != 45) && (tg c || tgm c)) = tg c) (by kernel_rfl) c
end Go.Proofs.YtedibjgdangfnaaGreatDoor.V.M
end

section
/- Rules: what each function of the layer comes to. -/
namespace Go.Proofs.YtedibjgdangfnaaGreatDoor.V.M
set_option linter.unusedVariables false
set_option linter.unusedSimpArgs false
open Go Go.RowKit
def RW (r : api_Rule) : Prop := (r.Repos.length ≤ 10000 ∧ ∀ x ∈ r.Repos, x.length ≤ 10000) ∧ (r.Tags.length ≤ 10000 ∧ ∀ x ∈ r.Tags, x.length ≤ 10000) ∧ r.Prefix.length ≤ 10000 ∧ r.Cron.length ≤ 210
def pc (s : Str) : api_Cron × Int := match f_cron_Parse s with | some r => r | none => (⟨0, 0, 0, 0, 0, false, false⟩, 6)
theorem pc_ok (s : Str) (h : s.length ≤ 210) : f_cron_Parse s = some (pc s) ∧ ((pc s).2 = 0 ∨ (pc s).2 = 6) ∧ CW (pc s).1 := by
  obtain ⟨c, ok, e, hc⟩ := Cr.parse_one s h
  unfold pc
  rw [e]
  refine ⟨rfl, ?_, hc⟩
  cases ok <;> simp
def patS (l : List Str) : Bool := decide (l.length ≤ 8) && l.all fun p => (piecesS p).isSome
theorem pat_ok (l : List Str) (h : l.length ≤ 10000 ∧ ∀ x ∈ l, x.length ≤ 10000) : f_rule_patterns l = some (patS l) := by
  unfold f_rule_patterns patS
  rw [containsGS l f_rule_patterns_1 (fun p => !(piecesS p).isSome) (fun x hx => by unfold f_rule_patterns_1; rw [Right_ok _ (by have := h.2 x hx; omega)]; rfl) (by omega)]
  have e : (decide ((l.length : Int) ≤ 8)) = decide (l.length ≤ 8) := by rw [decide_eq_decide]; omega
  rw [e]
  cases decide (l.length ≤ 8) with
  | false => rfl
  | true =>
    show Option.bind (some (l.any fun p => !(piecesS p).isSome)) _ = _
    rw [Option.bind_some]
    congr 1
    rw [Bool.true_and, Bool.true_and, List.not_any_eq_all_not]
    congr 1
    funext p
    cases (piecesS p).isSome <;> rfl
def idS (r : api_Rule) : Bool := ((decide (r.Id ≥ 1)) && (decide (r.Id ≤ 1048576))) && ((r.From == 0) || (r.From == 1))
def rightS (r : api_Rule) : Bool := (((idS r && patS r.Repos) && patS r.Tags) && ((r.Prefix == ([] : Str)) || repoS r.Prefix)) && ((r.Cron == ([] : Str)) || ((pc r.Cron).2 == 0))
theorem rright_ok (r : api_Rule) (h : RW r) : f_rule_Right r = some (rightS r) := by
  obtain ⟨h1, h2, h3, h4⟩ := h
  unfold f_rule_Right rightS
  rw [(pc_ok _ h4).1, Option.bind_some, pat_ok _ h1, pat_ok _ h2, repo_ok _ (by omega)]
  show Option.bind (gx (idS r) (some (patS r.Repos)) default) _ = _
  generalize hid : idS r = a
  unfold idS at hid
  simp only [hid]
  generalize patS r.Repos = b
  generalize patS r.Tags = c
  generalize repoS r.Prefix = d
  generalize (r.Prefix == ([] : Str)) = e
  cases a <;> cases b <;> cases c <;> cases d <;> cases e <;> rfl
def toT (r : api_Rule) (repo : Str) : Str := if r.Prefix = [] then repo else r.Prefix ++ 47 :: repo
def toS (r : api_Rule) (repo : Str) : Str × Int := if rightS r = true then (if repoS repo = true ∧ repoS (toT r repo) = true then (toT r repo, 0) else ([], 5)) else ([], 18)
theorem to_ok (r : api_Rule) (h : RW r) (repo : Str) (hr : repo.length ≤ 10000) : f_rule_To r repo = some (toS r repo) := by
  have hp := h.2.2.1
  unfold f_rule_To
  have e : (if (!(r.Prefix == ([] : Str))) = true then
      gd (r.Prefix.length + 1 ≤ 9223372036854775807) <|
      gd ((r.Prefix ++ ([47] : Str)).length + repo.length ≤ 9223372036854775807) <|
      some ((r.Prefix ++ ([47] : Str)) ++ repo)
    else
      some repo) = some (toT r repo) := by
    unfold toT
    by_cases h0 : r.Prefix = []
    · rw [if_neg (by simpa using h0), if_pos h0]
    · rw [if_pos (by simpa using h0), if_neg h0, gd_t _ (by omega), gd_t _ (by simp; omega)]
      simp
  have hl : (toT r repo).length ≤ 30000 := by
    unfold toT; split
    · omega
    · simp; omega
  rw [show (Option.bind _ _ : Option (Str × Int)) = Option.bind (some (toT r repo)) _ from congrArg (fun o => Option.bind o _) e, Option.bind_some, rright_ok r h, Option.bind_some]
  unfold toS
  cases hR : rightS r with
  | false => rfl
  | true =>
    rw [if_neg (by decide), if_pos rfl, repo_ok _ (by omega), Option.bind_some, repo_ok _ (by omega)]
    cases h1 : repoS repo <;> cases h2 : repoS (toT r repo) <;> simp [gx]
def pickS (r : api_Rule) (repo tag : Str) : Bool := (r.On && rightS r) && (repoS repo && tagS tag) && ((someR repo r.Repos).1 && (someR tag r.Tags).1)
theorem picks_ok (r : api_Rule) (h : RW r) (repo tag : Str) (hr : repo.length ≤ 10000) (ht : tag.length ≤ 10000) : f_rule_Picks r repo tag = some (pickS r repo tag) := by
  obtain ⟨h1, h2, h3, h4⟩ := id h
  unfold f_rule_Picks f_rule_test_on f_rule_test_named f_rule_test_picked pickS
  dsimp only
  rw [rright_ok r h, repo_ok _ (by omega), tag_ok _ (by omega), some_ok repo _ (by omega) (fun p hp => by have := h1.2 p hp; omega), some_ok tag _ (by omega) (fun p hp => by have := h2.2 p hp; omega)]
  generalize rightS r = a
  generalize r.On = b
  generalize repoS repo = c
  generalize tagS tag = d
  generalize someR repo r.Repos = x
  generalize someR tag r.Tags = y
  cases a <;> cases b <;> cases c <;> cases d <;> simp [gx]
def firesX (c : api_Cron) (t : Int) : Bool := if 0 ≤ t ∧ t ≤ 1099511627776 then firesT c t else false
theorem fires_ok (c : api_Cron) (h : CW c) (t : Int) : f_cron_Fires c t = some (firesX c t) := by
  unfold firesX
  by_cases h1 : 0 ≤ t ∧ t ≤ 1099511627776
  · rw [if_pos h1, Fires_ok c h t h1.1 h1.2]
  · rw [if_neg h1, Fires_bad c t (by omega)]
def dueS (r : api_Rule) (t : Int) : Bool := ((rightS r && r.On) && ((pc r.Cron).2 == 0)) && firesX (pc r.Cron).1 t
theorem due_ok (r : api_Rule) (h : RW r) (t : Int) : f_rule_Due r t = some (dueS r t) := by
  unfold f_rule_Due dueS
  obtain ⟨e, _, hc⟩ := pc_ok _ h.2.2.2
  rw [e, Option.bind_some, rright_ok r h, Option.bind_some, fires_ok _ hc]
  cases ((rightS r && r.On) && ((pc r.Cron).2 == 0)) <;> rfl
def cutR (l : List Str) : List Str := (l.take 10).map fun x => x.take 130
def fewS (r : api_Rule) : api_Rule := ⟨r.Id, r.From, cutR r.Repos, cutR r.Tags, r.Prefix.take 130, r.Override, r.Delete, r.On, r.Cron.take 205⟩
theorem RW_few (r : api_Rule) : RW (fewS r) := by
  unfold fewS RW cutR
  refine ⟨⟨by simp; omega, fun x hx => ?_⟩, ⟨by simp; omega, fun x hx => ?_⟩, by simp; omega, by simp; omega⟩ <;>
  · obtain ⟨y, _, rfl⟩ := List.mem_map.1 hx
    simp; omega
theorem min_cut {α : Type} (l : List α) (n : Nat) : cut l 0 (if (n : Int) < (l.length : Int) then (n : Int) else (l.length : Int)) = l.take n ∧ 0 ≤ (if (n : Int) < (l.length : Int) then (n : Int) else (l.length : Int)) ∧ (if (n : Int) < (l.length : Int) then (n : Int) else (l.length : Int)) ≤ (l.length : Int) := by
  split
  · exact ⟨cut_zero l n, by omega, by omega⟩
  · refine ⟨?_, by omega, by omega⟩
    rw [cut_zero, List.take_length, List.take_of_length_le (by omega)]
theorem set_mid {α : Type} (a : List α) (x y : α) (b : List α) : (a ++ x :: b).set a.length y = a ++ y :: b := by simp
theorem few7_ok (r : api_Rule) : ∀ (k i m : Nat) (v : List Str), i + k = (r.Repos.take 10).length → k < m → v = ((r.Repos.take 10).take i).map (fun x => x.take 130) ++ (r.Repos.take 10).drop i →
    ∃ z, f_law14_few_l7 r m (i : Int) v = some (z, cutR r.Repos)
  | k, i, 0, v, h0, h1, h2 => by omega
  | 0, i, m + 1, v, h0, h1, h2 => by
    have e := (min_cut r.Repos 10).1
    rw [f_law14_few_l7, List.nil_append, show cut r.Repos 0 (if (10 : Int) < (r.Repos.length : Int) then (10 : Int) else (r.Repos.length : Int)) = r.Repos.take 10 from e, if_neg (by simp; simp at h0; omega)]
    refine ⟨(i : Int), ?_⟩
    rw [h2, List.take_of_length_le (by omega), List.drop_eq_nil_of_le (by omega), List.append_nil]
    rfl
  | k + 1, i, m + 1, v, h0, h1, h2 => by
    have e := (min_cut r.Repos 10).1
    have hlt : i < (r.Repos.take 10).length := by omega
    have hten : (r.Repos.take 10).length ≤ 10 := by simp; omega
    rw [f_law14_few_l7, List.nil_append, show cut r.Repos 0 (if (10 : Int) < (r.Repos.length : Int) then (10 : Int) else (r.Repos.length : Int)) = r.Repos.take 10 from e, if_pos (by simp; simp at hlt; omega)]
    generalize hL : r.Repos.take 10 = L at *
    have hd : L.drop i = L[i] :: L.drop (i + 1) := List.drop_eq_getElem_cons hlt
    have hlen : ((L.take i).map fun x => x.take 130).length = i := by simp; omega
    have e1 : ix v (i : Int) = some L[i] := by
      rw [ix_nat, h2, List.getElem?_append_right (by omega), hlen, Nat.sub_self, hd]; rfl
    obtain ⟨c1, c2, c3⟩ := min_cut L[i] 130
    rw [e1, Option.bind_some, gd_t _ ⟨c2, c3⟩, Option.bind_some, w_s (by omega)]
    rw [show cut L[i] 0 (if (130 : Int) < (L[i].length : Int) then (130 : Int) else (L[i].length : Int)) = L[i].take 130 from c1]
    have := few7_ok r k (i + 1) m (v.set i (L[i].take 130)) (by rw [hL]; omega) (by omega) (by
      rw [hL, h2, hd, List.take_succ_eq_append_getElem hlt, List.map_append]
      have := set_mid ((L.take i).map fun x => x.take 130) L[i] (L[i].take 130) (L.drop (i + 1))
      rw [hlen] at this
      rw [this]; simp)
    exact this
theorem few13_ok (r : api_Rule) (s : Int × List Str) : ∀ (k i m : Nat) (v : List Str), i + k = (r.Tags.take 10).length → k < m → v = ((r.Tags.take 10).take i).map (fun x => x.take 130) ++ (r.Tags.take 10).drop i →
    ∃ z, f_law14_few_l13 r s m (i : Int) v = some (z, cutR r.Tags)
  | k, i, 0, v, h0, h1, h2 => by omega
  | 0, i, m + 1, v, h0, h1, h2 => by
    have e := (min_cut r.Tags 10).1
    rw [f_law14_few_l13, List.nil_append, show cut r.Tags 0 (if (10 : Int) < (r.Tags.length : Int) then (10 : Int) else (r.Tags.length : Int)) = r.Tags.take 10 from e, if_neg (by simp; simp at h0; omega)]
    refine ⟨(i : Int), ?_⟩
    rw [h2, List.take_of_length_le (by omega), List.drop_eq_nil_of_le (by omega), List.append_nil]
    rfl
  | k + 1, i, m + 1, v, h0, h1, h2 => by
    have e := (min_cut r.Tags 10).1
    have hlt : i < (r.Tags.take 10).length := by omega
    have hten : (r.Tags.take 10).length ≤ 10 := by simp; omega
    rw [f_law14_few_l13, List.nil_append, show cut r.Tags 0 (if (10 : Int) < (r.Tags.length : Int) then (10 : Int) else (r.Tags.length : Int)) = r.Tags.take 10 from e, if_pos (by simp; simp at hlt; omega)]
    generalize hL : r.Tags.take 10 = L at *
    have hd : L.drop i = L[i] :: L.drop (i + 1) := List.drop_eq_getElem_cons hlt
    have hlen : ((L.take i).map fun x => x.take 130).length = i := by simp; omega
    have e1 : ix v (i : Int) = some L[i] := by
      rw [ix_nat, h2, List.getElem?_append_right (by omega), hlen, Nat.sub_self, hd]; rfl
    obtain ⟨c1, c2, c3⟩ := min_cut L[i] 130
    rw [e1, Option.bind_some, gd_t _ ⟨c2, c3⟩, Option.bind_some, w_s (by omega)]
    rw [show cut L[i] 0 (if (130 : Int) < (L[i].length : Int) then (130 : Int) else (L[i].length : Int)) = L[i].take 130 from c1]
    have := few13_ok r s k (i + 1) m (v.set i (L[i].take 130)) (by rw [hL]; omega) (by omega) (by
      rw [hL, h2, hd, List.take_succ_eq_append_getElem hlt, List.map_append]
      have := set_mid ((L.take i).map fun x => x.take 130) L[i] (L[i].take 130) (L.drop (i + 1))
      rw [hlen] at this
      rw [this]; simp)
    exact this
theorem few_ok (r : api_Rule) : f_law14_few r = some (fewS r) := by
  obtain ⟨a1, a2, a3⟩ := min_cut r.Repos 10
  obtain ⟨b1, b2, b3⟩ := min_cut r.Tags 10
  obtain ⟨c1, c2, c3⟩ := min_cut r.Prefix 130
  obtain ⟨d1, d2, d3⟩ := min_cut r.Cron 205
  have a1' : cut r.Repos 0 (if (10 : Int) < (r.Repos.length : Int) then (10 : Int) else (r.Repos.length : Int)) = r.Repos.take 10 := a1
  have b1' : cut r.Tags 0 (if (10 : Int) < (r.Tags.length : Int) then (10 : Int) else (r.Tags.length : Int)) = r.Tags.take 10 := b1
  have c1' : cut r.Prefix 0 (if (130 : Int) < (r.Prefix.length : Int) then (130 : Int) else (r.Prefix.length : Int)) = r.Prefix.take 130 := c1
  have d1' : cut r.Cron 0 (if (205 : Int) < (r.Cron.length : Int) then (205 : Int) else (r.Cron.length : Int)) = r.Cron.take 205 := d1
  unfold f_law14_few
  rw [a1', b1', c1', d1', gd_t _ ⟨a2, a3⟩, gd_t _ (by simp; omega), gd_t _ ⟨b2, b3⟩, gd_t _ (by simp; omega), List.nil_append, List.nil_append]
  obtain ⟨z, e1⟩ := few7_ok r (r.Repos.take 10).length 0 (((((r.Repos.take 10).length : Int) : Int) - 0).toNat + 1) (r.Repos.take 10) (by omega) (by omega) (by simp)
  rw [show f_law14_few_l7 r _ 0 (r.Repos.take 10) = _ from e1, Option.bind_some]
  obtain ⟨z2, e2⟩ := few13_ok r (z, cutR r.Repos) (r.Tags.take 10).length 0 (((((r.Tags.take 10).length : Int) : Int) - 0).toNat + 1) (r.Tags.take 10) (by omega) (by omega) (by simp)
  rw [show f_law14_few_l13 r (z, cutR r.Repos) _ 0 (r.Tags.take 10) = _ from e2, Option.bind_some, gd_t _ ⟨c2, c3⟩, gd_t _ ⟨d2, d3⟩]
  rfl
theorem alive14 : f_law14_alive = some true := by kernel_rfl
end Go.Proofs.YtedibjgdangfnaaGreatDoor.V.M
end

section
/- RuleSides, RuleNames. -/
namespace Go.Proofs.YtedibjgdangfnaaGreatDoor.V.M
set_option linter.unusedVariables false
set_option linter.unusedSimpArgs false
open Go Go.RowKit
theorem RW_sides {r : api_Rule} (h : RW r) (a b : Int) (c d e : Bool) : RW ⟨a, b, r.Repos, r.Tags, r.Prefix, c, d, e, r.Cron⟩ := h
theorem RW_none {r : api_Rule} (h : RW r) (a b : Int) (c d e : Bool) : RW ⟨a, b, [], [], r.Prefix, c, d, e, []⟩ := ⟨⟨by simp, by simp⟩, ⟨by simp, by simp⟩, h.2.2.1, by simp⟩
theorem RW_noneC {r : api_Rule} (h : RW r) (a b : Int) (c d e : Bool) : RW ⟨a, b, [], [], r.Prefix, c, d, e, r.Cron⟩ := ⟨⟨by simp, by simp⟩, ⟨by simp, by simp⟩, h.2.2.1, h.2.2.2⟩
theorem toT_inj {r : api_Rule} {a b : Str} (h : toT r a = toT r b) : a = b := by
  unfold toT at h
  split at h
  · exact h
  · have := List.append_cancel_left h
    exact (List.cons.inj this).2
theorem ruleNames_true (r : api_Rule) (a b tag : Str) : f_law14_RuleNames r a b tag = some true := by
  unfold f_law14_RuleNames
  have hr := RW_few r
  obtain ⟨a1, a2, a3⟩ := min_cut a 130
  obtain ⟨b1, b2, b3⟩ := min_cut b 130
  obtain ⟨c1, c2, c3⟩ := min_cut tag 130
  have a1' : cut a 0 (if (130 : Int) < (a.length : Int) then (130 : Int) else (a.length : Int)) = a.take 130 := a1
  have b1' : cut b 0 (if (130 : Int) < (b.length : Int) then (130 : Int) else (b.length : Int)) = b.take 130 := b1
  have c1' : cut tag 0 (if (130 : Int) < (tag.length : Int) then (130 : Int) else (tag.length : Int)) = tag.take 130 := c1
  have la : (a.take 130).length ≤ 130 := by simp; omega
  have lb : (b.take 130).length ≤ 130 := by simp; omega
  have lc : (tag.take 130).length ≤ 130 := by simp; omega
  rw [few_ok, Option.bind_some, gd_t _ ⟨a2, a3⟩, gd_t _ ⟨b2, b3⟩, gd_t _ ⟨c2, c3⟩, a1', b1', c1']
  generalize fewS r = t at hr ⊢
  generalize a.take 130 = A at la ⊢
  generalize b.take 130 = B at lb ⊢
  generalize tag.take 130 = C at lc ⊢
  have hx := RW_noneC hr t.Id t.From t.Override t.Delete true
  have hy := RW_noneC hr t.Id t.From t.Override t.Delete false
  have hl2 : (toT t A).length ≤ 30000 := by
    have hp := hr.2.2.1
    unfold toT; split
    · omega
    · simp; omega
  have hl : (toS t A).1.length < 1000000000000 := by
    unfold toS; split
    · split
      · show (toT t A).length < _; omega
      · simp
    · simp
  rw [to_ok t hr A (by omega), Option.bind_some, to_ok t hr B (by omega), Option.bind_some, repo_ok _ hl, alive14, rright_ok _ hx, picks_ok _ hx A C (by omega) (by omega), repo_ok A (by omega), tag_ok C (by omega), picks_ok _ hy A C (by omega) (by omega), due_ok _ hy]
  -- names on the other side
  have g : ((((toS t A).2 == 0) && ((toS t B).2 == 0)) && ((!(((toS t A).1 == (toS t B).1) == (A == B))) || (!(cond ((((toS t A).2 == 0) && ((toS t B).2 == 0)) && (!(!(((toS t A).1 == (toS t B).1) == (A == B))))) (repoS (toS t A).1) default)))) = false := by
    cases h1 : (((toS t A).2 == 0) && ((toS t B).2 == 0)) with
    | false => rfl
    | true =>
      rw [Bool.and_eq_true, beq_iff_eq, beq_iff_eq] at h1
      have kA : (toS t A).1 = toT t A ∧ repoS (toT t A) = true := by
        have := h1.1
        unfold toS at this ⊢
        split at this
        · rename_i hR
          rw [if_pos hR]
          split at this
          · rename_i hq
            rw [if_pos hq]; exact ⟨rfl, hq.2⟩
          · cases this
        · cases this
      have kB : (toS t B).1 = toT t B := by
        have := h1.2
        unfold toS at this ⊢
        split at this
        · rename_i hR
          rw [if_pos hR]
          split at this
          · rename_i hq
            rw [if_pos hq]
          · cases this
        · cases this
      rw [kA.1, kB, kA.2]
      have he : (toT t A == toT t B) = (A == B) := by
        by_cases hab : A = B
        · subst hab; simp
        · have : toT t A ≠ toT t B := fun q => hab (toT_inj q)
          rw [beq_eq_false_iff_ne.2 this, beq_eq_false_iff_ne.2 hab]
      rw [he]
      simp
  have hpx : rightS ⟨t.Id, t.From, [], [], t.Prefix, t.Override, t.Delete, true, t.Cron⟩ = true → pickS ⟨t.Id, t.From, [], [], t.Prefix, t.Override, t.Delete, true, t.Cron⟩ A C = (repoS A && tagS C) := by
    intro hR
    unfold pickS someR
    rw [hR, if_neg (by simp; omega), if_neg (by simp; omega)]
    simp
  have hpy : pickS ⟨t.Id, t.From, [], [], t.Prefix, t.Override, t.Delete, false, t.Cron⟩ A C = false := rfl
  have hdy : dueS ⟨t.Id, t.From, [], [], t.Prefix, t.Override, t.Delete, false, t.Cron⟩ 0 = false := by unfold dueS; simp
  rw [hpy, hdy]
  rw [gx_some, Option.bind_some]
  rw [g]
  simp only [Bool.not_false, gx_some, Option.bind_some, cond_true, Bool.not_true, Bool.or_false, Bool.false_eq_true, if_false]
  cases hR : rightS ⟨t.Id, t.From, [], [], t.Prefix, t.Override, t.Delete, true, t.Cron⟩ with
  | false => simp
  | true =>
    rw [hpx hR]
    cases repoS A <;> cases tagS C <;> simp
end Go.Proofs.YtedibjgdangfnaaGreatDoor.V.M
end

section
/- The functions' proofs and the plain laws of rule, side by side. -/
namespace Go.Proofs.YtedibjgdangfnaaGreatDoor.V
theorem ruleNames_true (r : api_Rule) (a b tag : Str) (w0 : W_api_Rule r) (w1 : a.length ≤ 140737488351232) (w2 : b.length ≤ 140737488351232) (w3 : tag.length ≤ 140737488351232) : f_law14_RuleNames r a b tag = some true := M.ruleNames_true r a b tag
end Go.Proofs.YtedibjgdangfnaaGreatDoor.V
end

section
/- Rows: what a row lays of type handles. -/
namespace Go.Proofs.YtedibjgdangfnaaGreatDoor.V
open Go Go.RowKit
set_option linter.unusedVariables false
set_option linter.unusedSimpArgs false
theorem glrep_h {w : World} {g u b o : Nat} (h : w.cell? ⟨g, 0, none⟩ = some (.iface u (.agg #[.pointer (some ⟨b, o, none⟩)]))) : RepD w (fun k => k < w.heap.size) (.ref [.ifc u true [.z (.hnd b o)]] 0) (.pointer (some ⟨g, 0, none⟩)) := by
  refine .ref _ 0 g 0 (fun _ => .iface u (.agg #[.pointer (some ⟨b, o, none⟩)])) (cell?_lt h) (fun j sc hj => ?_) (fun j sc hj => ?_)
  · match j, hj with
    | 0, hj => exact h
  · match j, hj with
    | 0, hj =>
      obtain rfl := Option.some.inj hj
      refine .ifa u _ _ rfl fun j sc hj => ?_
      match j, hj with
      | 0, hj => obtain rfl := Option.some.inj hj; exact .z (.hnd b o)
theorem handle_met {P : Program} {laid : List (String × DataW Unit)} {W : World} {v : String} {d : DataW Unit} {g u b o n : Nat} {ty : TypeId} {name : List UInt8} (h : handlesMet P laid W) (hm : (v, d) ∈ laid) (hf : d.funcsIn? = none)
    (hn : d.handleName? = some name) (hg : P.globalNamed v = some g) (hu : (P.cutTypes.find? (·.1 == "internal/reflectlite.rtype")).map (·.2) = some u) (hsz : P.types.size = n)
    (hone : ((List.range n).filter fun t => P.rowNamed t name) = [ty]) (hh : typeHandle P ty = .pointer (some ⟨b, o, none⟩)) : W.cell? ⟨g, 0, none⟩ = some (.iface u (.agg #[.pointer (some ⟨b, o, none⟩)])) := by
  have h1 := h _ hm
  simp only [hf] at h1
  obtain ⟨name', u', ty', e1, e2, e3, e4, e5⟩ := h1
  obtain rfl := Option.some.inj (hn.symm.trans e1)
  obtain rfl := Option.some.inj (hu.symm.trans e2)
  have hm : ty' ∈ (List.range n).filter fun t => P.rowNamed t name := List.mem_filter.2 ⟨List.mem_range.2 (by rw [← hsz]; exact e3), e4⟩
  rw [hone] at hm
  obtain rfl := List.mem_singleton.1 hm
  rw [hh] at e5
  simpa using World.var?_cell hg e5 0
theorem laid_split {P : Program} {laid : List (String × DataW Unit)} {W : World} (h : laidMetH P laid W) (hne : (laid.filter fun x => x.2.handleName?.isSome).isEmpty = false) : laidMet P (laid.filter fun x => x.2.handleName?.isNone) W ∧ handlesMet P (laid.filter fun x => x.2.handleName?.isSome) W := by
  unfold laidMetH at h
  generalize (laid.filter fun x => x.2.handleName?.isSome) = hs at h hne
  match hs, h, hne with
  | a :: r, h, _ => exact h
end Go.Proofs.YtedibjgdangfnaaGreatDoor.V
end

section
/- The row of the law RuleNames: for every input that the row speaks of the law returns true; each argument reads behind the call as it read before. -/
namespace Go.Proofs.YtedibjgdangfnaaGreatDoor.ruleNames
open Go.ChangeShapes Go.WideShapes Go.ChangeAt Go.RowKit Go.Proofs.YtedibjgdangfnaaGreatDoor.V Go.Proofs.YtedibjgdangfnaaGreatDoorW.PrintWords
set_option linter.unusedVariables false
theorem ops_api_Rule : OpS Tryz.prog 24 9 e_api_Rule W_api_Rule := ops_struct (fun a => api_Rule.mk a.1 a.2.1 a.2.2.1 a.2.2.2.1 a.2.2.2.2.1 a.2.2.2.2.2.1 a.2.2.2.2.2.2.1 a.2.2.2.2.2.2.2.1 a.2.2.2.2.2.2.2.2) Tryz.underlying24 (by kernel_rfl) (OpSF.cons rfl rfl (by kernel_rfl) (ops_int (by kernel_rfl)) (OpSF.cons rfl rfl (by kernel_rfl) (ops_int (by kernel_rfl)) (OpSF.cons rfl rfl (by kernel_rfl) (ops_slice (e := 9) (by kernel_rfl) (by kernel_rfl) (by decide) (ops_str (by kernel_rfl))) (OpSF.cons rfl rfl (by kernel_rfl) (ops_slice (e := 9) (by kernel_rfl) (by kernel_rfl) (by decide) (ops_str (by kernel_rfl))) (OpSF.cons rfl rfl (by kernel_rfl) (ops_str (by kernel_rfl)) (OpSF.cons rfl rfl (by kernel_rfl) (ops_bool (by kernel_rfl)) (OpSF.cons rfl rfl (by kernel_rfl) (ops_bool (by kernel_rfl)) (OpSF.cons rfl rfl (by kernel_rfl) (ops_bool (by kernel_rfl)) (OpSF.one rfl rfl (by kernel_rfl) rfl (ops_str (by kernel_rfl))))))))))) (fun _ => rfl) (by intro a h; exact h)
theorem own : ownKnob Tryz.prog.godebug = none := by kernel_rfl
theorem laidOut : laidOutB Tryz.prog = true := by kernel_rfl
theorem gn0 : Tryz.prog.globalNamed "unicode/utf8.acceptRanges" = some 2 := by kernel_rfl
theorem gt0 : (Tryz.prog.globals[2]?).map (·.type) = some 335 := by kernel_rfl
theorem gn1 : Tryz.prog.globalNamed "unicode/utf8.first" = some 1 := by kernel_rfl
theorem gt1 : (Tryz.prog.globals[1]?).map (·.type) = some 332 := by kernel_rfl
noncomputable def doorW (os : Os) : World := (let w0 := World.doorLaid Tryz.prog 400 os; { w0 with heap := w0.heap.modify 1 fun | .cells _ t fz => .cells ((Go.Pinned.utf8FirstZ.map fun (n : Nat) => Value.int .u8 n).toArray) t fz | o => o })
theorem door_met (os : Os) (args : Array Value) : laidMetH Tryz.prog Rows.ruleNamesRow.laid ((doorW os).forCall (fun _ _ => 0) ⟨#[], args, []⟩).memory :=
  laidMetH_of_parts3 (fuel := 8) (laidMet_of_run' 8 (by kernel_rfl) (by kernel_rfl)) (by kernel_rfl) (by kernel_rfl)
theorem gl_ok {W : World} (h : laidMetH Tryz.prog Rows.ruleNamesRow.laid W) : GlOk glP W (fun k => k < W.heap.size) := fun g cs hg => by cases hg
set_option maxRecDepth 100000 in
theorem lifted (os : Os) (started : os.Started) (H : Type) (enc : TypeId × Value → H) :
    ReturnsInHanded {} Tryz.checked os 5 .any (fun w args => (Rows.ruleNamesSpec.pre enc Tryz.prog Tryz.f5 [] false w args ∧ laidMetH Tryz.prog Rows.ruleNamesRow.laid w) ∧ sizedMet enc Tryz.prog Tryz.f5 (OpenSpec.ofChange Rows.ruleNamesSpec) false w args) (Rows.ruleNamesSpec.post enc Tryz.prog Tryz.f5 false true false false) := by
  refine returnsInHanded_of_change_and (C := Tryz.checked) (X := fun w _ => laidMetH Tryz.prog Rows.ruleNamesRow.laid w) (fun _ _ _ hh h => h.of_heap hh) own started (by kernel_rfl) Tryz.func5
    (ChangeSpec.witness_shaped (enc := enc) (C := Tryz.checked) (os := os) (X := fun w _ => laidMetH Tryz.prog Rows.ruleNamesRow.laid w) false (doorW os) #[.agg #[.int .i64 0, .int .i64 0, .slice none 0 0, .slice none 0 0, .string ByteArray.empty, .bool false, .bool false, .bool false, .string ByteArray.empty], .string ByteArray.empty, .string ByteArray.empty, .string ByteArray.empty] 8 rfl (World.shaped_of_RefB (by kernel_rfl) (by kernel_rfl)) (by kernel_rfl) (by kernel_rfl) (by kernel_rfl) (door_met os _)) ?_
  intro W base args ds gs before hval0 hW hcnd hsz0 hL _
  have hsz : (DataW.weightsEach Tryz.prog (Tryz.f5.params.toList ++ Rows.ruleNamesSpec.plain.varTypes Tryz.prog) (ds ++ gs)).all (· ≤ reachBytes) = true := hsz0
  have hval : ∀ (j : Nat) t v, Tryz.f5.params[j]? = some t → args[j]? = some v → Value.okWide Tryz.prog W .any base t v := hval0
  have hW' := hW
  obtain ⟨p, q, hA0, hV, rfl, hfz, hnd⟩ := hW
  have hA : DataW.TrodAll enc Tryz.prog W 0 (fun _ => true) true Tryz.f5.params.toList args.toList ds p := hA0
  rw [Tryz.params5] at hA hval hsz
  obtain ⟨v0, vs0, d0, ds0, p0, q0, hargs, rfl, rfl, h0, r0⟩ := trodAll_cons hA
  obtain ⟨v1, vs1, d1, ds1, p1, q1, rfl, rfl, rfl, h1, r1⟩ := trodAll_cons r0
  obtain ⟨v2, vs2, d2, ds2, p2, q2, rfl, rfl, rfl, h2, r2⟩ := trodAll_cons r1
  obtain ⟨v3, vs3, d3, ds3, p3, q3, rfl, rfl, rfl, h3, r3⟩ := trodAll_cons r2
  obtain ⟨rfl, rfl, rfl⟩ := trodAll_nil r3
  obtain rfl : args = #[v0, v1, v2, v3] := by cases args; simp_all
  obtain ⟨rfl, rfl⟩ := trodVars_none hV
  have k0 := h0
  have lt0 : ∀ x ∈ p0, x.block < W.heap.size := by obtain ⟨m, hm⟩ := k0; exact DataW.trod_lt m _ _ _ hm
  obtain ⟨a0, e0, w0⟩ := arg_struct Tryz.underlying24 ops_api_Rule (hval 0 24 v0 rfl rfl) h0
  have k1 := h1
  have lt1 : ∀ x ∈ p1, x.block < W.heap.size := by obtain ⟨m, hm⟩ := k1; exact DataW.trod_lt m _ _ _ hm
  obtain ⟨a1, e1, rfl, z1⟩ := arg_str Tryz.underlying9 (hval 1 9 v1 rfl rfl) h1
  have w1 : a1.length ≤ 140737488351232 := sized_string hsz (j := 1) (t := 9) rfl rfl
  have k2 := h2
  have lt2 : ∀ x ∈ p2, x.block < W.heap.size := by obtain ⟨m, hm⟩ := k2; exact DataW.trod_lt m _ _ _ hm
  obtain ⟨a2, e2, rfl, z2⟩ := arg_str Tryz.underlying9 (hval 2 9 v2 rfl rfl) h2
  have w2 : a2.length ≤ 140737488351232 := sized_string hsz (j := 2) (t := 9) rfl rfl
  have k3 := h3
  have lt3 : ∀ x ∈ p3, x.block < W.heap.size := by obtain ⟨m, hm⟩ := k3; exact DataW.trod_lt m _ _ _ hm
  obtain ⟨a3, e3, rfl, z3⟩ := arg_str Tryz.underlying9 (hval 3 9 v3 rfl rfl) h3
  have w3 : a3.length ≤ 140737488351232 := sized_string hsz (j := 3) (t := 9) rfl rfl
  refine (Fun.lawG (xs := [_, _, _, _]) (vs := [v0, v1, v2, v3]) (w := W) (f_law14_RuleNames_ok a0 a1 a2 a3 true (by first | exact ruleNames_true a0 a1 a2 a3 w0 w1 w2 w3 | exact ruleNames_true a0 a1 a2 a3 | (apply ruleNames_true <;> assumption))) (gl_ok hL) ⟨e0, e1, e2, e3, trivial⟩).mono fun e W' ⟨he, bel⟩ => ?_
  subst he
  exact ⟨_, rfl, _, _, _, [], _, [], hW', trodAll_mk1 (shut_bool Tryz.underlying4 _), (trodAll_cons_mk (Below.trod laidOut (by kernel_rfl) (of_decide_eq_true (by kernel_rfl)) k0 bel lt0) (trodAll_cons_mk (Below.trod laidOut (by kernel_rfl) (of_decide_eq_true (by kernel_rfl)) k1 bel lt1) (trodAll_cons_mk (Below.trod laidOut (by kernel_rfl) (of_decide_eq_true (by kernel_rfl)) k2 bel lt2) (trodAll_cons_mk (Below.trod laidOut (by kernel_rfl) (of_decide_eq_true (by kernel_rfl)) k3 bel lt3) trodAll_mk0)))), rfl, bel.frame _, fun h => by cases h⟩
theorem over : Rows.ruleNamesRow.holds Tryz.pinned (OpenSpec.ofChange Rows.ruleNamesSpec) :=
  OpenClaim.holds_of_wide 5 Tryz.f5 rfl rfl rfl rfl rfl rfl rfl ⟨rfl, rfl, rfl, rfl, rfl⟩ rfl rfl rfl rfl rfl (by kernel_rfl) Tryz.func5 (by kernel_rfl)
    (of_decide_eq_true (by kernel_rfl)) (by unfold Func.isWrapper; first | (rw [if_pos (by decide +kernel)]; kernel_rfl) | (rw [if_neg (by decide +kernel)]; exact ⟨rfl, rfl⟩))
    (fun os started H enc _ => lifted os started H enc)
theorem proved : Rows.RuleNamesSaid := over
end Go.Proofs.YtedibjgdangfnaaGreatDoor.ruleNames
namespace Go.Proofs.YtedibjgdangfnaaGreatDoor
/-- The statement, under a short name, for the claim. -/
theorem ruleNames_holds : Rows.RuleNamesCardSaid :=
  Claim7.holds_tied_plain_at .later [] [.data, .pinned] true (true, "38722e2a6d65258c32db6bf8a20ce7a2ffce9bfee3ce1f428c68c19ecfbb0a85") true
    ruleNames.proved (fun _ h => by cases h) (by kernel_rfl) (fun _ h => by cases h) ruleNames_row_tie rfl ⟨rfl, rfl⟩ (by kernel_rfl) rfl
    (fun f fn hf hfn => by
      obtain rfl : f = 5 := Option.some.inj ((show Tryz.prog.funcNamed "consignor/consignorlaw14.RuleNames" = some 5 by kernel_rfl).symm.trans hf) |>.symm
      obtain rfl : fn = Tryz.f5 := (Option.some.inj (Tryz.func5.symm.trans hfn)).symm
      exact ⟨by kernel_rfl, fun j t ht => by
        rw [Tryz.params5] at ht
        have hm : t ∈ [24, 9, 9, 9] := by simpa using Array.mem_of_getElem? ht
        have hall : ([24, 9, 9, 9].all fun u => !Tryz.prog.wantsStandIn u) = true := by kernel_rfl
        exact (show Tryz.prog.wantsStandIn t = false by simpa using List.all_eq_true.1 hall t hm)⟩)
    (by kernel_rfl)
#print axioms ruleNames_holds
end Go.Proofs.YtedibjgdangfnaaGreatDoor
end
